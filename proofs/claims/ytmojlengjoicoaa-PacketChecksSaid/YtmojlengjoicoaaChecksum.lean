/- Contracts of layer 4 (checksum) and its reference. -/
import Derived.Test.YtmojlengjoicoaaBase
import Derived.Test.YtmojlengjoicoaaMem
namespace Go.Proofs.Ytmojlengjoicoaa
open Go.ChangeShapes Go.WideShapes Go.ChangeAt Go.RowKit

/-! ### plain -/
def foldS (x : Int) : Int := if x ≤ 0 then 0 else (x - 1) % 65535 + 1
def words : List Int → Int
  | a :: b :: r => 256 * a + b + words r
  | [a] => 256 * a
  | [] => 0
def addS (sum : Int) (bs : List Int) : Int := foldS (foldS sum + words bs)

theorem foldS_rng (x : Int) : 0 ≤ foldS x ∧ foldS x ≤ 65535 := by unfold foldS; split <;> omega
theorem foldS_small {x : Int} (h0 : 0 ≤ x) (h1 : x ≤ 65535) : foldS x = x := by unfold foldS; split <;> omega
theorem foldS_step {x : Int} (h : 65535 < x) : foldS (x % 65536 + x / 65536) = foldS x := by unfold foldS; split <;> split <;> omega
theorem foldS_neg {x : Int} (h : x < 0) : foldS x = 0 := by unfold foldS; split <;> omega
theorem foldS_foldS (x : Int) : foldS (foldS x) = foldS x := foldS_small (foldS_rng x).1 (foldS_rng x).2
theorem foldS_add {x y : Int} (h0 : 0 ≤ x) (h1 : 0 ≤ y) : foldS (foldS x + y) = foldS (x + y) := by
  unfold foldS; split <;> split <;> split <;> omega

def isByte (x : Int) : Prop := 0 ≤ x ∧ x ≤ 255
def bytesOk (l : List Int) : Prop := ∀ x ∈ l, 0 ≤ x ∧ x ≤ 255

theorem words_rng : ∀ (l : List Int), bytesOk l → 0 ≤ words l ∧ 2 * words l ≤ 65535 * (l.length + 1)
  | a :: b :: r, h => by
    have ha := h a (by simp); have hb := h b (by simp)
    have ih := words_rng r (fun x hx => h x (by simp [hx]))
    simp only [words, List.length_cons]; push_cast; omega
  | [a], h => by
    have ha := h a (by simp)
    simp only [words, List.length_cons, List.length_nil]; omega
  | [], _ => by simp [words]
theorem words_drop1 (l : List Int) (i : Nat) (h : i + 1 < l.length) : words (l.drop i) = 256 * l[i]?.getD 0 + l[i + 1]?.getD 0 + words (l.drop (i + 2)) := by
  rw [List.drop_eq_getElem_cons (show i < l.length by omega), List.drop_eq_getElem_cons h]
  simp [words, show i < l.length by omega, h]
theorem words_drop2 (l : List Int) (i : Nat) (h : i < l.length) (h2 : ¬ i + 1 < l.length) : words (l.drop i) = 256 * l[i]?.getD 0 ∧ words (l.drop (i + 2)) = 0 := by
  rw [List.drop_eq_getElem_cons h, List.drop_eq_nil_of_le (show l.length ≤ i + 1 by omega), List.drop_eq_nil_of_le (show l.length ≤ i + 2 by omega)]
  simp [words, h]
theorem words_end (l : List Int) (i : Nat) (h : l.length ≤ i) : words (l.drop i) = 0 := by
  rw [List.drop_eq_nil_of_le h]; rfl
theorem getD_byte {l : List Int} (h : bytesOk l) (i : Nat) : 0 ≤ l[i]?.getD 0 ∧ l[i]?.getD 0 ≤ 255 := by
  rcases Nat.lt_or_ge i l.length with hi | hi
  · simp only [List.getElem?_eq_getElem hi, Option.getD_some]; exact h _ (List.getElem_mem hi)
  · simp [List.getElem?_eq_none hi]

theorem Rd.bytes {w : World} {a : Option Addr} {len : Nat} {xs : List Int} (h : Rd .u8 w a len xs) : bytesOk xs := fun x hx => bounds_u8 (h.2.1 x hx)

/-! ### Fold -/
theorem fold_any (x : Int) (w : World) (hx : x ≤ 9223372036854775807) :
    Calls Try.prog 76 #[.int .i64 x] w fun e w' => e = .returned (.int .i64 (foldS x)) ∧ w = w' := by
  by_cases h : x < 0
  · go_enter Try.func76, Try.ntmps76
    go_wp2
    go_ret
    exact ⟨ret_i64 (foldS_neg h).symm, rfl⟩
  · go_enter Try.func76, Try.ntmps76
    go_wp2
    go_loop [0] (fun s => ∃ y : Int, 0 ≤ y ∧ y ≤ x ∧ foldS y = foldS x ∧ s = .int .i64 y) (fun s => (intOf s).toNat)
    case atStart => exact ⟨x, by omega, by omega, rfl, rfl⟩
    case round =>
      obtain ⟨y, hy0, hy1, hy2, rfl⟩ := hrel
      have HY := Lib.hid hy2
      clear hy2
      by_cases hlt : 65535 < y
      · go_wp2
        go_round
        case rel => exact ⟨y % 65536 + y / 65536, by omega, by omega, by rw [foldS_step hlt, HY.out], rfl⟩
        case measure => simp [intOf]; omega
      · go_wp2
        go_ret
        exact ⟨ret_i64 (by rw [← HY.out, foldS_small (by omega) (by omega)]), rfl⟩

/-! ### Add -/
theorem add_any (sum : Int) (a : Option Addr) (len cap : Nat) (bs : List Int) (w : World) (hr : Rd .u8 w a len bs) (hL : len ≤ 140737488355328) (hs : sum ≤ 9223372036854775807) :
    Calls Try.prog 69 #[.int .i64 sum, .slice a len cap] w fun e w' => e = .returned (.int .i64 (addS sum bs)) ∧ w = w' := by
  have hb := hr.bytes
  obtain ⟨hlen, _, _, hcell⟩ := hr
  have HL := Lib.hid hlen
  have hf := foldS_rng sum
  have hw := words_rng bs hb
  rw [hlen] at hw
  have hall := fun i => getD_byte hb i
  rcases hcell with h0 | ⟨b, off, rfl, hlt, hc⟩
  · subst h0
    have : bs = [] := List.eq_nil_of_length_eq_zero hlen
    subst this
    clear hall hb hw hlen
    go_enter Try.func69, Try.ntmps69
    go_wp2_with ((go_at_call 76; refine (fold_any _ _ (by omega)).mono ?_; rintro e w' ⟨rfl, rfl⟩))
    go_loop [5, 6] (fun t i => t = .int .i64 (foldS sum) ∧ i = .int .i64 0) (fun _ i => 0)
    case atStart => exact ⟨rfl, rfl⟩
    case round =>
      obtain ⟨rfl, rfl⟩ := hrel
      go_wp2_with ((go_at_call 76; refine (fold_any _ _ (by omega)).mono ?_; rintro e w' ⟨rfl, rfl⟩))
      go_ret
      exact ⟨ret_i64 (by simp [addS, words]), rfl⟩
  · clear hlen
    have HC := Lib.hid hc
    have HA := Lib.hid hall
    have HB := Lib.hid hb
    clear hc hall hb
    go_enter Try.func69, Try.ntmps69
    go_wp2_with ((go_at_call 76; refine (fold_any _ _ (by omega)).mono ?_; rintro e w' ⟨rfl, rfl⟩))
    go_loop [5, 6] (fun t i => ∃ (T : Int) (k : Nat), k ≤ len + 1 ∧ 0 ≤ T ∧ T + words (bs.drop k) = foldS sum + words bs ∧ t = .int .i64 T ∧ i = .int .i64 k) (fun _ i => len + 1 - (intOf i).toNat)
    case atStart => exact ⟨_, 0, by omega, hf.1, rfl, rfl, rfl⟩
    case round =>
      obtain ⟨T, k, hk, hT, hTk, rfl, rfl⟩ := hrel
      have hd := (words_rng (bs.drop k) (fun x hx => HB.out x (List.mem_of_mem_drop hx))).1
      have hT2 : T ≤ foldS sum + words bs := by omega
      have HT := Lib.hid hTk
      clear hTk hd
      by_cases h1 : k + 1 < len
      · have c0 := HC.out k (by omega)
        have c1 := HC.out (k + 1) h1
        have b0 := HA.out k
        have b1 := HA.out (k + 1)
        go_wp2_with ((go_at_call 76; refine (fold_any _ _ (by omega)).mono ?_; rintro e w' ⟨rfl, rfl⟩))
        have hd := words_drop1 bs k (by rw [HL.out]; exact h1)
        have ht := HT.out
        exact ⟨⟨_, k + 2, by omega, by omega, by rw [← ht, hd]; omega, rfl, by go_num⟩, by simp [intOf]; omega⟩
      · by_cases h2 : k < len
        · have c0 := HC.out k (by omega)
          have b0 := HA.out k
          go_wp2_with ((go_at_call 76; refine (fold_any _ _ (by omega)).mono ?_; rintro e w' ⟨rfl, rfl⟩))
          have hd := words_drop2 bs k (by rw [HL.out]; exact h2) (by rw [HL.out]; exact h1)
          have ht := HT.out
          exact ⟨⟨_, k + 2, by omega, by omega, by rw [← ht, hd.1, hd.2]; omega, rfl, by go_num⟩, by simp [intOf]; omega⟩
        · go_wp2_with ((go_at_call 76; refine (fold_any _ _ (by omega)).mono ?_; rintro e w' ⟨rfl, rfl⟩))
          go_ret
          exact ⟨ret_i64 (by rw [addS, ← HT.out, words_end _ _ (by rw [HL.out]; omega), Int.add_zero]), rfl⟩

theorem sum_any (a : Option Addr) (len cap : Nat) (bs : List Int) (w : World) (hr : Rd .u8 w a len bs) (hL : len ≤ 140737488355328) :
    Calls Try.prog 68 #[.slice a len cap] w fun e w' => e = .returned (.int .i64 (65535 - addS 0 bs)) ∧ w = w' := by
  have h1 := foldS_rng (foldS 0 + words bs)
  have h2 : 0 ≤ addS 0 bs ∧ addS 0 bs ≤ 65535 := h1
  clear h1
  have HR := Lib.hid hr
  clear hr
  go_enter Try.func68, Try.ntmps68
  go_wp2_with ((go_at_call 69; refine (add_any _ _ _ _ _ _ HR.out hL (by omega)).mono ?_; rintro e w' ⟨rfl, rfl⟩))
  go_ret
  exact ⟨rfl, rfl⟩

/-! ### the reference -/
theorem rfold_any (x : Int) (w : World) (hx : x ≤ 9223372036854775807) :
    Calls Try.prog 77 #[.int .i64 x] w fun e w' => e = .returned (.int .i64 (foldS x)) ∧ w = w' := by
  by_cases h : x < 0
  · go_enter Try.func77, Try.ntmps77
    go_wp2
    go_ret
    exact ⟨ret_i64 (foldS_neg h).symm, rfl⟩
  · go_enter Try.func77, Try.ntmps77
    go_wp2
    go_loop [0] (fun s => ∃ y : Int, 0 ≤ y ∧ y ≤ x ∧ foldS y = foldS x ∧ s = .int .i64 y) (fun s => (intOf s).toNat)
    case atStart => exact ⟨x, by omega, by omega, rfl, rfl⟩
    case round =>
      obtain ⟨y, hy0, hy1, hy2, rfl⟩ := hrel
      have HY := Lib.hid hy2
      clear hy2
      by_cases hlt : 65535 < y
      · go_wp2
        go_round
        case rel => exact ⟨y % 65536 + y / 65536, by omega, by omega, by rw [foldS_step hlt, HY.out], rfl⟩
        case measure => simp [intOf]; omega
      · go_wp2
        go_ret
        exact ⟨ret_i64 (by rw [← HY.out, foldS_small (by omega) (by omega)]), rfl⟩

theorem radd_any (sum : Int) (a : Option Addr) (len cap : Nat) (bs : List Int) (w : World) (hr : Rd .u8 w a len bs) (hL : len ≤ 140737488355328) (hs : sum ≤ 9223372036854775807) :
    Calls Try.prog 72 #[.int .i64 sum, .slice a len cap] w fun e w' => e = .returned (.int .i64 (addS sum bs)) ∧ w = w' := by
  have hb := hr.bytes
  obtain ⟨hlen, _, _, hcell⟩ := hr
  have HL := Lib.hid hlen
  have hf := foldS_rng sum
  have hw := words_rng bs hb
  rw [hlen] at hw
  have hall := fun i => getD_byte hb i
  rcases hcell with h0 | ⟨b, off, rfl, hlt, hc⟩
  · subst h0
    have : bs = [] := List.eq_nil_of_length_eq_zero hlen
    subst this
    clear hall hb hw hlen
    go_enter Try.func72, Try.ntmps72
    go_wp2_with ((go_at_call 77; refine (rfold_any _ _ (by omega)).mono ?_; rintro e w' ⟨rfl, rfl⟩))
    go_loop [5, 6, 7] (fun t i _ => t = .int .i64 (foldS sum) ∧ i = .int .i64 0) (fun _ i _ => 0)
    case atStart => exact ⟨rfl, rfl⟩
    case round =>
      obtain ⟨rfl, rfl⟩ := hrel
      go_wp2_with ((go_at_call 77; refine (rfold_any _ _ (by omega)).mono ?_; rintro e w' ⟨rfl, rfl⟩))
      go_ret
      exact ⟨ret_i64 (by simp [addS, words, foldS_foldS]), rfl⟩
  · clear hlen
    have HC := Lib.hid hc
    have HA := Lib.hid hall
    have HB := Lib.hid hb
    clear hc hall hb
    go_enter Try.func72, Try.ntmps72
    go_wp2_with ((go_at_call 77; refine (rfold_any _ _ (by omega)).mono ?_; rintro e w' ⟨rfl, rfl⟩))
    go_loop [5, 6, 7] (fun t i _ => ∃ (T : Int) (k : Nat), k ≤ len + 1 ∧ 0 ≤ T ∧ T ≤ 65535 ∧ foldS (T + words (bs.drop k)) = addS sum bs ∧ foldS T = T ∧ t = .int .i64 T ∧ i = .int .i64 k) (fun _ i _ => len + 1 - (intOf i).toNat)
    case atStart => exact ⟨_, 0, by omega, hf.1, hf.2, rfl, foldS_foldS _, rfl, rfl⟩
    case round =>
      obtain ⟨T, k, hk, hT, hT2, hTk, hTT, rfl, rfl⟩ := hrel
      have hd0 := (words_rng (bs.drop (k + 2)) (fun x hx => HB.out x (List.mem_of_mem_drop hx))).1
      have HD := Lib.hid hd0
      have HT := Lib.hid hTk
      have HTT := Lib.hid hTT
      clear hTk hTT hd0
      by_cases h1 : k + 1 < len
      · have c0 := HC.out k (by omega)
        have c1 := HC.out (k + 1) h1
        have b0 := HA.out k
        have b1 := HA.out (k + 1)
        go_wp2_with ((go_at_call 77; refine (rfold_any _ _ (by omega)).mono ?_; rintro e w' ⟨rfl, rfl⟩))
        have hd := words_drop1 bs k (by rw [HL.out]; exact h1)
        have ht := HT.out
        have hr := foldS_rng (T + (256 * bs[k]?.getD 0 + bs[k + 1]?.getD 0))
        exact ⟨⟨_, k + 2, by omega, hr.1, hr.2, by rw [← ht, hd, foldS_add (by omega) HD.out]; congr 1; omega, foldS_foldS _, rfl, by go_num⟩, by simp [intOf]; omega⟩
      · by_cases h2 : k < len
        · have c0 := HC.out k (by omega)
          have b0 := HA.out k
          go_wp2_with ((go_at_call 77; refine (rfold_any _ _ (by omega)).mono ?_; rintro e w' ⟨rfl, rfl⟩))
          have hd := words_drop2 bs k (by rw [HL.out]; exact h2) (by rw [HL.out]; exact h1)
          have ht := HT.out
          have hr := foldS_rng (T + 256 * bs[k]?.getD 0)
          exact ⟨⟨_, k + 2, by omega, hr.1, hr.2, by rw [← ht, hd.1, hd.2, Int.add_zero, foldS_foldS], foldS_foldS _, rfl, by go_num⟩, by simp [intOf]; omega⟩
        · go_wp2_with ((go_at_call 77; refine (rfold_any _ _ (by omega)).mono ?_; rintro e w' ⟨rfl, rfl⟩))
          go_ret
          exact ⟨ret_i64 (by rw [← HT.out, words_end _ _ (by rw [HL.out]; omega), Int.add_zero, HTT.out]), rfl⟩

theorem rsum_any (a : Option Addr) (len cap : Nat) (bs : List Int) (w : World) (hr : Rd .u8 w a len bs) (hL : len ≤ 140737488355328) :
    Calls Try.prog 53 #[.slice a len cap] w fun e w' => e = .returned (.int .i64 (65535 - addS 0 bs)) ∧ w = w' := by
  have h1 := foldS_rng (foldS 0 + words bs)
  have h2 : 0 ≤ addS 0 bs ∧ addS 0 bs ≤ 65535 := h1
  clear h1
  have HR := Lib.hid hr
  clear hr
  go_enter Try.func53, Try.ntmps53
  go_wp2_with ((go_at_call 72; refine (radd_any _ _ _ _ _ _ HR.out hL (by omega)).mono ?_; rintro e w' ⟨rfl, rfl⟩))
  go_ret
  exact ⟨rfl, rfl⟩
end Go.Proofs.Ytmojlengjoicoaa
