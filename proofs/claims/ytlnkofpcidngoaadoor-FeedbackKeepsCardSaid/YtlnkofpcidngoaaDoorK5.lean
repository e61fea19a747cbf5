/- Several texts in one. -/
import Derived.Test.YtlnkofpcidngoaaDoorK0
import Derived.Test.YtlnkofpcidngoaaDoorK2
import Derived.Test.YtlnkofpcidngoaaDoorK3
import Derived.Test.YtlnkofpcidngoaaDoorK1
import Derived.Deep.Fields
namespace Go.Proofs.YtlnkofpcidngoaaDoor
open Go.ChangeShapes Go.WideShapes Go.ChangeAt Go.RowKit
def foldS (x : Int) : Int := if x ≤ 0 then 0 else (x - 1) % 65535 + 1
def words : List Int → Int
 | a :: b :: r => 256 * a + b + words r
 | [a] => 256 * a
 | [] => 0
def addS (sum : Int) (bs : List Int) : Int := foldS (foldS sum + words bs)
theorem foldS_rng (x : Int) : 0 ≤ foldS x ∧ foldS x ≤ 65535 := by unfold foldS; split <;> omega
theorem foldS_small {x : Int} (h0 : 0 ≤ x) (h1 : x ≤ 65535) : foldS x = x := by unfold foldS; split <;> omega
theorem foldS_step {x : Int} (h : 65535 < x) : foldS (x % 65536 + x / 65536) = foldS x := by unfold foldS; split <;> split <;> omega
theorem foldS_neg {x : Int} (h : x < 0) : foldS x = 0 := by unfold foldS; split <;> omega
theorem foldS_foldS (x : Int) : foldS (foldS x) = foldS x := foldS_small (foldS_rng x).1 (foldS_rng x).2
theorem foldS_add {x y : Int} (h0 : 0 ≤ x) (h1 : 0 ≤ y) : foldS (foldS x + y) = foldS (x + y) := by
 unfold foldS; split <;> split <;> split <;> omega
def bytesOk (l : List Int) : Prop := ∀ x ∈ l, 0 ≤ x ∧ x ≤ 255
theorem words_rng : ∀ (l : List Int), bytesOk l → 0 ≤ words l ∧ 2 * words l ≤ 65535 * (l.length + 1)
 | a :: b :: r, h => by
   have ha := h a (by simp); have hb := h b (by simp)
   have ih := words_rng r (fun x hx => h x (by simp [hx]))
   simp only [words, List.length_cons]; push_cast; omega
 | [a], h => by
   have ha := h a (by simp)
   simp only [words, List.length_cons, List.length_nil]; omega
 | [], _ => by simp [words]
theorem words_drop1 (l : List Int) (i : Nat) (h : i + 1 < l.length) : words (l.drop i) = 256 * l[i]?.getD 0 + l[i + 1]?.getD 0 + words (l.drop (i + 2)) := by
 rw [List.drop_eq_getElem_cons (show i < l.length by omega), List.drop_eq_getElem_cons h]
 simp [words, show i < l.length by omega, h]
theorem words_drop2 (l : List Int) (i : Nat) (h : i < l.length) (h2 : ¬ i + 1 < l.length) : words (l.drop i) = 256 * l[i]?.getD 0 ∧ words (l.drop (i + 2)) = 0 := by
 rw [List.drop_eq_getElem_cons h, List.drop_eq_nil_of_le (show l.length ≤ i + 1 by omega), List.drop_eq_nil_of_le (show l.length ≤ i + 2 by omega)]
 simp [words, h]
theorem words_end (l : List Int) (i : Nat) (h : l.length ≤ i) : words (l.drop i) = 0 := by
 rw [List.drop_eq_nil_of_le h]; rfl
theorem getD_byte {l : List Int} (h : bytesOk l) (i : Nat) : 0 ≤ l[i]?.getD 0 ∧ l[i]?.getD 0 ≤ 255 := by
 rcases Nat.lt_or_ge i l.length with hi | hi
 · simp only [List.getElem?_eq_getElem hi, Option.getD_some]; exact h _ (List.getElem_mem hi)
 · simp [List.getElem?_eq_none hi]
theorem Rd.bytes {w : World} {a : Option Addr} {len : Nat} {xs : List Int} (h : Rd .u8 w a len xs) : bytesOk xs := fun x hx => bounds_u8 (h.2.1 x hx)
set_option maxRecDepth 20000 in
set_option maxHeartbeats 2000000 in
theorem rfold_any (x : Int) (w : World) (hx : x ≤ 9223372036854775807) :
   Calls Tryd.prog 105 #[.int .i64 x] w fun e w' => e = .returned (.int .i64 (foldS x)) ∧ w = w' := by
 by_cases h : x < 0
 · go_enter Tryd.func105, Tryd.ntmps105
   go_wp2
   go_ret
   exact ⟨ret_i64 (foldS_neg h).symm, rfl⟩
 · go_enter Tryd.func105, Tryd.ntmps105
   go_wp2
   go_loop [0] (fun s => ∃ y : Int, 0 ≤ y ∧ y ≤ x ∧ foldS y = foldS x ∧ s = .int .i64 y) (fun s => (intOf s).toNat)
   case atStart => exact ⟨x, by omega, by omega, rfl, rfl⟩
   case round =>
     obtain ⟨y, hy0, hy1, hy2, rfl⟩ := hrel
     have HY := zqd hy2
     clear hy2
     by_cases hlt : 65535 < y
     · go_wp2
       go_round
       case rel => exact ⟨y % 65536 + y / 65536, by omega, by omega, by rw [foldS_step hlt, HY.out], rfl⟩
       case measure => simp [intOf]; omega
     · go_wp2
       go_ret
       exact ⟨ret_i64 (by rw [← HY.out, foldS_small (by omega) (by omega)]), rfl⟩
set_option maxRecDepth 20000 in
set_option maxHeartbeats 2000000 in
theorem radd_any (sum : Int) (a : Option Addr) (len cap : Nat) (bs : List Int) (w : World) (hr : Rd .u8 w a len bs) (hL : len ≤ 140737488355328) (hs : sum ≤ 9223372036854775807) :
   Calls Tryd.prog 100 #[.int .i64 sum, .slice a len cap] w fun e w' => e = .returned (.int .i64 (addS sum bs)) ∧ w = w' := by
 have hb := hr.bytes
 obtain ⟨hlen, _, _, hcell⟩ := hr
 have HL := zqd hlen
 have hf := foldS_rng sum
 have hw := words_rng bs hb
 rw [hlen] at hw
 have hall := fun i => getD_byte hb i
 rcases hcell with h0 | ⟨b, off, rfl, hlt, hc⟩
 · subst h0
   have : bs = [] := List.eq_nil_of_length_eq_zero hlen
   subst this
   clear hall hb hw hlen
   go_enter Tryd.func100, Tryd.ntmps100
   go_wp2_with ((go_at_call 105; refine (rfold_any _ _ (by omega)).mono ?_; rintro e w' ⟨rfl, rfl⟩))
   go_loop [5, 6, 7] (fun t i _ => t = .int .i64 (foldS sum) ∧ i = .int .i64 0) (fun _ i _ => 0)
   case atStart => exact ⟨rfl, rfl⟩
   case round =>
     obtain ⟨rfl, rfl⟩ := hrel
     go_wp2_with ((go_at_call 105; refine (rfold_any _ _ (by omega)).mono ?_; rintro e w' ⟨rfl, rfl⟩))
     go_ret
     exact ⟨ret_i64 (by simp [addS, words, foldS_foldS]), rfl⟩
 · clear hlen
   have HC := zqd hc
   have HA := zqd hall
   have HB := zqd hb
   clear hc hall hb
   go_enter Tryd.func100, Tryd.ntmps100
   go_wp2_with ((go_at_call 105; refine (rfold_any _ _ (by omega)).mono ?_; rintro e w' ⟨rfl, rfl⟩))
   go_loop [5, 6, 7] (fun t i _ => ∃ (T : Int) (k : Nat), k ≤ len + 1 ∧ 0 ≤ T ∧ T ≤ 65535 ∧ foldS (T + words (bs.drop k)) = addS sum bs ∧ foldS T = T ∧ t = .int .i64 T ∧ i = .int .i64 k) (fun _ i _ => len + 1 - (intOf i).toNat)
   case atStart => exact ⟨_, 0, by omega, hf.1, hf.2, rfl, foldS_foldS _, rfl, rfl⟩
   case round =>
     obtain ⟨T, k, hk, hT, hT2, hTk, hTT, rfl, rfl⟩ := hrel
     have hd0 := (words_rng (bs.drop (k + 2)) (fun x hx => HB.out x (List.mem_of_mem_drop hx))).1
     have HD := zqd hd0
     have HT := zqd hTk
     have HTT := zqd hTT
     clear hTk hTT hd0
     by_cases h1 : k + 1 < len
     · have c0 := HC.out k (by omega)
       have c1 := HC.out (k + 1) h1
       have b0 := HA.out k
       have b1 := HA.out (k + 1)
       go_wp2_with ((go_at_call 105; refine (rfold_any _ _ (by omega)).mono ?_; rintro e w' ⟨rfl, rfl⟩))
       have hd := words_drop1 bs k (by rw [HL.out]; exact h1)
       have ht := HT.out
       have hr := foldS_rng (T + (256 * bs[k]?.getD 0 + bs[k + 1]?.getD 0))
       exact ⟨⟨_, k + 2, by omega, hr.1, hr.2, by rw [← ht, hd, foldS_add (by omega) HD.out]; congr 1; omega, foldS_foldS _, rfl, by go_num⟩, by simp [intOf]; omega⟩
     · by_cases h2 : k < len
       · have c0 := HC.out k (by omega)
         have b0 := HA.out k
         go_wp2_with ((go_at_call 105; refine (rfold_any _ _ (by omega)).mono ?_; rintro e w' ⟨rfl, rfl⟩))
         have hd := words_drop2 bs k (by rw [HL.out]; exact h2) (by rw [HL.out]; exact h1)
         have ht := HT.out
         have hr := foldS_rng (T + 256 * bs[k]?.getD 0)
         exact ⟨⟨_, k + 2, by omega, hr.1, hr.2, by rw [← ht, hd.1, hd.2, Int.add_zero, foldS_foldS], foldS_foldS _, rfl, by go_num⟩, by simp [intOf]; omega⟩
       · go_wp2_with ((go_at_call 105; refine (rfold_any _ _ (by omega)).mono ?_; rintro e w' ⟨rfl, rfl⟩))
         go_ret
         exact ⟨ret_i64 (by rw [← HT.out, words_end _ _ (by rw [HL.out]; omega), Int.add_zero, HTT.out]), rfl⟩
set_option maxRecDepth 20000 in
set_option maxHeartbeats 2000000 in
theorem rsum_any (a : Option Addr) (len cap : Nat) (bs : List Int) (w : World) (hr : Rd .u8 w a len bs) (hL : len ≤ 140737488355328) :
   Calls Tryd.prog 84 #[.slice a len cap] w fun e w' => e = .returned (.int .i64 (65535 - addS 0 bs)) ∧ w = w' := by
 have h1 := foldS_rng (foldS 0 + words bs)
 have h2 : 0 ≤ addS 0 bs ∧ addS 0 bs ≤ 65535 := h1
 clear h1
 have HR := zqd hr
 clear hr
 go_enter Tryd.func84, Tryd.ntmps84
 go_wp2_with ((go_at_call 100; refine (radd_any _ _ _ _ _ _ HR.out hL (by omega)).mono ?_; rintro e w' ⟨rfl, rfl⟩))
 go_ret
 exact ⟨rfl, rfl⟩
def getN (xs : List Int) (o : Nat) : Nat → Int
 | 0 => 0
 | j + 1 => 256 * getN xs o j + xs[o + j]?.getD 0
theorem getN_rng {xs : List Int} (hb : bytesOk xs) (o : Nat) : ∀ j, 0 ≤ getN xs o j ∧ getN xs o j < 256 ^ j
 | 0 => by simp [getN]
 | j + 1 => by
   obtain ⟨h1, h2⟩ := getN_rng hb o j
   have h3 := getD_byte hb (o + j)
   simp only [getN, Int.pow_succ]
   omega
set_option maxRecDepth 20000 in
set_option maxHeartbeats 2000000 in
theorem rget_any (a : Option Addr) (len cap : Nat) (xs : List Int) (o n : Nat) (w : World) (hr : Rd .u8 w a len xs) (h1 : o + n ≤ len) (h2 : n ≤ 4) (h3 : len ≤ 100000) (h4 : 0 < len) :
   Calls Tryd.prog 54 #[.slice a len cap, .int .i64 o, .int .i64 n] w fun e w' => e = .returned (.int .i64 (getN xs o n)) ∧ w = w' := by
 obtain ⟨b, off, rfl, hb, hc⟩ := hr.some h4
 have HC := zqd hc
 have HB := zqd hr.bytes
 clear hr hc
 go_enter Tryd.func54, Tryd.ntmps54
 go_wp2_with fail
 go_loopw [7, 8] (fun v i wr => ∃ j : Nat, j ≤ n ∧ v = .int .i64 (getN xs o j) ∧ i = .int .i64 j ∧ w = wr) (fun _ i _ => n - (intOf i).toNat)
 case atStart => exact ⟨0, by omega, rfl, rfl, rfl⟩
 case round =>
   obtain ⟨j, hj, rfl, rfl, rfl⟩ := hrel
   obtain ⟨g1, g2⟩ := getN_rng HB.out o j
   have hp : (256 : Int) ^ j ≤ 4294967296 := by
     have hj4 : j = 0 ∨ j = 1 ∨ j = 2 ∨ j = 3 ∨ j = 4 := by omega
     rcases hj4 with rfl | rfl | rfl | rfl | rfl <;> decide
   have g3 : getN xs o j < 4294967296 := by omega
   clear g2 hp
   by_cases hlt : j < n
   · have c1 := HC.out (o + j) (by omega)
     obtain ⟨y, hy⟩ : ∃ y, xs[o + j]?.getD 0 = y := ⟨_, rfl⟩
     have hyb := getD_byte HB.out (o + j)
     rw [hy] at c1 hyb
     obtain ⟨y1, y2⟩ := hyb
     obtain ⟨G, hG⟩ : ∃ G, getN xs o j = G := ⟨_, rfl⟩
     have hn : 256 * G + y = getN xs o (j + 1) := by rw [getN, hG, hy]
     have HN := zqd hn
     rw [hG] at g1 g3 ⊢
     clear hn hy hG
     go_wp2_with fail
     go_roundw
     case rel => exact ⟨j + 1, by omega, by rw [← HN.out], by go_num, by first | rfl | trivial⟩
     case measure => (simp [intOf] <;> omega)
   · obtain rfl : j = n := by omega
     go_wp2_with fail
     go_ret
     exact ⟨rfl, by first | rfl | trivial⟩
theorem OwnI.cut {B : Nat} {e : TypeId} {k : IntKind} {w : World} {g n cap : Nat} {xs : List Int} (h : OwnI B e k w (.some ⟨g, 0, none⟩) n cap xs) (m : Nat) (hm : m ≤ n) : OwnI B e k w (.some ⟨g, 0, none⟩) m cap (xs.take m) := by
 have hl := h.len
 refine ⟨?_, fun y hy => h.wf y (List.mem_of_mem_take hy)⟩
 refine ⟨by simp; omega, .inr ?_⟩
 rcases h.row.2 with ⟨hv, h0⟩ | ⟨g', cap', cur, hv, hb, hg, hn, hx, hs, ht⟩
 · simp at hv
 · injection hv with e1 e2 e3
   injection e1 with e1
   injection e1 with e1
   subst e1
   subst e3
   refine ⟨_, _, cur, rfl, hb, hg, by omega, hx, hs, ?_⟩
   rw [List.map_take, ← ht, List.take_take, show min m (n * 1) = m * 1 by omega]
end Go.Proofs.YtlnkofpcidngoaaDoor
namespace Go.Proofs.YtlnkofpcidngoaaDoor
open Go.ChangeShapes Go.WideShapes Go.ChangeAt Go.RowKit Go.Deep
section
variable {H : Type} {enc : TypeId × Value → H} {P : Program}
end
end Go.Proofs.YtlnkofpcidngoaaDoor
