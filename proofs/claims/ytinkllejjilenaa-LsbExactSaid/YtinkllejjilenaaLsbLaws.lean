/- The laws of layer 7 (lsb): the sanity check; Least of the reference. -/
import Derived.Test.YtinkllejjilenaaLsbRef
import Derived.Test.YtinkllejjilenaaLsbPlain
namespace Go.Proofs.Ytinkllejjilenaa
open Go.ChangeShapes Go.WideShapes Go.ChangeAt Go.RowKit

theorem rleast_any (x : Int) (a : Option Addr) (len cap : Nat) (rs : List Int) (v : Int) (w : World) (hr : Rd .i64 w a len rs) :
    Calls Try.prog 21 #[.int .i64 x, .slice a len cap, .int .i64 v] w fun e w' => e = .returned (.int .i64 (leastS x rs v)) ∧ Gr w w' := by
  cases h1 : knownB x
  · have hn : 0 = leastS x rs v := by simp [leastS, h1]
    go_enter Try.func21, Try.ntmps21
    go_wp2_with ((go_at_call 44; refine (rwide_any _ _).mono ?_; rintro e w' ⟨rfl, rfl⟩))
    go_ret
    exact ⟨ret_i64 hn, Gr.refl _⟩
  · have hx := known_rng h1
    have H1 := Lib.hid h1
    have HR := Lib.hid hr
    clear hr
    go_enter Try.func21, Try.ntmps21
    go_wp2_with ((go_at_call 44; refine (rwide_any _ _).mono ?_; rintro e w' ⟨rfl, rfl⟩))
    go_loopw [7] (fun i wr => ∃ (n : Nat) (k : Int), k + n = x + 1 ∧ 3 ≤ k ∧ i = .int .i64 k ∧ leastS x rs v = leastFrom x rs v n k ∧ Gr w wr) (fun i _ => (x + 1 - intOf i).toNat)
    case atStart => exact ⟨(x - 2).toNat, 3, by omega, by omega, rfl, by simp [leastS, H1.out], Gr.refl _⟩
    case round =>
      obtain ⟨n, k, hn, hk3, rfl, hl, hg⟩ := hrel
      have HL := Lib.hid hl
      have HN := Lib.hid hn
      have HG := Lib.hid hg
      have hk2 : k ≤ 33 := by omega
      by_cases hk : k ≤ x
      · obtain ⟨n', rfl⟩ : ∃ n', n = n' + 1 := ⟨n - 1, by omega⟩
        clear hl hn hg
        go_wp2_with fail
        refine (rfits_any _ _ _ _ _ _ _ _ (HR.out.kept HG.out)).mono ?_
        rintro e w2 ⟨rfl, hg2⟩
        have HG2 := Lib.hid hg2
        clear hg2
        cases hf : fitsS x rs k v
        · have HF := Lib.hid hf
          go_wp2_with fail
          go_roundw
          case rel => exact ⟨n', k + 1, by have := HN.out; omega, by omega, rfl, by rw [HL.out]; simp [leastFrom, HF.out], HG.out.trans HG2.out⟩
          case measure => simp [intOf]; omega
        · have HF := Lib.hid hf
          go_wp2_with fail
          go_ret
          exact ⟨ret_i64 (by rw [HL.out]; simp [leastFrom, HF.out]), HG.out.trans HG2.out⟩
      · obtain rfl : n = 0 := by omega
        clear hl hn hg
        go_wp2_with fail
        go_ret
        exact ⟨ret_i64 (by rw [HL.out]; rfl), HG.out⟩

theorem awake7 (w : World) : Calls Try.prog 11 #[] w fun e w' => e = .returned (.bool true) ∧ w.grownBy w' none := by
  have e1 : decV 16 100 4 2 = 114 := by decide +kernel
  have e2 : decE 16 100 4 2 = 0 := by decide +kernel
  have e3 : decV 16 100 4 3 = 99 := by decide +kernel
  have e4 : decE 16 100 4 3 = 0 := by decide +kernel
  have e5 : leastS 16 [100, 104] 105 = 3 := by decide +kernel
  have e6 : offS 8 = 31 := by decide +kernel
  go_enter Try.func11, Try.ntmps11
  go_wp2_with fail
  refine (decode_any 16 100 4 2 _).mono ?_
  rintro e w' ⟨rfl, rfl⟩
  rw [e1, e2]
  go_wp2_with fail
  refine (decode_any 16 100 4 3 _).mono ?_
  rintro e w' ⟨rfl, rfl⟩
  rw [e3, e4]
  go_wp2_with fail
  refine (least_any 16 _ 2 _ [100, 104] 105 _ (rd_new [100, 104] _ _ _ rfl (by simp [maxLen]) (by decide))).mono ?_
  rintro e w' ⟨rfl, rfl⟩
  rw [e5]
  go_wp2_with ((go_at_call 16; refine (offset_any _ _).mono ?_; rintro e w' ⟨rfl, rfl⟩))
  go_ret
  exact ⟨rfl, World.grownBy_alloc _ _ _⟩

theorem mod_is {n m r : Int} (h : modF n m = r) (w : World) (hm : m ≤ 9223372036854775807) :
    Calls Try.prog 12 #[.int .i64 n, .int .i64 m] w fun e w' => e = .returned (.int .i64 r) ∧ w = w' := h ▸ mod_any n m w hm
theorem low_in {w x : Int} (hw : knownB w = true) : 0 ≤ lowS w x ∧ lowS w x < 4294967296 := by
  have hx := known_rng hw
  exact val_rng hx.2 (low_val (by omega) hx.2)
theorem rd_one {w : World} (x : Int) (e : TypeId) (fz : Nat × Nat) (h : i64 x) : Rd .i64 (w.alloc (.cells #[.int .i64 x] e fz)) (some ⟨w.heap.size, 0, none⟩) 1 [x] :=
  rd_new [x] e fz 1 rfl (by simp [maxLen]) (by intro y hy; simp at hy; subst hy; exact WalkArith.wf_i64 h)

theorem rd_two {w : World} (x y : Int) (e : TypeId) (fz : Nat × Nat) (h : i64 x) (h2 : i64 y) : Rd .i64 (w.alloc (.cells #[.int .i64 x, .int .i64 y] e fz)) (some ⟨w.heap.size, 0, none⟩) 2 [x, y] :=
  rd_new [x, y] e fz 2 rfl (by simp [maxLen]) (by intro z hz; simp at hz; rcases hz with rfl | rfl <;> (refine WalkArith.wf_i64 ?_; assumption))
theorem rd_three {w : World} (x y u : Int) (e : TypeId) (fz : Nat × Nat) (h : i64 x) (h2 : i64 y) (h3 : i64 u) : Rd .i64 (w.alloc (.cells #[.int .i64 x, .int .i64 y, .int .i64 u] e fz)) (some ⟨w.heap.size, 0, none⟩) 3 [x, y, u] :=
  rd_new [x, y, u] e fz 3 rfl (by simp [maxLen]) (by intro z hz; simp at hz; rcases hz with rfl | rfl | rfl <;> (refine WalkArith.wf_i64 ?_; assumption))
end Go.Proofs.Ytinkllejjilenaa
