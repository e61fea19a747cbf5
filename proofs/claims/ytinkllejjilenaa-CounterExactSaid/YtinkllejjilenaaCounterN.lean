/- Layer 15 (counter): keys and nonces, of the program and of the reference. -/
import Derived.Test.YtinkllejjilenaaCounterB
import Derived.Test.YtinkllejjilenaaPut
import Derived.Test.YtinkllejjilenaaDiceKey
namespace Go.Proofs.Ytinkllejjilenaa
open Go.ChangeShapes Go.WideShapes Go.ChangeAt Go.RowKit

def keyB (l l' : Nat) (n b d : Int) : Bool := decide (l = 32 ∧ l' = 16) && decide (0 ≤ n ∧ n ≤ 4294967295) && decide (0 ≤ b ∧ b ≤ 255) && decide (d = 0 ∨ d = 1)
theorem key_true {l l' : Nat} {n b d : Int} (h : (l = 32 ∧ l' = 16) ∧ (0 ≤ n ∧ n ≤ 4294967295) ∧ (0 ≤ b ∧ b ≤ 255) ∧ (d = 0 ∨ d = 1)) : keyB l l' n b d = true := by simp [keyB, h]
theorem key_false {l l' : Nat} {n b d : Int} (h : ¬ ((l = 32 ∧ l' = 16) ∧ (0 ≤ n ∧ n ≤ 4294967295) ∧ (0 ≤ b ∧ b ≤ 255) ∧ (d = 0 ∨ d = 1))) : keyB l l' n b d = false := by
  cases hk : keyB l l' n b d
  · rfl
  · simp only [keyB, Bool.and_eq_true, decide_eq_true_eq] at hk; exact absurd ⟨hk.1.1.1, hk.1.1.2, hk.1.2, hk.2⟩ h

set_option maxHeartbeats 2000000 in
theorem valid_any (a : Option Addr) (l c : Nat) (a' : Option Addr) (l' c' : Nat) (n b d : Int) (w : World) :
    Calls Try.prog 38 #[KeyVal a l c a' l' c' n b d] w fun e w' => e = .returned (.bool (keyB l l' n b d)) ∧ Gr w w' := by
  go_enter Try.func38, Try.ntmps38
  go_wp2_with fail
  all_goals
    go_ret
    refine ⟨ret_bool ?_, Gr.alloc _ _⟩
    first | exact (key_true (by omega)).symm | exact (key_false (by omega)).symm | (rw [Bool.eq_iff_iff]; simp [keyB]; omega)
set_option maxHeartbeats 2000000 in
theorem rvalid15_any (a : Option Addr) (l c : Nat) (a' : Option Addr) (l' c' : Nat) (n b d : Int) (w : World) :
    Calls Try.prog 39 #[KeyVal a l c a' l' c' n b d] w fun e w' => e = .returned (.bool (keyB l l' n b d)) ∧ Gr w w' := by
  go_enter Try.func39, Try.ntmps39
  go_wp2_with fail
  all_goals
    go_ret
    refine ⟨ret_bool ?_, Gr.alloc _ _⟩
    first | exact (key_true (by omega)).symm | exact (key_false (by omega)).symm | (rw [Bool.eq_iff_iff]; simp [keyB]; omega)

theorem rd_bytes4 {w : World} (x y z u : Int) (e : TypeId) (fz : Nat × Nat) (h1 : 0 ≤ x ∧ x ≤ 255) (h2 : 0 ≤ y ∧ y ≤ 255) (h3 : 0 ≤ z ∧ z ≤ 255) (h4 : 0 ≤ u ∧ u ≤ 255) :
    Rd .u8 (w.alloc (.cells #[.int .u8 x, .int .u8 y, .int .u8 z, .int .u8 u] e fz)) (some ⟨w.heap.size, 0, none⟩) 4 [x, y, z, u] :=
  rd_new [x, y, z, u] e fz 4 rfl (by simp [maxLen]) (by intro v hv; simp at hv; rcases hv with rfl | rfl | rfl | rfl <;> (refine WalkArith.wf_u8 ?_; assumption))
/-- Four bytes are appended. -/
theorem app4 (B : Nat) (a : Option Addr) (n cap : Nat) (xs : List Int) (w : World) (hown : OwnI B 5 .u8 w a n cap xs) (hn : n ≤ 1000000) (hB : B ≤ w.heap.size) (x y z u : Int) (h1 : 0 ≤ x ∧ x ≤ 255) (h2 : 0 ≤ y ∧ y ≤ 255) (h3 : 0 ≤ z ∧ z ≤ 255) (h4 : 0 ≤ u ∧ u ≤ 255) :
    ∃ a' cap' w', (Builtin.append_ #[48, 48] 48 #[.slice a n cap, .slice (some ⟨w.heap.size, 0, none⟩) 4 4]).run Try.prog (w.alloc (.cells #[.int .u8 x, .int .u8 y, .int .u8 z, .int .u8 u] 5)) = .ok (.slice a' (n + 4) cap') w' ∧
      OwnI B 5 .u8 w' a' (n + 4) cap' (xs ++ [x, y, z, u]) ∧ w.grownBy w' (Value.slice a n cap).ownBlock ∧ Follows w (.slice a n cap) (.slice a' (n + 4) cap') := by
  obtain ⟨a2, c2, w2, hrun, ho2, hg2, hf2⟩ := app_u8 B (w.alloc (.cells #[.int .u8 x, .int .u8 y, .int .u8 z, .int .u8 u] 5)) a n cap xs (hown.stay (World.grownBy_alloc _ _ _)) (some ⟨w.heap.size, 0, none⟩) 4 4 _ (rd_bytes4 x y z u _ _ h1 h2 h3 h4) (by omega) (by simp; omega)
  have hrg := round_grown (grownBy_refl w _) (Follows.refl w _) hg2 hf2
  exact ⟨a2, c2, w2, hrun, ho2, hrg.1, hrg.2⟩
theorem put4 (x : Int) : putR x 4 = [x / 16777216 % 256, x / 65536 % 256, x / 256 % 256, x % 256] := by simp [putR]
theorem cput_any (B : Nat) (a : Option Addr) (n cap : Nat) (xs : List Int) (x : Int) (w : World) (hown : OwnI B 5 .u8 w a n cap xs) (hn : n ≤ 1000000) (hB : B ≤ w.heap.size) :
    Calls Try.prog 52 #[.slice a n cap, .int .i64 x] w (AppPost B 5 .u8 w a n cap 4 (xs ++ putR x 4)) := by
  obtain ⟨a2, c2, w2, hrun, ho, hg, hf⟩ := app4 B a n cap xs w hown hn hB (x / 16777216 % 256) (x / 65536 % 256) (x / 256 % 256) (x % 256) (by omega) (by omega) (by omega) (by omega)
  rw [← put4] at ho
  have HR := Lib.hid hrun
  clear hrun
  go_enter Try.func52, Try.ntmps52
  go_wp2_with (at_builtin; refine wpList_app rfl _ _ _ rfl rfl rfl HR.out ?_)
  go_ret
  exact ⟨a2, c2, n + 4, rfl, rfl, ho, hg, hf⟩
end Go.Proofs.Ytinkllejjilenaa
