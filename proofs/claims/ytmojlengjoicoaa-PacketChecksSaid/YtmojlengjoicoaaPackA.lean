/- Layer 05 (packet): put. -/
import Derived.Test.YtmojlengjoicoaaPut
import Derived.Test.YtmojlengjoicoaaMemC
import Derived.Test.YtmojlengjoicoaaBase
namespace Go.Proofs.Ytmojlengjoicoaa
open Go.ChangeShapes Go.WideShapes Go.ChangeAt Go.RowKit

theorem setM_set {α : Type} : ∀ (l xs : List α) (o p : Nat) (v : α), o < p → (setM xs p l).set o v = setM (xs.set o v) p l
  | [], _, _, _, _, _ => rfl
  | u :: r, xs, o, p, v, h => by
    show (setM (xs.set p u) (p + 1) r).set o v = setM ((xs.set o v).set p u) (p + 1) r
    rw [setM_set r _ o (p + 1) v (by omega), List.set_comm _ _ (by omega)]
theorem setM_step (x : Int) (xs : List Int) (o j : Nat) : (setM xs (o + 1) (putR x j)).set o (x / 2 ^ (8 * j) % 256) = setM xs o (putR x (j + 1)) := by
  rw [setM_set _ _ _ _ _ (by omega)]; rfl
theorem shr_step (x : Int) (j : Nat) : x / 2 ^ (8 * j) / 256 = x / 2 ^ (8 * (j + 1)) := by
  rw [show 8 * (j + 1) = 8 * j + 8 by omega, Int.pow_add, ← Int.ediv_ediv_of_nonneg (Int.le_of_lt (Int.pow_pos (by omega)))]
  rfl
def PutRel (B g N C : Nat) (xs : List Int) (o n : Nat) (x : Int) (w : World) (v i : Value) (wr : World) : Prop :=
  ∃ j : Nat, j ≤ n ∧ v = .int .i64 (x / 2 ^ (8 * j)) ∧ i = .int .i64 ((n : Int) - 1 - j) ∧ OwnI B 5 .u8 wr (some ⟨g, 0, none⟩) N C (setM xs (o + n - j) (putR x j)) ∧ w.grownBy wr (some g)
set_option maxRecDepth 100000 in
theorem pput_any (B g N C : Nat) (xs : List Int) (len cap o n : Nat) (x : Int) (w : World) (hown : OwnI B 5 .u8 w (some ⟨g, 0, none⟩) N C xs) (h1 : o + n ≤ len) (h2 : len ≤ N) (h3 : len ≤ 100000) (hx : i64 x) :
    Calls Try.prog 67 #[.slice (some ⟨g, 0, none⟩) len cap, .int .i64 o, .int .i64 n, .int .i64 x] w fun e w' => e = .returned (.tuple #[]) ∧ OwnI B 5 .u8 w' (some ⟨g, 0, none⟩) N C (setM xs o (putR x n)) ∧ w.grownBy w' (some g) := by
  have HX := Lib.hid hx
  clear hx
  go_enter Try.func67, Try.ntmps67
  go_wp2_with fail
  go_loopw [3, 8] (fun v i wr => PutRel B g N C xs o n x w v i wr) (fun _ i _ => (intOf i + 1).toNat)
  case atStart => exact ⟨0, by omega, by simp, by simp, hown, grownBy_refl _ _⟩
  case round =>
    clear hown
    obtain ⟨j, hj, rfl, rfl, ho, hg⟩ := hrel
    by_cases hlt : j < n
    · obtain ⟨i, hi⟩ : ∃ i : Nat, (n : Int) - 1 - j = i := ⟨n - 1 - j, by omega⟩
      have hol := ho.len
      obtain ⟨c1, f1⟩ := ho.at (o + i) (by omega)
      obtain ⟨y, hy⟩ : ∃ y, x / 2 ^ (8 * j) = y := ⟨_, rfl⟩
      have hset := setM_step x xs (o + i) j
      have hsh := shr_step x j
      rw [hy] at hset hsh
      have hne : o + n - j = o + i + 1 := by omega
      rw [hne] at ho
      have ho2 := ho.set (o + i) (y % 256) (WalkArith.wf_u8 (by omega))
      rw [hset] at ho2
      have HO := Lib.hid ho2
      have HG := Lib.hid (grown_trans' hg (grown_setAt wr g (o + i) (.int .u8 (y % 256))))
      have HSH := Lib.hid hsh
      rw [hy, hi]
      clear ho ho2 hg hset hsh hol hne
      go_wp2_with fail
      go_roundw
      case rel => exact ⟨j + 1, by omega, by rw [← HSH.out], by (have := hi; simp; omega), by rw [show o + n - (j + 1) = o + i by omega]; exact HO.out, HG.out⟩
      case measure => (simp [intOf] <;> omega)
    · obtain rfl : j = n := by omega
      rw [show o + j - j = o by omega] at ho
      have HO := Lib.hid ho
      have HG := Lib.hid hg
      clear ho hg
      go_wp2_with fail
      first | go_end0 | (go_show; fail)
      exact ⟨rfl, HO.out, HG.out⟩
end Go.Proofs.Ytmojlengjoicoaa
