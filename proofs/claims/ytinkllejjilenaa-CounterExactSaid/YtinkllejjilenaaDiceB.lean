/- Dice: what is made of the numbers. -/
import Derived.Test.YtinkllejjilenaaDice
import Derived.Test.YtinkllejjilenaaTypes
namespace Go.Proofs.Ytinkllejjilenaa
open Go.ChangeShapes Go.WideShapes Go.ChangeAt Go.RowKit

def OnePost (p : Nat) (w : World) (e : Ending) (w' : World) : Prop := ∃ b : Bool, e = .returned (.bool b) ∧ Die w' p ∧ w.grownBy w' (some p)
theorem one_any (p : Nat) (n : Int) (w : World) (hd : Die w p) (hn : 1 ≤ n) (hn2 : n ≤ 9223372036854775807) :
    Calls Try.prog 29 #[.pointer (some ⟨p, 0, none⟩), .int .i64 n] w (OnePost p w) := by
  go_enter Try.func29, Try.ntmps29
  go_wp2_with fail
  refine (next_any p n _ hd hn hn2).mono ?_
  rintro e w' ⟨v, rfl, v1, v2, hd', hg⟩
  have HG := Lib.hid hg
  clear hg
  go_wp2_with fail
  go_ret
  exact ⟨_, rfl, hd', HG.out⟩

def DBitsPost (p : Nat) (w : World) (e : Ending) (w' : World) : Prop := ∃ v : Int, e = .returned (.int .i64 v) ∧ 5 ≤ v ∧ v ≤ 9 ∧ Die w' p ∧ w.grownBy w' (some p)
theorem dbits_any (p : Nat) (w : World) (hd : Die w p) :
    Calls Try.prog 33 #[.pointer (some ⟨p, 0, none⟩)] w (DBitsPost p w) := by
  have hplt := hd.lt
  have hne : ¬ w.heap.size = p := by omega
  go_enter Try.func33, Try.ntmps33
  go_wp2_with fail
  obtain ⟨w1, hw1⟩ : ∃ w1, w1 = w.alloc (.cells #[.int .i64 5, .int .i64 5, .int .i64 6, .int .i64 9] 3) := ⟨_, rfl⟩
  rw [← hw1]
  have hg1 : Gr w w1 := by rw [hw1]; exact Gr.alloc _ _
  have hb1 : w1.heap[w.heap.size]? = some (.cells #[.int .i64 5, .int .i64 5, .int .i64 6, .int .i64 9] 3 (0, 0)) := by rw [hw1]; exact heap_alloc_new _ _
  refine (next_any p 4 _ (hd.kept hg1 (by simp)) (by omega) (by omega)).mono ?_
  rintro e w2 ⟨v, rfl, v1, v2, hd', hg⟩
  have hb2 : w2.heap[w.heap.size]? = some (.cells #[.int .i64 5, .int .i64 5, .int .i64 6, .int .i64 9] 3 (0, 0)) := by rw [hg.block _ (heap_lt hb1) (by simpa using hne)]; exact hb1
  have HG := Lib.hid (grown_trans' (grown_weak hg1 (some p)) hg)
  clear hg hg1 hb1 hw1
  have hv : v = 0 ∨ v = 1 ∨ v = 2 ∨ v = 3 := by omega
  rcases hv with rfl | rfl | rfl | rfl
  · have c : w2.cell? ⟨w.heap.size, 0, none⟩ = some (.int .i64 5) := by rw [cell_of_block hb2]; rfl
    clear hb2
    go_wp2_with fail
    go_ret
    exact ⟨_, rfl, by omega, by omega, hd', HG.out⟩
  · have c : w2.cell? ⟨w.heap.size, 1, none⟩ = some (.int .i64 5) := by rw [cell_of_block hb2]; rfl
    clear hb2
    go_wp2_with fail
    go_ret
    exact ⟨_, rfl, by omega, by omega, hd', HG.out⟩
  · have c : w2.cell? ⟨w.heap.size, 2, none⟩ = some (.int .i64 6) := by rw [cell_of_block hb2]; rfl
    clear hb2
    go_wp2_with fail
    go_ret
    exact ⟨_, rfl, by omega, by omega, hd', HG.out⟩
  · have c : w2.cell? ⟨w.heap.size, 3, none⟩ = some (.int .i64 9) := by rw [cell_of_block hb2]; rfl
    clear hb2
    go_wp2_with fail
    go_ret
    exact ⟨_, rfl, by omega, by omega, hd', HG.out⟩

def BytesPost (n : Nat) (w : World) (e : Ending) (w' : World) : Prop := ∃ (a : Option Addr) (cap : Nat) (xs : List Int), e = .returned (.slice a n cap) ∧ OwnI w.heap.size 5 .u8 w' a n cap xs ∧ Gr w w'
set_option maxHeartbeats 1000000 in
theorem filled_any (L : Nat) (s : Int) (w : World) (hL : L ≤ 1000000) (h0 : 0 ≤ s) (h1 : s ≤ 1000000) :
    Calls Try.prog 50 #[.int .i64 L, .int .i64 s] w (BytesPost L w) := by
  go_enter Try.func50, Try.ntmps50
  go_wp2_with fail
  go_loopw [5, 6] (fun s i wr => ∃ (a' : Option Addr) (cap' j : Nat) (ys : List Int), j ≤ L ∧ s = .slice a' j cap' ∧ i = .int .i64 j ∧ OwnI w.heap.size 5 .u8 wr a' j cap' ys ∧ Gr w wr ∧ Follows w (.slice none 0 0) (.slice a' j cap')) (fun _ i _ => L - (intOf i).toNat)
  case atStart => exact ⟨none, 0, 0, [], by omega, rfl, rfl, OwnI.nil _ _ _ _, Gr.refl _, Follows.refl _ _⟩
  case round =>
    obtain ⟨a', cap', j, ys, hj, rfl, rfl, hown, hg, hf⟩ := hrel
    have HG := Lib.hid hg
    by_cases hlt : j < L
    · obtain ⟨y, hy⟩ : ∃ y, (s + 7 * (j : Int) + (j : Int) / 16) % 256 = y := ⟨_, rfl⟩
      have y1 : 0 ≤ y ∧ y ≤ 255 := by omega
      have hrd := rd_new (k := .u8) (w := wr) [y] 5 (0, 0) 1 rfl (by simp [maxLen]) (by intro z hz; simp at hz; subst hz; exact WalkArith.wf_u8 y1)
      obtain ⟨a2, c2, w2, hrun, ho2, hg2, hf2⟩ := app_u8 w.heap.size (wr.alloc (.cells ([y].map (Value.int .u8)).toArray 5)) a' j cap' ys (hown.stay (World.grownBy_alloc _ _ _)) (some ⟨wr.heap.size, 0, none⟩) 1 1 _ hrd (by omega) (by have := hg.size; simp; omega)
      simp only [List.map_cons, List.map_nil] at hrun hg2 hf2
      have HR := Lib.hid hrun
      clear hrun hrd hown
      go_wp2_with (at_builtin; refine wpList_app rfl _ _ _ rfl rfl rfl HR.out ?_)
      have hrg := round_grown (v := .slice none 0 0) HG.out hf hg2 hf2
      go_roundw
      case rel => exact ⟨a2, c2, j + 1, _, by omega, rfl, rfl, ho2, hrg.1, hrg.2⟩
      case measure => simp [intOf]; omega
    · obtain rfl : j = L := by omega
      go_wp2_with fail
      go_ret
      exact ⟨a', cap', ys, rfl, hown, HG.out⟩
end Go.Proofs.Ytinkllejjilenaa
