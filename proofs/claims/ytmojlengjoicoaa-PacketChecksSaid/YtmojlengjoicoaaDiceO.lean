/- Dice: One; dice that are rolled; light lists. -/
import Derived.Test.YtmojlengjoicoaaDice
import Derived.Test.YtmojlengjoicoaaTypes
namespace Go.Proofs.Ytmojlengjoicoaa
open Go.ChangeShapes Go.WideShapes Go.ChangeAt Go.RowKit

def OnePost (p : Nat) (w : World) (e : Ending) (w' : World) : Prop := ∃ b : Bool, e = .returned (.bool b) ∧ Die w' p ∧ w.grownBy w' (some p)
theorem one_any (p : Nat) (n : Int) (w : World) (hd : Die w p) (hn : 1 ≤ n) (hn2 : n ≤ 9223372036854775807) :
    Calls Try.prog 36 #[.pointer (some ⟨p, 0, none⟩), .int .i64 n] w (OnePost p w) := by
  go_enter Try.func36, Try.ntmps36
  go_wp2_with fail
  refine (next_any p n _ hd hn hn2).mono ?_
  rintro e w' ⟨v, rfl, v1, v2, hd', hg⟩
  have HG := Lib.hid hg
  clear hg
  go_wp2_with fail
  go_ret
  exact ⟨_, rfl, hd', HG.out⟩

theorem light_any (a : Option Addr) (len cap : Nat) (w : World) (hm : len ≤ 9223372036854775807) : Calls Try.prog 14 #[.slice a len cap] w fun e w' => e = .returned (.bool (decide (len ≤ 400))) ∧ w = w' := by
  go_enter Try.func14, Try.ntmps14
  go_wp2
  go_ret
  exact ⟨ret_bool (by rw [Bool.eq_iff_iff]; simp; omega), rfl⟩
def RollPost (w : World) (e : Ending) (w' : World) : Prop := ∃ p, e = .returned (.pointer (some ⟨p, 0, none⟩)) ∧ Die w' p ∧ Gr w w' ∧ w.heap.size ≤ p
theorem roll_any (a : Option Addr) (len cap : Nat) (ts : List Int) (w : World) (hr : Rd .i64 w a len ts) : Calls Try.prog 16 #[.slice a len cap] w (RollPost w) := by
  have HR := Lib.hid hr
  clear hr
  go_enter Try.func16, Try.ntmps16
  go_wp2_with fail
  go_ret
  refine ⟨w.heap.size, rfl, ?_, Gr.alloc _ _, Nat.le_refl _⟩
  refine ⟨a, len, cap, ts, 0, heap_alloc_new _ _, HR.out.kept (Gr.alloc _ _), by omega, ?_⟩
  intro b' off' h0 he
  obtain ⟨b, off, rfl, hb, hc⟩ := HR.out.some h0
  injection he with he
  injection he
  omega

end Go.Proofs.Ytmojlengjoicoaa
