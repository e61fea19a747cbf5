/- A key among the arguments, opened. -/
import Derived.Test.YtinkllejjilenaaFrame
import Derived.Test.YtinkllejjilenaaDiceKey
namespace Go.Proofs.Ytinkllejjilenaa
open Go.ChangeShapes Go.WideShapes Go.ChangeAt Go.RowKit

section
variable {H : Type} {enc : TypeId × Value → H}
theorem slice_cell {W : World} {b1 : Nat} {sp : Nat → Bool} {held : Bool} {m : Nat} {t e : TypeId} {c : Value} {x : DataW H × List MemPlace} (ht : (Try.prog).underlying t = some (.slice e)) (h : DataW.trod enc Try.prog W b1 sp held m t [c] = some x) : ∃ a l k, c = .slice a l k := by
  rcases DataW.trod_slice ht h with ⟨h1, _⟩ | ⟨a, l, k, _, _, _, _, h1, _⟩
  · injection h1 with h1; exact ⟨_, _, _, h1⟩
  · injection h1 with h1; exact ⟨_, _, _, h1⟩
theorem int_cell {W : World} {b1 : Nat} {sp : Nat → Bool} {held : Bool} {m : Nat} {t : TypeId} {c : Value} {x : DataW H × List MemPlace} (ht : (Try.prog).underlying t = some (.int .i64)) (h : DataW.trod enc Try.prog W b1 sp held m t [c] = some x) : ∃ n, c = .int .i64 n ∧ -9223372036854775808 ≤ n ∧ n ≤ 9223372036854775807 := by
  obtain ⟨n, h1, _, w⟩ := DataW.trod_int ht h
  injection h1 with h1
  exact ⟨n, h1, bounds_i64 w⟩
theorem open_key {W : World} {r : Reach} {base b1 : Nat} {sp : Nat → Bool} {v : Value} {d : DataW H} {p : List MemPlace}
    (hv : Value.okWide Try.prog W r base 50 v) (h : DataW.Trod enc Try.prog W b1 sp true 50 v d p) :
    ∃ (a : Option Addr) (l c : Nat) (a' : Option Addr) (l' c' : Nat) (n b k : Int), v = KeyVal a l c a' l' c' n b k ∧ (-9223372036854775808 ≤ n ∧ n ≤ 9223372036854775807) ∧ (-9223372036854775808 ≤ b ∧ b ≤ 9223372036854775807) ∧ (-9223372036854775808 ≤ k ∧ k ≤ 9223372036854775807) := by
  unfold Value.okWide at hv
  rw [Try.underlying50] at hv
  obtain ⟨cs, rfl, hsz, _⟩ := hv
  obtain ⟨fuel, hf⟩ := h
  obtain ⟨xs, m, _, _, hlen, hx, hel⟩ := DataW.trod_struct Try.underlying50 hf
  have h5 : (Try.prog).cellsOf 50 = 5 := by kernel_rfl
  have hs1 : (Try.prog).cellsOf 48 = 1 := by kernel_rfl
  have hi1 : (Try.prog).cellsOf 3 = 1 := by kernel_rfl
  rw [h5] at hlen
  obtain ⟨l⟩ := cs
  change l.length = 5 at hlen
  match l, hlen with
  | [c0, c1, c2, c3, c4], _ =>
    have hx5 : xs.length = 5 := hx
    have get : ∀ i, i < 5 → ∃ y, xs[i]? = some y := fun i hi => ⟨xs[i]'(by omega), List.getElem?_eq_getElem _⟩
    obtain ⟨y0, e0⟩ := get 0 (by omega)
    obtain ⟨y1, e1⟩ := get 1 (by omega)
    obtain ⟨y2, e2⟩ := get 2 (by omega)
    obtain ⟨y3, e3⟩ := get 3 (by omega)
    obtain ⟨y4, e4⟩ := get 4 (by omega)
    have t0 := hel 0 _ rfl
    have t1 := hel 1 _ rfl
    have t2 := hel 2 _ rfl
    have t3 := hel 3 _ rfl
    have t4 := hel 4 _ rfl
    rw [e0] at t0
    rw [e1] at t1
    rw [e2] at t2
    rw [e3] at t3
    rw [e4] at t4
    obtain ⟨a, l, c, r0⟩ := slice_cell (t := 48) (c := c0) Try.underlying48 t0
    obtain ⟨a', l', c', r1⟩ := slice_cell (t := 48) (c := c1) Try.underlying48 t1
    obtain ⟨n, r2, b2⟩ := int_cell (t := 3) (c := c2) Try.underlying3 t2
    obtain ⟨b, r3, b3⟩ := int_cell (t := 3) (c := c3) Try.underlying3 t3
    obtain ⟨k, r4, b4⟩ := int_cell (t := 3) (c := c4) Try.underlying3 t4
    subst r0 r1 r2 r3 r4
    exact ⟨a, l, c, a', l', c', n, b, k, rfl, b2, b3, b4⟩
end
end Go.Proofs.Ytinkllejjilenaa
