/- Processes, collectors, announcements among the arguments, opened. -/
import Derived.Test.YtcleegibdcphiaaDoorFrame
import Derived.Test.YtcleegibdcphiaaDoorHarQ
namespace Go.Proofs.YtcleegibdcphiaaDoor
open Go.ChangeShapes Go.WideShapes Go.ChangeAt Go.RowKit

section
variable {H : Type} {enc : TypeId × Value → H}
theorem slice_cellH {W : World} {m : Nat} {k : IntKind} {t e : TypeId} {c : Value} {x : DataW H × List MemPlace} (ht : (Tryd.prog).underlying t = some (.slice e)) (he : (Tryd.prog).underlying e = some (.int k)) (hC : (Tryd.prog).cellsOf e = 1) (h : DataW.trod enc Tryd.prog W 0 (fun _ => true) true m t [c] = some x) : ∃ a l cp xs, c = .slice a l cp ∧ Rd k W a l xs := by
  have h0 : ∃ a l cp, c = .slice a l cp := by
    rcases DataW.trod_slice ht h with ⟨h1, _⟩ | ⟨a, l, k, _, _, _, _, h1, _⟩
    · injection h1 with h1; exact ⟨_, _, _, h1⟩
    · injection h1 with h1; exact ⟨_, _, _, h1⟩
  obtain ⟨a, l, cp, rfl⟩ := h0
  obtain ⟨d, p⟩ := x
  have hT : DataW.Trod enc Tryd.prog W 0 (fun _ => true) true t (.slice a l cp) d p := ⟨m, h⟩
  obtain ⟨xs, hr, _, _⟩ := open_rd (k := k) ht he hC hT
  exact ⟨a, l, cp, xs, rfl, hr⟩
theorem int_cellH {W : World} {b1 : Nat} {sp : Nat → Bool} {held : Bool} {m : Nat} {t : TypeId} {c : Value} {x : DataW H × List MemPlace} (ht : (Tryd.prog).underlying t = some (.int .i64)) (h : DataW.trod enc Tryd.prog W b1 sp held m t [c] = some x) : ∃ n, c = .int .i64 n := by
  obtain ⟨n, h1, _, _⟩ := DataW.trod_int ht h
  injection h1 with h1
  exact ⟨n, h1⟩
theorem bool_cellH {W : World} {b1 : Nat} {sp : Nat → Bool} {held : Bool} {m : Nat} {t : TypeId} {c : Value} {x : DataW H × List MemPlace} (ht : (Tryd.prog).underlying t = some .bool) (h : DataW.trod enc Tryd.prog W b1 sp held m t [c] = some x) : ∃ n, c = .bool n := by
  obtain ⟨n, h1, _⟩ := DataW.trod_bool ht h
  injection h1 with h1
  exact ⟨n, h1⟩
theorem open_proc {W : World} {r : Reach} {base : Nat} {v : Value} {d : DataW H} {p : List MemPlace}
    (hv : Value.okWide Tryd.prog W r base 24 v) (h : DataW.Trod enc Tryd.prog W 0 (fun _ => true) true 24 v d p) :
    ∃ (q : Pc) (xs : List Int), v = PVal q ∧ Rd .u8 W q.a q.len xs := by
  unfold Value.okWide at hv
  rw [Tryd.underlying24] at hv
  obtain ⟨cs, rfl, hsz, _⟩ := hv
  obtain ⟨fuel, hf⟩ := h
  obtain ⟨xs, m, _, _, hlen, hx, hel⟩ := DataW.trod_struct Tryd.underlying24 hf
  have hC : (Tryd.prog).cellsOf 24 = 6 := by kernel_rfl
  rw [hC] at hlen
  obtain ⟨l⟩ := cs
  change l.length = 6 at hlen
  have get : ∀ i, i < 6 → ∃ y, xs[i]? = some y := fun i hi => ⟨xs[i]'(by have : xs.length = 6 := hx; omega), List.getElem?_eq_getElem _⟩
  match l, hlen with
  | [c0, c1, c2, c3, c4, c5], _ =>
    obtain ⟨y0, e0⟩ := get 0 (by omega)
    obtain ⟨y1, e1⟩ := get 1 (by omega)
    obtain ⟨y2, e2⟩ := get 2 (by omega)
    obtain ⟨y3, e3⟩ := get 3 (by omega)
    obtain ⟨y4, e4⟩ := get 4 (by omega)
    obtain ⟨y5, e5⟩ := get 5 (by omega)
    have t0 := hel 0 _ rfl
    have t1 := hel 1 _ rfl
    have t2 := hel 2 _ rfl
    have t3 := hel 3 _ rfl
    have t4 := hel 4 _ rfl
    have t5 := hel 5 _ rfl
    rw [e0] at t0
    rw [e1] at t1
    rw [e2] at t2
    rw [e3] at t3
    rw [e4] at t4
    rw [e5] at t5
    obtain ⟨n0, r0⟩ := bool_cellH (t := 4) (c := c0) Tryd.underlying4 t0
    obtain ⟨a, l, c, ys, r1, hr⟩ := slice_cellH (k := .u8) (t := 22) (c := c1) Tryd.underlying22 Tryd.underlying5 (by kernel_rfl) t1
    obtain ⟨n2, r2⟩ := int_cellH (t := 3) (c := c2) Tryd.underlying3 t2
    obtain ⟨n3, r3⟩ := int_cellH (t := 3) (c := c3) Tryd.underlying3 t3
    obtain ⟨n4, r4⟩ := int_cellH (t := 3) (c := c4) Tryd.underlying3 t4
    obtain ⟨n5, r5⟩ := int_cellH (t := 3) (c := c5) Tryd.underlying3 t5
    subst r0 r1 r2 r3 r4 r5
    exact ⟨⟨n0, a, l, c, n2, n3, n4, n5⟩, ys, rfl, hr⟩
theorem open_coll {W : World} {r : Reach} {base : Nat} {v : Value} {d : DataW H} {p : List MemPlace}
    (hv : Value.okWide Tryd.prog W r base 27 v) (h : DataW.Trod enc Tryd.prog W 0 (fun _ => true) true 27 v d p) :
    ∃ (q : Cl) (xs : List Int), v = CVal q ∧ Rd .i64 W q.a q.len xs := by
  unfold Value.okWide at hv
  rw [Tryd.underlying27] at hv
  obtain ⟨cs, rfl, hsz, _⟩ := hv
  obtain ⟨fuel, hf⟩ := h
  obtain ⟨xs, m, _, _, hlen, hx, hel⟩ := DataW.trod_struct Tryd.underlying27 hf
  have hC : (Tryd.prog).cellsOf 27 = 5 := by kernel_rfl
  rw [hC] at hlen
  obtain ⟨l⟩ := cs
  change l.length = 5 at hlen
  have get : ∀ i, i < 5 → ∃ y, xs[i]? = some y := fun i hi => ⟨xs[i]'(by have : xs.length = 5 := hx; omega), List.getElem?_eq_getElem _⟩
  match l, hlen with
  | [c0, c1, c2, c3, c4], _ =>
    obtain ⟨y0, e0⟩ := get 0 (by omega)
    obtain ⟨y1, e1⟩ := get 1 (by omega)
    obtain ⟨y2, e2⟩ := get 2 (by omega)
    obtain ⟨y3, e3⟩ := get 3 (by omega)
    obtain ⟨y4, e4⟩ := get 4 (by omega)
    have t0 := hel 0 _ rfl
    have t1 := hel 1 _ rfl
    have t2 := hel 2 _ rfl
    have t3 := hel 3 _ rfl
    have t4 := hel 4 _ rfl
    rw [e0] at t0
    rw [e1] at t1
    rw [e2] at t2
    rw [e3] at t3
    rw [e4] at t4
    obtain ⟨n0, r0⟩ := int_cellH (t := 3) (c := c0) Tryd.underlying3 t0
    obtain ⟨n1, r1⟩ := int_cellH (t := 3) (c := c1) Tryd.underlying3 t1
    obtain ⟨a, l, c, ys, r2, hr⟩ := slice_cellH (k := .i64) (t := 25) (c := c2) Tryd.underlying25 Tryd.underlying3 (by kernel_rfl) t2
    obtain ⟨n3, r3⟩ := bool_cellH (t := 4) (c := c3) Tryd.underlying4 t3
    obtain ⟨n4, r4⟩ := bool_cellH (t := 4) (c := c4) Tryd.underlying4 t4
    subst r0 r1 r2 r3 r4
    exact ⟨⟨n0, n1, a, l, c, n3, n4⟩, ys, rfl, hr⟩
theorem open_ann {W : World} {r : Reach} {base : Nat} {v : Value} {d : DataW H} {p : List MemPlace}
    (hv : Value.okWide Tryd.prog W r base 29 v) (h : DataW.Trod enc Tryd.prog W 0 (fun _ => true) true 29 v d p) :
    ∃ q : An, v = AVal q := by
  unfold Value.okWide at hv
  rw [Tryd.underlying29] at hv
  obtain ⟨cs, rfl, hsz, _⟩ := hv
  obtain ⟨fuel, hf⟩ := h
  obtain ⟨xs, m, _, _, hlen, hx, hel⟩ := DataW.trod_struct Tryd.underlying29 hf
  have hC : (Tryd.prog).cellsOf 29 = 5 := by kernel_rfl
  rw [hC] at hlen
  obtain ⟨l⟩ := cs
  change l.length = 5 at hlen
  have get : ∀ i, i < 5 → ∃ y, xs[i]? = some y := fun i hi => ⟨xs[i]'(by have : xs.length = 5 := hx; omega), List.getElem?_eq_getElem _⟩
  match l, hlen with
  | [c0, c1, c2, c3, c4], _ =>
    obtain ⟨y0, e0⟩ := get 0 (by omega)
    obtain ⟨y1, e1⟩ := get 1 (by omega)
    obtain ⟨y2, e2⟩ := get 2 (by omega)
    obtain ⟨y3, e3⟩ := get 3 (by omega)
    obtain ⟨y4, e4⟩ := get 4 (by omega)
    have t0 := hel 0 _ rfl
    have t1 := hel 1 _ rfl
    have t2 := hel 2 _ rfl
    have t3 := hel 3 _ rfl
    have t4 := hel 4 _ rfl
    rw [e0] at t0
    rw [e1] at t1
    rw [e2] at t2
    rw [e3] at t3
    rw [e4] at t4
    obtain ⟨n0, r0⟩ := int_cellH (t := 3) (c := c0) Tryd.underlying3 t0
    obtain ⟨n1, r1⟩ := int_cellH (t := 3) (c := c1) Tryd.underlying3 t1
    obtain ⟨n2, r2⟩ := int_cellH (t := 3) (c := c2) Tryd.underlying3 t2
    obtain ⟨n3, r3⟩ := int_cellH (t := 3) (c := c3) Tryd.underlying3 t3
    obtain ⟨n4, r4⟩ := int_cellH (t := 3) (c := c4) Tryd.underlying3 t4
    subst r0 r1 r2 r3 r4
    exact ⟨⟨n0, n1, n2, n3, n4⟩, rfl⟩
end
end Go.Proofs.YtcleegibdcphiaaDoor
