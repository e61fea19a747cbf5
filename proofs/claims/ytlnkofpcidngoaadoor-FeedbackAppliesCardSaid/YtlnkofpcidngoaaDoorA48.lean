/- Several texts in one. -/
import Derived.Test.YtlnkofpcidngoaaDoorA0
import Derived.Test.YtlnkofpcidngoaaDoorA1
import Derived.Test.YtlnkofpcidngoaaDoorA7
import Derived.Test.YtlnkofpcidngoaaDoorA14
import Derived.Test.YtlnkofpcidngoaaDoorA13
import Derived.ProofKit
import Derived.LaidMore
import Derived.OpenShut
import Derived.Stop.Joined
import Derived.Maps.OwnSet
/- A compressor among the arguments, opened: contexts, and the headers they hold. -/
namespace Go.Proofs.YtlnkofpcidngoaaDoor
open Go.ChangeShapes Go.WideShapes Go.ChangeAt Go.RowKit Go.Deep
section
variable {H : Type} {enc : TypeId × Value → H}
theorem open_rows {α : Type} {W : World} {t e : TypeId} {sz : Nat} (RC : α → List Value) (Pr : α → Prop) (ht : (Tryd.prog).underlying t = some (.slice e)) (hC : (Tryd.prog).cellsOf e = sz) (hsz : 0 < sz) (hlen : ∀ r, (RC r).length = sz)
  (hop : ∀ m cs (x : DataW H × List MemPlace), DataW.trod enc Tryd.prog W 0 (fun _ => true) true m e cs = some x → ∃ r : α, cs = RC r ∧ Pr r) {m : Nat} {v : Value} {x : DataW H × List MemPlace} (h : DataW.trod enc Tryd.prog W 0 (fun _ => true) true m t [v] = some x) :
  ∃ (a : Option Addr) (n c : Nat) (L : List α), v = .slice a n c ∧ L.length = n ∧ n ≤ c ∧ c ≤ maxLen ∧ (a = none → n = 0 ∧ c = 0) ∧ Seg W a (L.flatMap RC) ∧ ∀ r ∈ L, Pr r := by
 rcases DataW.trod_slice ht h with ⟨h1, _⟩ | ⟨x, len, c, elems, rest, n, _, h1, h2, _, hl, hm, hel, hcell, _, _⟩
 ·injection h1 with h1
  exact ⟨none, 0, 0, [], h1, rfl, Nat.le_refl _, by decide, fun _ => ⟨rfl, rfl⟩, .inl rfl, fun r hr => by cases hr⟩
 ·injection h1 with h1
  have each : ∀ i, i < len → ∃ r : α, (∃ cs, W.cells? 0 (x.add (i * sz)) sz = some cs ∧ cs = RC r) ∧ Pr r := by
   intro i hi
   have := hcell i hi
   rw [hC, List.getElem?_eq_getElem (by omega)] at this
   simp only [Option.bind_eq_some_iff] at this
   obtain ⟨cs, h1, h2⟩ := this
   obtain ⟨r, e, hr⟩ := hop _ _ _ h2
   exact ⟨r, ⟨cs, h1, e⟩, hr⟩
  have gen : ∀ m, m ≤ len → ∃ L : List α, L.length = m ∧ ∀ i r, L[i]? = some r → (∃ cs, W.cells? 0 (x.add (i * sz)) sz = some cs ∧ cs = RC r) ∧ Pr r := by
   intro m
   induction m with
   | zero => exact fun _ => ⟨[], rfl, by simp⟩
   | succ m ih =>
    intro hm
    obtain ⟨L, hL, hall⟩ := ih (by omega)
    obtain ⟨r, hr⟩ := each m (by omega)
    refine ⟨L ++ [r], by simp [hL], fun i q hq => ?_⟩
    by_cases hi : i < L.length
    ·rw [List.getElem?_append_left hi] at hq
     exact hall i q hq
    ·have hil := (List.getElem?_eq_some_iff.1 hq).1
     simp only [List.length_append, List.length_cons, List.length_nil] at hil
     obtain rfl : i = L.length := by omega
     rw [List.getElem?_append_right (Nat.le_refl _), Nat.sub_self] at hq
     injection hq with hq
     subst hq
     rw [hL]
     exact hr
  obtain ⟨L, hL, hall⟩ := gen len (Nat.le_refl _)
  refine ⟨some x, len, c, L, h1, hL, hl, hm, fun e => (by cases e), ?_, fun r hr => ?_⟩
  ·rcases Nat.eq_zero_or_pos len with h0 | h0
   ·left
    rw [List.length_eq_zero_iff.1 (hL.trans h0)]; rfl
   ·right
    obtain ⟨b, off, spot⟩ := x
    have cell : ∀ i r, L[i]? = some r → ∀ j, j < sz → W.cell? ((⟨b, off, spot⟩ : Addr).add (i * sz) |>.add j) = (RC r)[j]? := by
     intro i r hi j hj
     obtain ⟨⟨cs, hcs, rfl⟩, _⟩ := hall i r hi
     exact (World.cells?_some hcs).2.2 j hj
    have h00 := cell 0 (L[0]'(by omega)) (List.getElem?_eq_getElem _) 0 hsz
    rw [List.getElem?_eq_getElem (by rw [hlen]; exact hsz)] at h00
    have hspot : spot = none := by simpa [Addr.add] using World.cell?_spot h00
    subst hspot
    refine ⟨b, off, rfl, ?_, fun i hi => ?_⟩
    ·have := cell_lt h00
     simpa [addr_add] using this
    ·rw [flat_lenG hlen L] at hi
     have hq : i / sz < L.length := Nat.div_lt_of_lt_mul (by rw [Nat.mul_comm]; exact hi)
     have hmm : i / sz * sz + i % sz = i := by rw [Nat.mul_comm]; exact Nat.div_add_mod i sz
     have := cell (i / sz) (L[i / sz]'hq) (List.getElem?_eq_getElem _) (i % sz) (Nat.mod_lt _ hsz)
     rw [addr_add, addr_add, Nat.add_assoc, hmm] at this
     rw [this, ← flat_atG hlen L (i / sz) (i % sz) _ (List.getElem?_eq_getElem hq) (Nat.mod_lt _ hsz), hmm]
  ·obtain ⟨i, hi⟩ := List.getElem?_of_mem hr
   exact (hall i r hi).2
theorem int_cellC {W : World} {b1 : Nat} {sp : Nat → Bool} {held : Bool} {m : Nat} {t : TypeId} {c : Value} {x : DataW H × List MemPlace} (ht : (Tryd.prog).underlying t = some (.int .i64)) (h : DataW.trod enc Tryd.prog W b1 sp held m t [c] = some x) : ∃ n, c = .int .i64 n ∧ i64 n := by
 obtain ⟨n, h1, _, wf⟩ := DataW.trod_int ht h
 injection h1 with h1
 exact ⟨n, h1, bounds_i64 wf⟩
set_option maxRecDepth 20000 in
theorem open_hdr {W : World} {m : Nat} {cs : List Value} {x : DataW H × List MemPlace} (h : DataW.trod enc Tryd.prog W 0 (fun _ => true) true m 49 cs = some x) : ∃ h : Hdr, cs = HCells h ∧ HOk h := by
 obtain ⟨_, _, _, _, hl, _, _⟩ := DataW.trod_struct Tryd.underlying49 h
 rw [show (Tryd.prog).cellsOf 49 = 15 by kernel_rfl] at hl
 obtain ⟨xs, h1, rfl, h3⟩ := ints_list (struct_ints (e := 3) Tryd.underlying49 (by kernel_rfl) (by kernel_rfl) Tryd.underlying3 hl h)
 rw [hl] at h1
 match xs, h1 with
 | [x0, x1, x2, x3, x4, x5, x6, x7, x8, x9, x10, x11, x12, x13, x14], _ =>
  refine ⟨⟨x0, x1, x2, x3, x4, x5, x6, x7, x8, x9, x10, x11, x12, x13, x14⟩, rfl, ?_⟩
  simp only [HOk, i64]
  exact ⟨h3 _ (by simp), h3 _ (by simp), h3 _ (by simp), h3 _ (by simp), h3 _ (by simp), h3 _ (by simp), h3 _ (by simp), h3 _ (by simp), h3 _ (by simp), h3 _ (by simp), h3 _ (by simp), h3 _ (by simp), h3 _ (by simp), h3 _ (by simp), h3 _ (by simp)⟩
set_option maxRecDepth 20000 in
theorem open_snd {W : World} {m : Nat} {cs : List Value} {x : DataW H × List MemPlace} (h : DataW.trod enc Tryd.prog W 0 (fun _ => true) true m 46 cs = some x) : ∃ s : Snd, cs = SCells s ∧ RdH W s.a s.n s.c s.refs := by
 obtain ⟨xs, n, _, rfl, hl, hx, hel⟩ := DataW.trod_struct Tryd.underlying46 h
 rw [show (Tryd.prog).cellsOf 46 = 9 by kernel_rfl] at hl
 have hx8 : xs.length = 8 := hx
 match cs, hl with
 | [c0, c1, c2, c3, c4, c5, c6, c7, c8], _ =>
  have get : ∀ i, i < 8 → ∃ y, xs[i]? = some y := fun i hi => ⟨xs[i]'(by omega), List.getElem?_eq_getElem _⟩
  obtain ⟨y0, e0⟩ := get 0 (by omega)
  obtain ⟨y1, e1⟩ := get 1 (by omega)
  obtain ⟨y2, e2⟩ := get 2 (by omega)
  obtain ⟨y3, e3⟩ := get 3 (by omega)
  obtain ⟨y4, e4⟩ := get 4 (by omega)
  obtain ⟨y5, e5⟩ := get 5 (by omega)
  obtain ⟨y6, e6⟩ := get 6 (by omega)
  obtain ⟨y7, e7⟩ := get 7 (by omega)
  have t0 := hel 0 _ rfl
  have t1 := hel 1 _ rfl
  have t2 := hel 2 _ rfl
  have t3 := hel 3 _ rfl
  have t4 := hel 4 _ rfl
  have t5 := hel 5 _ rfl
  have t6 := hel 6 _ rfl
  have t7 := hel 7 _ rfl
  rw [e0] at t0
  rw [e1] at t1
  rw [e2] at t2
  rw [e3] at t3
  rw [e4] at t4
  rw [e5] at t5
  rw [e6] at t6
  rw [e7] at t7
  obtain ⟨b, r0, _⟩ := DataW.trod_bool (t := 4) (cs := [c0]) Tryd.underlying4 t0
  injection r0 with r0
  obtain ⟨n1, r1, _⟩ := int_cellC (t := 3) (c := c1) Tryd.underlying3 t1
  obtain ⟨n2, r2, _⟩ := int_cellC (t := 3) (c := c2) Tryd.underlying3 t2
  obtain ⟨n3, r3, _⟩ := int_cellC (t := 3) (c := c3) Tryd.underlying3 t3
  obtain ⟨n4, r4, _⟩ := int_cellC (t := 3) (c := c4) Tryd.underlying3 t4
  obtain ⟨n5, r5, _⟩ := int_cellC (t := 3) (c := c5) Tryd.underlying3 t5
  have t6' : DataW.trod enc Tryd.prog W 0 (fun _ => true) true n 43 [c6, c7] = some y6 := t6
  obtain ⟨ds, h1, h2, _⟩ := ints_list (struct_ints (e := 3) Tryd.underlying43 (by kernel_rfl) (by kernel_rfl) Tryd.underlying3 (show [c6, c7].length = 2 from rfl) t6')
  obtain ⟨a, hn, hc, L, r7, q1, q2, q3, q4, q5, q6⟩ := open_rows HCells HOk (t := 44) (e := 49) (v := c8) Tryd.underlying44 (by kernel_rfl) (by omega : 0 < 15) (fun _ => rfl) (fun _ _ _ => open_hdr) t7
  match ds, h1 with
  | [d0, d1], _ =>
   injection h2 with h2 h3
   injection h3 with h3 _
   subst r0 r1 r2 r3 r4 r5 h2 h3 r7
   exact ⟨⟨b, n1, n2, n3, n4, n5, d0, d1, a, hn, hc, L⟩, rfl, q1, q2, q3, q4, q5, q6⟩
set_option maxRecDepth 20000 in
theorem open_comp {W : World} {r : Reach} {base : Nat} {v : Value} {d : DataW H} {p : List MemPlace} (hv : Value.okWide Tryd.prog W r base 24 v) (h : DataW.Trod enc Tryd.prog W 0 (fun _ => true) true 24 v d p) :
  ∃ (mo wi : Int) (a : Option Addr) (n c : Nat) (L : List Snd), v = CVal mo wi a n c ∧ RdC W a n c L := by
 obtain ⟨cs, rfl, hsz⟩ := okWide_struct Tryd.underlying24 hv
 obtain ⟨m, hf⟩ := h
 have hf' : DataW.trod enc Tryd.prog W 0 (fun _ => true) true m 24 cs.toList = some (d, p) := hf
 obtain ⟨xs, n, _, _, hl, hx, hel⟩ := DataW.trod_struct Tryd.underlying24 hf'
 rw [show (Tryd.prog).cellsOf 24 = 3 by kernel_rfl] at hl
 have hx3 : xs.length = 3 := hx
 obtain ⟨l⟩ := cs
 simp only at hl hel
 match l, hl with
 | [c0, c1, c2], _ =>
  have get : ∀ i, i < 3 → ∃ y, xs[i]? = some y := fun i hi => ⟨xs[i]'(by omega), List.getElem?_eq_getElem _⟩
  obtain ⟨y0, e0⟩ := get 0 (by omega)
  obtain ⟨y1, e1⟩ := get 1 (by omega)
  obtain ⟨y2, e2⟩ := get 2 (by omega)
  have t0 := hel 0 _ rfl
  have t1 := hel 1 _ rfl
  have t2 := hel 2 _ rfl
  rw [e0] at t0
  rw [e1] at t1
  rw [e2] at t2
  obtain ⟨n0, r0, _⟩ := int_cellC (t := 3) (c := c0) Tryd.underlying3 t0
  obtain ⟨n1, r1, _⟩ := int_cellC (t := 3) (c := c1) Tryd.underlying3 t1
  obtain ⟨a, hn, hc, L, r2, q1, q2, q3, q4, q5, q6⟩ := open_rows SCells (fun s => RdH W s.a s.n s.c s.refs) (t := 22) (e := 46) (v := c2) Tryd.underlying22 (by kernel_rfl) (by omega : 0 < 9) (fun _ => rfl) (fun _ _ _ => open_snd) t2
  subst r0 r1 r2
  exact ⟨n0, n1, a, hn, hc, L, rfl, q1, q2, q3, q4, q5, q6⟩
set_option maxRecDepth 20000 in
theorem open_fb {W : World} {r : Reach} {base : Nat} {v : Value} {d : DataW H} {p : List MemPlace} (hv : Value.okWide Tryd.prog W r base 26 v) (h : DataW.Trod enc Tryd.prog W 0 (fun _ => true) true 26 v d p) :
  ∃ fc fk fn : Int, v = FVal fc fk fn := by
 obtain ⟨xs, h1, rfl, _⟩ := open_struct (e := 3) Tryd.underlying26 (by kernel_rfl) (by kernel_rfl) Tryd.underlying3 (by kernel_rfl) hv h
 have h3 : xs.length = 3 := h1
 match xs, h3 with
 | [x0, x1, x2], _ => exact ⟨x0, x1, x2, rfl⟩
end
end Go.Proofs.YtlnkofpcidngoaaDoor
/- Layer 03 (check): the listed map gives its look-ups to the walks. -/
namespace Go.Proofs.YtlnkofpcidngoaaDoor
open Go.ChangeShapes Go.WideShapes Go.ChangeAt Go.WideElems Go.Maps Go.RowKit
open Crc
theorem gPoly : Tryd.prog.globalNamed "radiolink/check.polynomials" = some 0 := by kernel_rfl
theorem tPoly : (Tryd.prog.globals[0]?).map (·.type) = some 120 := by kernel_rfl
theorem lawInt : Keyed Tryd.prog 3 := int_keyed Tryd.underlying3
theorem zeroInt (w : World) : (zeroValue 3).run Tryd.prog w = .ok (.int .i64 0) w := by kernel_rfl
def polyD {H : Type} : DataW H := .map [(.int .i64 3, .lit (.int .i64 3)), (.int .i64 7, .lit (.int .i64 9)), (.int .i64 8, .lit (.int .i64 7)), (.int .i64 16, .lit (.int .i64 4129)), (.int .i64 24, .lit (.int .i64 8801531))]
theorem poly_at {H : Type} (k : Int) : (polyD (H := H)).atKey (.int .i64 k) (.lit (.int .i64 0)) = .lit (.int .i64 (polyV k)) := by
 by_cases h : isKind k
 ·rcases h with rfl | rfl | rfl | rfl | rfl <;> rfl
 ·rw [polyV_no h]
  unfold isKind at h
  simp only [polyD, DataW.atKey, List.find?_cons, Lit.sameKey, List.find?_nil]
  rw [decide_eq_false (by omega), decide_eq_false (by omega), decide_eq_false (by omega), decide_eq_false (by omega), decide_eq_false (by omega)]
theorem poly_has {H : Type} (k : Int) : Maps.has (polyD (H := H)) (.int .i64 k) = decide (isKind k) := by
 by_cases h : isKind k
 ·rw [decide_eq_true h]
  rcases h with rfl | rfl | rfl | rfl | rfl <;> rfl
 ·rw [decide_eq_false h]
  unfold isKind at h
  simp only [polyD, Maps.has, List.any_cons, Lit.sameKey, List.any_nil]
  rw [decide_eq_false (by omega), decide_eq_false (by omega), decide_eq_false (by omega), decide_eq_false (by omega), decide_eq_false (by omega)]
  rfl
theorem laid_in {W : World} (h : laidMetH Tryd.prog [("radiolink/check.polynomials", Rows.laid_radiolink_check_polynomials)] W) : LaidIn W := by
 rw [MakeChecks.laidMetH_plain _ _ _ (by kernel_rfl)] at h
 obtain ⟨ps, ⟨g0, t0, cs0, f0, p0, q0, hg0, ht0, hv0, hd0, _, _⟩, _, _⟩ := h
 obtain rfl := Option.some.inj (gPoly.symm.trans hg0)
 obtain rfl := Option.some.inj (tPoly.symm.trans ht0)
 rcases open_map Tryd.underlying120 hd0 with ⟨_, hx⟩ | ⟨bm, es, clock, m, rfl, hcs, hb, _, F, hx⟩
 ·simp [Rows.laid_radiolink_check_polynomials] at hx
 simp only [Prod.mk.injEq] at hx
 have hcell : W.cell? ⟨0, 0, none⟩ = some (.map (some bm)) := by
  have := World.var?_cell hg0 hv0 0
  rw [Array.eq_one_of_toList hcs] at this
  simpa using this
 have hown := World.ownsMap_of_fit (R := plainElem Tryd.prog 3) hb F (fun x _ z hz => elemAt_plainElem_int Tryd.underlying3 hz)
 rw [← hx.1] at hown
 refine ⟨bm, hcell, fun w' hg k hk => ?_⟩
 have hown' := hown.kept hg (by simp)
 obtain ⟨v, ps', hrun, hv⟩ := hown'.look_ok lawInt Tryd.underlying120 (zeroInt w') (plainElem_int Tryd.underlying3 (by decide)) (keyOf_int_mk Tryd.underlying3 (WalkArith.wf_i64 hk))
 rw [hrun]
 have e : (Rows.laid_radiolink_check_polynomials : DataW Unit) = polyD := rfl
 rw [e] at hv
 rw [poly_at] at hv
 rw [e, poly_has]
 obtain ⟨c, rfl, hc, _⟩ := plainElem_int_inv Tryd.underlying3 hv
 have hcc := congrArg Prod.fst hc
 simp only [DataW.lit.injEq, Lit.int.injEq, true_and] at hcc
 rw [hcc]
end Go.Proofs.YtlnkofpcidngoaaDoor
