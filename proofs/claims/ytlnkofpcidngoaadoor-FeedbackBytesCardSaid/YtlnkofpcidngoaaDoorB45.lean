/- Several texts in one. -/
import Derived.Test.YtlnkofpcidngoaaDoorB0
import Derived.Test.YtlnkofpcidngoaaDoorB3
import Derived.ProofKit
import Derived.LaidMore
import Derived.OpenShut
import Derived.Stop.Joined
import Derived.Maps.OwnSet
import Derived.Test.YtlnkofpcidngoaaDoorB16
import Derived.Test.YtlnkofpcidngoaaDoorB44
import Derived.Test.YtlnkofpcidngoaaDoorB1
namespace Go.Proofs.YtlnkofpcidngoaaDoor
open Go.ChangeShapes Go.WideShapes Go.ChangeAt Go.WideElems Go.Maps Go.RowKit
open Crc
theorem gPoly : Tryd.prog.globalNamed "radiolink/check.polynomials" = some 0 := by kernel_rfl
theorem tPoly : (Tryd.prog.globals[0]?).map (·.type) = some 120 := by kernel_rfl
theorem lawInt : Keyed Tryd.prog 3 := int_keyed Tryd.underlying3
theorem zeroInt (w : World) : (zeroValue 3).run Tryd.prog w = .ok (.int .i64 0) w := by kernel_rfl
def polyD {H : Type} : DataW H := .map [(.int .i64 3, .lit (.int .i64 3)), (.int .i64 7, .lit (.int .i64 9)), (.int .i64 8, .lit (.int .i64 7)), (.int .i64 16, .lit (.int .i64 4129)), (.int .i64 24, .lit (.int .i64 8801531))]
theorem poly_at {H : Type} (k : Int) : (polyD (H := H)).atKey (.int .i64 k) (.lit (.int .i64 0)) = .lit (.int .i64 (polyV k)) := by
 by_cases h : isKind k
 · rcases h with rfl | rfl | rfl | rfl | rfl <;> rfl
 · rw [polyV_no h]
   unfold isKind at h
   simp only [polyD, DataW.atKey, List.find?_cons, Lit.sameKey, List.find?_nil]
   rw [decide_eq_false (by omega), decide_eq_false (by omega), decide_eq_false (by omega), decide_eq_false (by omega), decide_eq_false (by omega)]
theorem poly_has {H : Type} (k : Int) : Maps.has (polyD (H := H)) (.int .i64 k) = decide (isKind k) := by
 by_cases h : isKind k
 · rw [decide_eq_true h]
   rcases h with rfl | rfl | rfl | rfl | rfl <;> rfl
 · rw [decide_eq_false h]
   unfold isKind at h
   simp only [polyD, Maps.has, List.any_cons, Lit.sameKey, List.any_nil]
   rw [decide_eq_false (by omega), decide_eq_false (by omega), decide_eq_false (by omega), decide_eq_false (by omega), decide_eq_false (by omega)]
   rfl
theorem laid_in {W : World} (h : laidMetH Tryd.prog [("radiolink/check.polynomials", Rows.laid_radiolink_check_polynomials)] W) : LaidIn W := by
 rw [MakeChecks.laidMetH_plain _ _ _ (by kernel_rfl)] at h
 obtain ⟨ps, ⟨g0, t0, cs0, f0, p0, q0, hg0, ht0, hv0, hd0, _, _⟩, _, _⟩ := h
 obtain rfl := Option.some.inj (gPoly.symm.trans hg0)
 obtain rfl := Option.some.inj (tPoly.symm.trans ht0)
 rcases open_map Tryd.underlying120 hd0 with ⟨_, hx⟩ | ⟨bm, es, clock, m, rfl, hcs, hb, _, F, hx⟩
 · simp [Rows.laid_radiolink_check_polynomials] at hx
 simp only [Prod.mk.injEq] at hx
 have hcell : W.cell? ⟨0, 0, none⟩ = some (.map (some bm)) := by
   have := World.var?_cell hg0 hv0 0
   rw [Array.eq_one_of_toList hcs] at this
   simpa using this
 have hown := World.ownsMap_of_fit (R := plainElem Tryd.prog 3) hb F (fun x _ z hz => elemAt_plainElem_int Tryd.underlying3 hz)
 rw [← hx.1] at hown
 refine ⟨bm, hcell, fun w' hg k hk => ?_⟩
 have hown' := hown.kept hg (by simp)
 obtain ⟨v, ps', hrun, hv⟩ := hown'.look_ok lawInt Tryd.underlying120 (zeroInt w') (plainElem_int Tryd.underlying3 (by decide)) (keyOf_int_mk Tryd.underlying3 (WalkArith.wf_i64 hk))
 rw [hrun]
 have e : (Rows.laid_radiolink_check_polynomials : DataW Unit) = polyD := rfl
 rw [e] at hv
 rw [poly_at] at hv
 rw [e, poly_has]
 obtain ⟨c, rfl, hc, _⟩ := plainElem_int_inv Tryd.underlying3 hv
 have hcc := congrArg Prod.fst hc
 simp only [DataW.lit.injEq, Lit.int.injEq, true_and] at hcc
 rw [hcc]
end Go.Proofs.YtlnkofpcidngoaaDoor
namespace Go.Proofs.YtlnkofpcidngoaaDoor
open Go.ChangeShapes Go.WideShapes Go.ChangeAt Go.RowKit
open Crc
theorem run_neqF (a b c : Int) (w : World) : (binOp .neq 26 (FVal a b c) (FVal a b c)).run Tryd.prog w = .ok (.bool false) w := by
 go_simp
end Go.Proofs.YtlnkofpcidngoaaDoor
