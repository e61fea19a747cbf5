/- The law LsbMonotone returns true for every input, and each argument reads behind the call as it read before. -/
import Derived.Test.YtinkllejjilenaaFrame
import Derived.Test.YtinkllejjilenaaLsbMonotone
namespace Go.Proofs.Ytinkllejjilenaa.lsbMonotone
open Go.ChangeShapes Go.WideShapes Go.ChangeAt Go.RowKit

set_option maxRecDepth 100000 in
theorem lifted (os : Os) (started : os.Started) (H : Type) (enc : TypeId × Value → H) :
    ReturnsInHanded {} Try.checked os 5 .any (Rows.lsbMonotoneSpec.pre6 enc Try.prog Try.f5 Rows.lsbMonotoneRow.domain false) (Rows.lsbMonotoneSpec.post enc Try.prog Try.f5 false true false false) := by
  refine returnsInHanded_of_change_sized (C := Try.checked) own started (by kernel_rfl) Try.func5
    (ChangeSpec.witness6 (enc := enc) (C := Try.checked) false ⟨#[], #[.int .i64 0, .slice none 0 0, .agg #[.int .i64 0, .int .i64 0]], []⟩ 8 (by kernel_rfl) (by kernel_rfl) (by kernel_rfl) (by kernel_rfl)) ?_
  intro W base args ds gs before hval0 hW hcnd hsz _
  have hval : ∀ (j : Nat) t v, Try.f5.params[j]? = some t → args[j]? = some v → Value.okWide Try.prog W .any base t v := hval0
  have hW' := hW
  obtain ⟨p, q, hA0, hV, rfl, hfz, hnd⟩ := hW
  have hA : DataW.TrodAll enc Try.prog W 0 (fun _ => true) true Try.f5.params.toList args.toList ds p := hA0
  have hA1 := hA
  rw [Try.params5] at hA hval
  obtain ⟨v0, vs0, d0, ds0, p0, q0, hargs, rfl, rfl, h0, r0⟩ := trodAll_cons hA
  obtain ⟨v1, vs1, d1, ds1, p1, q1, rfl, rfl, rfl, h1, r1⟩ := trodAll_cons r0
  obtain ⟨v2, vs2, d2, ds2, p2, q2, rfl, rfl, rfl, h2, r2⟩ := trodAll_cons r1
  obtain ⟨rfl, rfl, rfl⟩ := trodAll_nil r2
  obtain rfl : args = #[v0, v1, v2] := by cases args; simp_all
  obtain ⟨rfl, rfl⟩ := trodVars_none hV
  obtain ⟨a0, rfl, rfl, rfl, w0⟩ := open_int Try.underlying3 (hval 0 3 v0 rfl rfl) h0
  obtain ⟨p1_, len1, cap1, rfl⟩ := okWide_slice Try.underlying23 (hval 1 23 v1 rfl rfl)
  obtain ⟨xs1, w1, c1, e1⟩ := open_rd (k := .i64) Try.underlying23 Try.underlying3 (by kernel_rfl) h1
  obtain ⟨l2, hl2, rfl, hb2⟩ := open_arr (t := 36) (e := 3) Try.underlying36 Try.underlying3 (by kernel_rfl) (by kernel_rfl) (hval 2 36 v2 rfl rfl) h2
  obtain ⟨x2_0, x2_1, rfl⟩ := list2 hl2
  refine (mono_fit a0 p1_ len1 cap1 xs1 x2_0 x2_1 W (bounds_i64 w0) w1 c1 (by have := len_sized (n := 8) hsz (j := 1) rfl rfl Try.underlying23 (by kernel_rfl) e1; omega) (hb2 x2_0 (by simp)) (hb2 x2_1 (by simp))).mono fun e W' ⟨he, bel⟩ => ?_
  subst he
  exact ⟨_, rfl, _, _, _, [], _, [], hW', trodAll_mk1 (shut_bool Try.underlying4 _), trodAll_stays laidOut bel _ _ _ _ (of_decide_eq_true (by kernel_rfl)) hA1, rfl, bel.frame _, fun h => by cases h⟩

/-- The statement. -/
theorem proved : Rows.LsbMonotoneSaid :=
  OpenClaim.holds_of_wide 5 Try.f5 rfl rfl rfl rfl rfl rfl rfl ⟨rfl, rfl, rfl, rfl, rfl⟩ rfl rfl rfl rfl rfl (by kernel_rfl) Try.func5 (by kernel_rfl)
    (of_decide_eq_true (by kernel_rfl)) (by unfold Func.isWrapper; first | (rw [if_pos (by decide +kernel)]; kernel_rfl) | (rw [if_neg (by decide +kernel)]; exact ⟨rfl, rfl⟩))
    (fun os started H enc _ => lifted os started H enc)
#print axioms proved
end Go.Proofs.Ytinkllejjilenaa.lsbMonotone
