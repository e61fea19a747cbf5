/- Layer 9 (compressor): the reference's context, Valid. -/
import Derived.Test.YtlnkofpcidngoaaDoorA0
import Derived.Test.YtlnkofpcidngoaaDoorA16
import Derived.Test.YtlnkofpcidngoaaDoorA7
namespace Go.Proofs.YtlnkofpcidngoaaDoor
open Go.ChangeShapes Go.WideShapes Go.ChangeAt Go.RowKit
theorem empty_yes {s : Snd} (h : emptyB s = true) : s.full = 0 ∧ s.refr = 0 ∧ s.ser = 0 ∧ s.since = 0 ∧ s.long = 0 ∧ s.str = 0 ∧ s.fol = 0 ∧ s.refs.length = 0 := by
 simp only [emptyB, Bool.and_eq_true, decide_eq_true_eq] at h
 omega
theorem act_yes {mode width : Int} {s : Snd} (h : actB mode width s = true) : (1 ≤ s.refs.length ∧ (s.refs.length : Int) ≤ most mode width) ∧ (0 ≤ s.ser ∧ s.ser ≤ s.refs.length) ∧ (0 ≤ s.full ∧ s.full ≤ width) ∧ (0 ≤ s.refr ∧ s.refr ≤ width) ∧ (s.full ≤ 0 ∨ s.refr ≤ 0) ∧ (0 ≤ s.since ∧ s.since ≤ 32) ∧ (0 ≤ s.long ∧ s.long ≤ 3) ∧ dynB s.str s.fol = true ∧ plainB s = true ∧ ∀ x ∈ s.refs, validH x = true ∧ sameB x (headS s) = true := by
 simp only [actB, rngB, inB, okRef, Bool.and_eq_true, decide_eq_true_eq, Bool.not_eq_true', Bool.and_eq_false_iff, decide_eq_false_iff_not, List.all_eq_true] at h
 obtain ⟨⟨h1, h2, h3, h4, h5, h6⟩, h7, h8, h9, h10, h11⟩ := h
 exact ⟨⟨h1, h2⟩, h3, h4, h5, by omega, h7, h8, h9, h10, h11⟩
end Go.Proofs.YtlnkofpcidngoaaDoor