import Derived.Test.YtlnkofpcidngoaaDoorK0
import Derived.Test.YtlnkofpcidngoaaDoorK28
import Derived.Test.YtlnkofpcidngoaaDoorK18
namespace Go.Proofs.YtlnkofpcidngoaaDoor
open Go.ChangeShapes Go.WideShapes Go.ChangeAt Go.RowKit
theorem gr_own {w wa wx : World} {r : Option Nat} (h : Gr w wa) (k : wa.grownBy wx r) (hr : ∀ q, r = some q → w.heap.size ≤ q) : Gr w wx := by
 cases r with
 | none => exact h.trans k
 | some q => exact grownBy_trans h k (.inr (.inr ⟨q, rfl, hr q rfl⟩))
theorem cblk_far {g B g7 : Nat} {t : TypeId} {cs : List Value} {w w' : World} {r : Option Nat} (hb : CBlk g t cs w) (hg : w.grownBy w' r) (hr : ∀ q, r = some q → B ≤ q ∧ q < g7) (h : g < B ∨ g7 ≤ g) : CBlk g t cs w' :=
 hb.but hg (fun e => by have := hr g e.symm; omega)
theorem ref_own {mode : Int} {S0 P : Snd} {B : Nat} {w : World} (h : RefE mode S0 P) (ho : OwnHd B w S0.a S0.n S0.c S0.refs) : OwnHd B w P.a P.n P.c P.refs := by
 rcases h.1 with ⟨e1, e2, e3, e4⟩ | ⟨e1, e2, e3, e4⟩
 · rw [e1, e2, e3, e4]; exact ho
 · rw [e1, e2, e3, e4]; exact OwnHd.nil B w
theorem ref_blk {mode : Int} {S0 P : Snd} (h : RefE mode S0 P) : ownB P.a P.n P.c = none ∨ ownB P.a P.n P.c = ownB S0.a S0.n S0.c := by
 rcases h.1 with ⟨e1, e2, e3, e4⟩ | ⟨e1, e2, e3, e4⟩
 · rw [e1, e2, e3]; exact .inr rfl
 · rw [e1, e2, e3]; exact .inl rfl
theorem hok_valid {h : Hdr} (hv : validH h = true) : HOk h := by
 obtain ⟨hk, h1, h2, h3, h4, h5, h6, h7, h8, h9, hu, hr⟩ := valid_all hv
 unfold HOk i64
 rcases hk with hk | hk
 · have := hu hk; omega
 · have := hr hk; omega
def TInv (B g7 g3 c3 : Nat) (M : List Snd) (i : Nat) (S0 : Snd) (w : World) : Prop :=
 Elt B g3 16 c3 M i S0 w ∧ (B ≤ g3 ∧ g3 < g7) ∧ ∀ k t, k ≠ i → M[k]? = some t → RdH w t.a t.n t.c t.refs ∧ ∀ q off, t.a = some ⟨q, off, none⟩ → B ≤ q ∧ q < g7 ∧ q ≠ g3
theorem pair_ne {L : List Snd} (hp : L.Pairwise (fun s t => ∀ g, ownB s.a s.n s.c = some g → ownB t.a t.n t.c ≠ some g)) {k i : Nat} {t s : Snd} (hk : L[k]? = some t) (hi : L[i]? = some s) (hne : k ≠ i) : ∀ g, ownB t.a t.n t.c = some g → ownB s.a s.n s.c ≠ some g := by
 rw [List.pairwise_iff_getElem] at hp
 obtain ⟨hk1, hk2⟩ := List.getElem?_eq_some_iff.1 hk
 obtain ⟨hi1, hi2⟩ := List.getElem?_eq_some_iff.1 hi
 intro g hg hs
 rcases Nat.lt_or_gt_of_ne hne with h | h
 · have := hp k i hk1 hi1 h g (by rw [hk2]; exact hg)
   rw [hi2] at this
   exact this hs
 · have := hp i k hi1 hk1 h g (by rw [hi2]; exact hs)
   rw [hk2] at this
   exact this hg
theorem after_app {B g7 g3 c3 : Nat} {M : List Snd} {i : Nat} {S0 : Snd} {w w' : World} {r : Option Nat} (h : OwnC B w (some ⟨g3, 0, none⟩) 16 c3 M) (hi : M[i]? = some S0) (hl : (B ≤ g3 ∧ g3 < g7) ∧ ∀ t ∈ M, ∀ q, ownB t.a t.n t.c = some q → B ≤ q ∧ q < g7) (hg : w.grownBy w' r) (hr : r = none ∨ r = ownB S0.a S0.n S0.c) : TInv B g7 g3 c3 M i S0 w' := by
 refine ⟨⟨h.1.kept hg ?_, hi⟩, hl.1, fun k t hne hk => ?_⟩
 · right
   rcases hr with rfl | rfl
   · intro e; cases e
   · intro e
     exact h.2.2.1 S0 (List.mem_of_getElem? hi) g3 e.symm rfl
 · have hm := List.mem_of_getElem? hk
   have ho := (h.2.1 t hm).1
   refine ⟨OwnHd.rd (B := B) (ho.kept hg ?_) (h.2.1 t hm).2, fun q off e => ?_⟩
   · cases hv : (Value.slice t.a t.n t.c).ownBlock with
     | none => exact .inl rfl
     | some q =>
       right
       rcases hr with rfl | rfl
       · intro e; cases e
       · intro e
         exact pair_ne h.2.2.2 hk hi hne q hv e.symm
   · have hb := (own_blockG ho e).2.1
     have h2 := hl.2 t hm q hb
     refine ⟨h2.1, h2.2, fun e3 => ?_⟩
     subst e3
     exact h.2.2.1 t hm q hb rfl
theorem TInv.but {B g7 g3 c3 : Nat} {M : List Snd} {i : Nat} {S0 : Snd} {w w' : World} {g : Nat} (h : TInv B g7 g3 c3 M i S0 w) (hg : w.grownBy w' (some g)) (hh : g7 ≤ g ∨ g < B) : TInv B g7 g3 c3 M i S0 w' := by
 obtain ⟨h1, h2, h3⟩ := h
 have hne3 : g3 ≠ g := by omega
 refine ⟨⟨h1.1.kept hg (.inr (fun e => hne3 (Option.some.inj e))), h1.2⟩, h2, fun k t hne hk => ?_⟩
 obtain ⟨q1, q2⟩ := h3 k t hne hk
 exact ⟨rdh_but q1 hg (fun b off e => by have := q2 b off e; intro e2; injection e2 with e2; omega), q2⟩
theorem TInv.gr {B g7 g3 c3 : Nat} {M : List Snd} {i : Nat} {S0 : Snd} {w w' : World} (h : TInv B g7 g3 c3 M i S0 w) (hg : Gr w w') : TInv B g7 g3 c3 M i S0 w' :=
 ⟨h.1.kept hg, h.2.1, fun k t hne hk => ⟨(h.2.2 k t hne hk).1.kept hg, (h.2.2 k t hne hk).2⟩⟩
theorem TInv.done {B g7 g3 c3 : Nat} {M : List Snd} {i : Nat} {S0 R : Snd} {w w' : World} (h : TInv B g7 g3 c3 M i S0 w) (hR : RdH w R.a R.n R.c R.refs) (hq : ∀ q off, R.a = some ⟨q, off, none⟩ → q ≠ g3) (hw : w.setCells g3 (i * 9) (SCells R) = w') : RdC w' (some ⟨g3, 0, none⟩) 16 c3 (M.set i R) := by
 obtain ⟨h1, h2, h3⟩ := h
 have hil := lt_someG h1.2
 have ho := own_set scells_len h1.1 i 0 S0 R (SCells R) h1.2 (by simp) (setM_whole _ _ rfl)
 rw [Nat.add_zero, hw] at ho
 obtain ⟨c1, c2, c4⟩ := own_capG ho
 have hlen := flat_lenG scells_len M
 have hlM : M.length = 16 := by have := h1.1.1; rw [hlen] at this; omega
 have hgg : w.grownBy w' (some g3) := by rw [← hw]; exact grown_setCells g3 _ _ w
 refine ⟨by simpa using hlM, c1, c2, c4, own_segG ho, fun y hy => ?_⟩
 obtain ⟨k, hk⟩ := List.getElem?_of_mem hy
 by_cases hki : k = i
 · subst hki
   rw [List.getElem?_set_self hil] at hk
   injection hk with hk
   subst hk
   exact rdh_but hR hgg (fun b off e => by have := hq b off e; intro e2; injection e2 with e2; omega)
 · rw [List.getElem?_set_ne (fun e => hki e.symm)] at hk
   obtain ⟨q1, q2⟩ := h3 k y hki hk
   exact rdh_but q1 hgg (fun b off e => by have := q2 b off e; intro e2; injection e2 with e2; omega)
theorem TInv.above {B g7 g3 c3 : Nat} {M : List Snd} {i : Nat} {S0 R : Snd} {w : World} (h : TInv B g7 g3 c3 M i S0 w) (hq : ∀ q off, R.a = some ⟨q, off, none⟩ → B ≤ q) {p : Nat} (hp : p < B) : ∀ y ∈ M.set i R, NotIn p y.a := by
 intro y hy b off e
 obtain ⟨k, hk⟩ := List.getElem?_of_mem hy
 by_cases hki : k = i
 · subst hki
   rw [List.getElem?_set_self (lt_someG h.1.2)] at hk
   injection hk with hk
   subst hk
   have := hq b off e
   omega
 · rw [List.getElem?_set_ne (fun e => hki e.symm)] at hk
   have := (h.2.2 k y hki hk).2 b off e
   omega
theorem TInv.aboveC {B g7 g3 c3 : Nat} {M : List Snd} {i : Nat} {S0 R : Snd} {w : World} (h : TInv B g7 g3 c3 M i S0 w) (hq : ∀ q off, R.a = some ⟨q, off, none⟩ → B ≤ q) {B' : Nat} (hB : B' ≤ B) : AboveC B' (some ⟨g3, 0, none⟩) (M.set i R) := by
 refine ⟨fun b off e => ?_, fun y hy b off e => ?_⟩
 · injection e with e; injection e with e1 e2
   have := h.2.1.1; omega
 · obtain ⟨k, hk⟩ := List.getElem?_of_mem hy
   by_cases hki : k = i
   · subst hki
     rw [List.getElem?_set_self (lt_someG h.1.2)] at hk
     injection hk with hk
     subst hk
     have := hq b off e
     omega
   · rw [List.getElem?_set_ne (fun e => hki e.symm)] at hk
     have := (h.2.2 k y hki hk).2 b off e
     omega
theorem TInv.there {B g7 g3 c3 : Nat} {M : List Snd} {i : Nat} {S0 : Snd} {w : World} (h : TInv B g7 g3 c3 M i S0 w) : w.there g3 (i * 9) 9 := by
 have := own_thereG scells_len h.1.1 i (lt_someG h.1.2) 0 9 (by omega)
 rwa [Nat.add_zero] at this
def TailRel (mode W : Int) (h : Hdr) (A : Bool) (B g3 g13 : Nat) (wy wc : World) : Prop := ∃ R : Snd, (ctxB mode W R = true ∧ R.act = true ∧ sameB (headS R) h = true) ∧ (dynB R.str R.fol = true ∧ (h.kind = 1 → R.str = 0 ∧ R.fol = 0)) ∧ (A = false → mode = 3 → R.full = W ∧ R.refr = 0 ∧ R.ser = 0 ∧ R.refs = [h]) ∧ CBlk g13 46 (SCells R) wc ∧ RdH wc R.a R.n R.c R.refs ∧ (∀ q off, R.a = some ⟨q, off, none⟩ → q ≠ g3 ∧ q ≠ g13 ∧ B ≤ q) ∧ wy.grownBy wc (some g13)
theorem found_zero {M : List Snd} {h : Hdr} {i : Nat} (hf : Found M h i) (hz : ∀ t ∈ M, t.act = false) : i = 0 := by
 obtain ⟨s, hs, ⟨h1, _⟩ | ⟨_, _, h3⟩⟩ := hf
 · have := hz s (List.mem_of_getElem? hs)
   rw [h1] at this; cases this
 · rcases Nat.eq_zero_or_pos i with h0 | h0
   · exact h0
   · have hl := lt_someG hs
     have hl0 : 0 < M.length := by omega
     have h4 := h3 0 M[0] h0 (List.getElem?_eq_getElem hl0)
     have h5 := hz _ (List.getElem_mem hl0)
     rw [h4] at h5; cases h5
end Go.Proofs.YtlnkofpcidngoaaDoor
