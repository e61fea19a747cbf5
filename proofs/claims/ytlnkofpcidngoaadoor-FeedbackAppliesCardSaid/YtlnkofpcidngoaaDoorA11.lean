/- Several texts in one. -/
import Derived.Test.YtlnkofpcidngoaaDoorA0
import Derived.Test.YtlnkofpcidngoaaDoorA1
import Derived.Test.YtlnkofpcidngoaaDoorA10
import Derived.Laws.MakeOwn
import Derived.Laws.OwnMore
/- Regions that draw their order, once more: the last operations are a chain of chosen places; between them may stand operations whose value no last operation turns (an invariant of worlds says why). -/
namespace Go.Proofs.YtlnkofpcidngoaaDoor
open Go.ChangeShapes Go.WideShapes Go.ChangeAt Go.RowKit
namespace Sched2
open Sched (NPred Stable lst Closed dstOf bef chk1 chk_pair chk_edge listed_of_bef newsL newsL_congr put_size put_defers put_get look_same nq_wp tq_wp nq tq uniq dst_lt lst_set closed_set acts_reg EndN putNews endN_inst putNews_reg cnt cnt_set cnt_zero all_of_ready)
variable (P : Program) (ops : Array Oper) (W : World) (I : World → Prop)
def gq (o : Oper) (a : Act) (w : World) (v : Value) (late : Bool) : Prop :=
 match (execOp a.eval o).run P w with
 | .ok (.value u) w' => w' = w ∧ u = v
 | .ok .skip w' => w' = w ∧ v = undef
 | .ok (.enter f args) w' => w' = w ∧ Calls P f args w (fun e w'' => e = .returned v ∧ (late = true → w = w'') ∧ Gr w w'')
 | _ => False
def Walk1 (late news ord : List Nat) (Q : Act → List (Option Tmp × NPred) → Prop) : List Oper → Nat → Act → List (Option Tmp × NPred) → Prop
 | [], _, a, L => Q a L
 | o :: r, k, a, L =>
  if ord.contains k then Walk1 late news ord Q r (k + 1) a L
  else if news.contains k then
   Region.wanted o (yielded ops a.tmps) = true ∧ ∃ N : NPred, Stable N ∧ (∀ w, Gr W w → nq P o a w N) ∧ Walk1 late news ord Q r (k + 1) a (L ++ [(o.dst, N)])
  else if Region.wanted o (yielded ops a.tmps) then
   ∃ v, (∀ w, (if late.contains k then I w else Gr W w) → gq P o a w v (late.contains k)) ∧ Walk1 late news ord Q r (k + 1) (a.put o.dst v) L
  else Walk1 late news ord Q r (k + 1) (a.put o.dst undef) L
def Walk2 (tight : Bool) (Q : Act → World → Prop) : List Oper → Act → World → Prop
 | [], a, w => Q a w
 | o :: r, a, w =>
  if Region.wanted o (yielded ops a.tmps) then tq P o a w (fun a' w' => ((tight = true ∧ r = []) ∨ I w') ∧ Walk2 tight Q r a' w') else Walk2 tight Q r (a.put o.dst undef) w
def chk2 (ops : Array Oper) (B : Array Nat) (late news ord : List Nat) (tight : Bool) : Bool :=
 (!tight || late.all fun j => match ord[ord.length - 1]? with | some q => bef B q j | none => true) &&
 (ord.all fun k => decide (k < ops.size)) && decide ord.Nodup &&
 (news.all fun k => decide (k < ops.size) && !ord.contains k) && (late.all fun k => decide (k < ops.size) && !news.contains k && !ord.contains k) &&
 ((List.range ops.size).all fun j => ord.contains j || late.contains j || (match ord with | [] => true | q :: _ => bef B q j)) &&
 ((List.range ord.length).all fun s => decide (s = 0) || bef B (ord.getD s 0) (ord.getD (s - 1) 0)) &&
 ((List.range ops.size).all fun i => match ops[i]? with
  | none => false
  | some o => ord.contains i || (news.all fun k => match dstOf ops k with | some t => !(o.looksAt ops).contains t | none => true)) &&
 ((List.range ops.size).all fun i => match ops[i]? with
  | none => false
  | some o => (List.range ops.size).all fun j => match dstOf ops j with
   | none => true
   | some t => !(o.looksAt ops).contains t || (if ord.contains i then ord.contains j || (decide (j < i) && bef B i j) else !ord.contains j || (decide (i < j) && bef B j i)))
variable {P ops W I}
variable {B : Array Nat} {late news ord : List Nat} {tight : Bool}
/-! ### What the check gives -/
structure Chk (ops : Array Oper) (B : Array Nat) (late news ord : List Nat) (tight : Bool) : Prop where
 last : tight = true → ∀ q, ord[ord.length - 1]? = some q → ∀ j, late.contains j = true → bef B q j = true
 ord_lt : ∀ k, ord.contains k = true → k < ops.size
 nodup : ord.Nodup
 news_no : ∀ k, news.contains k = true → k < ops.size ∧ ord.contains k = false
 late_no : ∀ k, late.contains k = true → k < ops.size ∧ news.contains k = false ∧ ord.contains k = false
 first : ∀ q, ord[0]? = some q → ∀ j, j < ops.size → ord.contains j = false → late.contains j = false → bef B q j = true
 chain : ∀ s p q, ord[s]? = some p → ord[s + 1]? = some q → bef B q p = true
 look_new : ∀ i o, ops[i]? = some o → ord.contains i = false → ∀ k t, news.contains k = true → dstOf ops k = some t → t ∉ o.looksAt ops
 look_head : ∀ i o, ops[i]? = some o → ord.contains i = false → ∀ j t, dstOf ops j = some t → t ∈ o.looksAt ops → ord.contains j = true → i < j ∧ bef B j i = true
 look_last : ∀ i o, ops[i]? = some o → ord.contains i = true → ∀ j t, dstOf ops j = some t → t ∈ o.looksAt ops → ord.contains j = false → j < i ∧ bef B i j = true
theorem chk_of (h : chk2 ops B late news ord tight = true) : Chk ops B late news ord tight := by
 simp only [chk2, Bool.and_eq_true, decide_eq_true_eq] at h
 obtain ⟨⟨⟨⟨⟨⟨⟨⟨h0, h1⟩, h2⟩, h3⟩, h4⟩, h5⟩, h6⟩, h7⟩, h8⟩ := h
 refine ⟨fun ht q hq j hj => ?_, fun k hk => ?_, h2, fun k hk => ?_, fun k hk => ?_, fun q hq j hj ho hl => ?_, fun s p q hp hq => ?_, fun i o ho hi k t hk hd => ?_, fun i o ho hi j t hd ht hj => ?_, fun i o ho hi j t hd ht hj => ?_⟩
 ·rw [ht, Bool.not_true, Bool.false_or] at h0
  have := List.all_eq_true.1 h0 j (by simpa using hj)
  rw [hq] at this; exact this
 ·have := List.all_eq_true.1 h1 k (by simpa using hk); simpa using this
 ·have := List.all_eq_true.1 h3 k (by simpa using hk)
  simp only [Bool.and_eq_true, decide_eq_true_eq, Bool.not_eq_true'] at this
  exact this
 ·have := List.all_eq_true.1 h4 k (by simpa using hk)
  simp only [Bool.and_eq_true, decide_eq_true_eq, Bool.not_eq_true'] at this
  exact ⟨this.1.1, this.1.2, this.2⟩
 ·have := List.all_eq_true.1 h5 j (List.mem_range.2 hj)
  rw [ho, hl] at this
  cases ord with
  | nil => simp at hq
  | cons x r => simp at hq; subst hq; simpa using this
 ·have hlt := (List.getElem?_eq_some_iff.1 hq).1
  have := List.all_eq_true.1 h6 (s + 1) (List.mem_range.2 hlt)
  simp only [List.getD_eq_getElem?_getD, hq, Nat.add_sub_cancel, hp, Option.getD_some] at this
  simpa using this
 ·have := List.all_eq_true.1 h7 i (List.mem_range.2 (Array.getElem?_eq_some_iff.1 ho).1)
  simp only [ho, hi, Bool.false_or] at this
  have h9 := List.all_eq_true.1 this k (by simpa using hk)
  rw [hd] at h9
  simpa using h9
 ·have := List.all_eq_true.1 h8 i (List.mem_range.2 (Array.getElem?_eq_some_iff.1 ho).1)
  simp only [ho] at this
  have h9 := List.all_eq_true.1 this j (List.mem_range.2 (dst_lt hd))
  simp only [hd, hi, hj] at h9
  simp at h9
  rcases h9 with h9 | h9
  ·exact absurd ht h9
  ·exact h9
 ·have := List.all_eq_true.1 h8 i (List.mem_range.2 (Array.getElem?_eq_some_iff.1 ho).1)
  simp only [ho] at this
  have h9 := List.all_eq_true.1 this j (List.mem_range.2 (dst_lt hd))
  simp only [hd, hi, hj] at h9
  simp at h9
  rcases h9 with h9 | h9
  ·exact absurd ht h9
  ·exact h9
/-! ### What the head's walk gives -/
def FixOK (P : Program) (ops : Array Oper) (W : World) (I : World → Prop) (late : List Nat) (i : Nat) (a : Act) (v : Value) : Prop := ∃ o, ops[i]? = some o ∧
 ((Region.wanted o (yielded ops a.tmps) = true ∧ ∀ w, (if late.contains i then I w else Gr W w) → gq P o a w v (late.contains i)) ∨ (Region.wanted o (yielded ops a.tmps) = false ∧ v = undef))
def NewOK (P : Program) (ops : Array Oper) (W : World) (i : Nat) (a : Act) (N : NPred) : Prop := ∃ o, ops[i]? = some o ∧ Region.wanted o (yielded ops a.tmps) = true ∧ Stable N ∧ ∀ w, Gr W w → nq P o a w N
def StepOK (P : Program) (ops : Array Oper) (W : World) (I : World → Prop) (late news ord : List Nat) (i : Nat) (a a1 : Act) (v : Value) (N : NPred) : Prop :=
 (ord.contains i = true → a1 = a) ∧ (ord.contains i = false → news.contains i = true → a1 = a ∧ NewOK P ops W i a N) ∧
 (ord.contains i = false → news.contains i = false → a1 = a.put (dstOf ops i) v ∧ FixOK P ops W I late i a v)
theorem walk1_ext (hno : ∀ k, news.contains k = true → ord.contains k = false) {Q : Act → List (Option Tmp × NPred) → Prop} : ∀ (l : List Oper) (k : Nat) (a : Act) (L : List (Option Tmp × NPred)), (∀ j, j < l.length → l[j]? = ops[k + j]?) → Walk1 P ops W I late news ord Q l k a L →
  ∃ (A : Nat → Act) (v : Nat → Value) (N : Nat → NPred), A k = a ∧
   (∀ i, k ≤ i → i < k + l.length → StepOK P ops W I late news ord i (A i) (A (i + 1)) (v i) (N i)) ∧
   Q (A (k + l.length)) (L ++ newsL ops news N l.length k)
 | [], k, a, L, _, h => ⟨fun _ => a, fun _ => undef, fun _ _ _ _ _ => True, rfl, fun i h1 h2 => by simp at h2; omega, by simpa [newsL, Walk1] using h⟩
 | o :: r, k, a, L, hl, h => by
  have ho : ops[k]? = some o := by simpa using (hl 0 (by simp)).symm
  have hl' : ∀ j, j < r.length → r[j]? = ops[k + 1 + j]? := fun j hj => by
   have := hl (j + 1) (by simpa using hj)
   simpa [Nat.add_assoc, Nat.add_comm 1 j] using this
  have hd : dstOf ops k = o.dst := by simp [dstOf, ho]
  have hlen : k + (o :: r).length = k + 1 + r.length := by simp; omega
  have join : ∀ (a1 : Act) (L1 : List (Option Tmp × NPred)) (v0 : Value) (N0 : NPred), Walk1 P ops W I late news ord Q r (k + 1) a1 L1 →
    StepOK P ops W I late news ord k a a1 v0 N0 → (L1 = L ++ (if news.contains k then [(dstOf ops k, N0)] else [])) → ∃ (A : Nat → Act) (v : Nat → Value) (N : Nat → NPred), A k = a ∧
   (∀ i, k ≤ i → i < k + (o :: r).length → StepOK P ops W I late news ord i (A i) (A (i + 1)) (v i) (N i)) ∧
   Q (A (k + (o :: r).length)) (L ++ newsL ops news N (o :: r).length k) := by
   intro a1 L1 v0 N0 hw hk hL
   obtain ⟨A, v, N, hA, hstep, hQ⟩ := walk1_ext hno r (k + 1) a1 L1 hl' hw
   refine ⟨fun i => if i = k then a else A i, fun i => if i = k then v0 else v i, fun i => if i = k then N0 else N i, by simp, ?_, ?_⟩
   ·intro i h1 h2
    by_cases hik : i = k
    ·subst hik
     simp only [if_true, show ¬ i + 1 = i from by omega, if_false, hA]
     exact hk
    ·have := hstep i (by omega) (by omega)
     simp only [hik, if_false, show ¬ i + 1 = k from by omega]
     exact this
   ·have e1 : ¬ k + (o :: r).length = k := by simp
    show Q (if k + (o :: r).length = k then a else A (k + (o :: r).length)) _
    rw [if_neg e1, hlen]
    rw [hL] at hQ
    simp only [List.length_cons, newsL, if_true]
    rw [newsL_congr (N' := N) r.length (k + 1) (fun i hi => by simp [show ¬ i = k from by omega])]
    simpa [List.append_assoc] using hQ
  unfold Walk1 at h
  by_cases hor : ord.contains k = true
  ·rw [if_pos hor] at h
   have hnk : news.contains k = false := by
    cases hn : news.contains k
    ·rfl
    ·rw [hno k hn] at hor; cases hor
   exact join a L undef (fun _ _ _ _ => True) h ⟨fun _ => rfl, fun e => (by rw [hor] at e; cases e), fun e => (by rw [hor] at e; cases e)⟩ (by rw [hnk]; simp)
  ·have horf : ord.contains k = false := by simpa using hor
   rw [if_neg hor] at h
   by_cases hn : news.contains k = true
   ·rw [if_pos hn] at h
    obtain ⟨hw, N0, hs, hq, hr⟩ := h
    exact join a _ undef N0 hr ⟨fun e => absurd e hor, fun _ _ => ⟨rfl, o, ho, hw, hs, hq⟩, fun _ e => (by rw [hn] at e; cases e)⟩ (by rw [if_pos hn, hd])
   ·have hnf : news.contains k = false := by simpa using hn
    rw [if_neg hn] at h
    by_cases hw : Region.wanted o (yielded ops a.tmps) = true
    ·rw [if_pos hw] at h
     obtain ⟨v0, hq, hr⟩ := h
     exact join _ L v0 (fun _ _ _ _ => True) hr ⟨fun e => absurd e hor, fun _ e => (by rw [hnf] at e; cases e), fun _ _ => ⟨by rw [hd], o, ho, .inl ⟨hw, hq⟩⟩⟩ (by rw [if_neg hn]; simp)
    ·rw [if_neg hw] at h
     exact join _ L undef (fun _ _ _ _ => True) h ⟨fun e => absurd e hor, fun _ e => (by rw [hnf] at e; cases e), fun _ _ => ⟨by rw [hd], o, ho, .inr ⟨by simpa using hw, rfl⟩⟩⟩ (by rw [if_neg hn]; simp)
theorem gq_wp {o : Oper} {a a' : Act} {w : World} {v : Value} {lt : Bool} {K : Act → World → Prop} {Q : Exit → Act → World → Prop} (he : execOp a.eval o = execOp a'.eval o) (h : gq P o a' w v lt) (hk : ∀ w', Gr w w' → K (a.put o.dst v) w') : o.wp P a w K Q := by
 unfold Oper.wp
 unfold gq at h
 rw [he]
 generalize (execOp a'.eval o).run P w = r at *
 cases r with
 | ok n w' =>
  cases n <;> simp only [Oper.upon] at h ⊢
  case value u => obtain ⟨rfl, rfl⟩ := h; exact hk _ (Gr.refl _)
  case skip => obtain ⟨rfl, rfl⟩ := h; exact hk _ (Gr.refl _)
  case enter f args =>
   obtain ⟨rfl, hc⟩ := h
   exact hc.mono fun e w'' ⟨he, _, hw''⟩ => by subst he; exact hk _ hw''
 | halt x w' => exact h.elim
theorem gq_late {o : Oper} {a a' : Act} {w : World} {v : Value} {K : Act → World → Prop} {Q : Exit → Act → World → Prop} (he : execOp a.eval o = execOp a'.eval o) (h : gq P o a' w v true) (hk : K (a.put o.dst v) w) : o.wp P a w K Q := by
 unfold Oper.wp
 unfold gq at h
 rw [he]
 generalize (execOp a'.eval o).run P w = r at *
 cases r with
 | ok n w' =>
  cases n <;> simp only [Oper.upon] at h ⊢
  case value u => obtain ⟨rfl, rfl⟩ := h; exact hk
  case skip => obtain ⟨rfl, rfl⟩ := h; exact hk
  case enter f args =>
   obtain ⟨rfl, hc⟩ := h
   exact hc.mono fun e w'' ⟨he, hw, _⟩ => by subst he; obtain rfl := hw (by simp); exact hk
 | halt x w' => exact h.elim
/-! ### The invariants -/
structure Inv1 (ops : Array Oper) (W : World) (news ord : List Nat) (a0 : Act) (v : Nat → Value) (N : Nat → NPred) (listed : Array Bool) (a : Act) (w : World) : Prop where
 size : listed.size = ops.size
 closed : Closed ops listed
 later : ∀ i, ord.contains i = true → lst listed i = false
 gr : Gr W w
 dfs : a.defers = a0.defers
 sz : a.tmps.size = a0.tmps.size
 regs : ∃ (nv : Nat → Value) (lo hi : Nat → Nat),
  (∀ t, t < a0.tmps.size → ∀ j, dstOf ops j = some t → lst listed j = true → a.tmps[t]? = some (if news.contains j then nv j else v j)) ∧
  (∀ t, t < a0.tmps.size → (∀ j, dstOf ops j = some t → lst listed j = false) → a.tmps[t]? = a0.tmps[t]?) ∧
  (∀ j, news.contains j = true → lst listed j = true → N j (lo j) (hi j) (nv j) w ∧ W.heap.size ≤ lo j ∧ lo j ≤ hi j ∧ hi j ≤ w.heap.size) ∧
  (∀ i j, i ≠ j → news.contains i = true → news.contains j = true → lst listed i = true → lst listed j = true → hi i ≤ lo j ∨ hi j ≤ lo i)
section
variable {a0 : Act} {v : Nat → Value} {N : Nat → NPred} {listed : Array Bool} {a : Act} {w w' : World}
theorem steps_skip {A : Nat → Act} (hstep : ∀ i, i < ops.size → StepOK P ops W I late news ord i (A i) (A (i + 1)) (v i) (N i)) :
  ∀ i, i < ops.size → ((news ++ ord).contains i = true → A (i + 1) = A i) ∧ ((news ++ ord).contains i = false → A (i + 1) = (A i).put (dstOf ops i) (v i)) := by
 intro i hi
 obtain ⟨h1, h2, h3⟩ := hstep i hi
 refine ⟨fun h => ?_, fun h => ?_⟩
 ·cases ho : ord.contains i
  ·have hn : news.contains i = true := by
    simp only [List.contains_eq_mem, List.mem_append, decide_eq_true_eq, decide_eq_false_iff_not] at h ho ⊢
    exact h.resolve_right ho
   exact (h2 ho hn).1
  ·exact h1 ho
 ·have hn : news.contains i = false ∧ ord.contains i = false := by
   simp only [List.contains_eq_mem, List.mem_append, decide_eq_false_iff_not, not_or] at h ⊢
   exact h
  exact (h3 hn.2 hn.1).1
theorem skip_no {j : Nat} (h1 : news.contains j = false) (h2 : ord.contains j = false) : (news ++ ord).contains j = false := by
 simp only [List.contains_eq_mem, List.mem_append, decide_eq_false_iff_not, not_or] at *
 exact ⟨h1, h2⟩
theorem skip_get {j : Nat} (h : (news ++ ord).contains j = false) : news.contains j = false ∧ ord.contains j = false := by
 simp only [List.contains_eq_mem, List.mem_append, decide_eq_false_iff_not, not_or] at *
 exact h
theorem look1 (hch : chk1 ops B = true) (hc : Chk ops B late news ord tight) {A : Nat → Act} (hA0 : A 0 = a0)
  (hstep : ∀ i, i < ops.size → ((news ++ ord).contains i = true → A (i + 1) = A i) ∧ ((news ++ ord).contains i = false → A (i + 1) = (A i).put (dstOf ops i) (v i)))
  (inv : Inv1 ops W news ord a0 v N listed a w) {i : Nat} {o : Oper} (hi : ord.contains i = false) (ho : ops[i]? = some o) (hr : ∀ e ∈ o.after, Region.binds .any e = true → lst listed e.on = true) (hun : lst listed i = false) :
  ∀ t ∈ o.looksAt ops, a.tmps[t]? = (A i).tmps[t]? := by
 intro t ht
 have hin := (Array.getElem?_eq_some_iff.1 ho).1
 obtain ⟨h1, h2, h3⟩ := acts_reg hch hstep i (Nat.le_of_lt hin)
 rw [hA0] at h1 h2 h3
 rcases Nat.lt_or_ge t a0.tmps.size with hlt | hge
 ·obtain ⟨nv, lo, hi', r1, r2, _, _⟩ := inv.regs
  have hnl : ∀ j, dstOf ops j = some t → news.contains j = false := by
   intro j hj
   cases hnj : news.contains j
   ·rfl
   ·exact absurd ht (hc.look_new i o ho hi j t hnj hj)
  by_cases hex : ∃ j, dstOf ops j = some t
  ·obtain ⟨j, hj⟩ := hex
   rcases ((chk_pair hch ho (dst_lt hj)).2 t hj).2 ht with ⟨hji, hb⟩ | ⟨hij, hb⟩
   ·have hl := listed_of_bef hch inv.closed i o ho hr j hb (dst_lt hj)
    have hoj : ord.contains j = false := by
     cases h : ord.contains j
     ·rfl
     ·have := (hc.look_head i o ho hi j t hj ht h).1; omega
    rw [r1 t hlt j hj hl, (h3 t hlt).1 j hji (skip_no (hnl j hj) hoj) hj, hnl j hj]; rfl
   ·have hl : lst listed j = false := by
     cases hlj : lst listed j
     ·rfl
     ·obtain ⟨oj, hoj⟩ : ∃ oj, ops[j]? = some oj := ⟨ops[j]'(dst_lt hj), Array.getElem?_eq_getElem _⟩
      have := listed_of_bef hch inv.closed j oj hoj (fun e he hbb => inv.closed j oj hoj hlj e he hbb) i hb hin
      rw [hun] at this; cases this
    rw [r2 t hlt (fun j' hj' => by rw [uniq hch hj' hj]; exact hl), (h3 t hlt).2 (fun j' hj' _ hd => by rw [uniq hch hd hj] at hj'; omega)]
  ·rw [r2 t hlt (fun j hj => absurd ⟨j, hj⟩ hex), (h3 t hlt).2 (fun j _ _ hd => hex ⟨j, hd⟩)]
 ·rw [Array.getElem?_eq_none (by rw [inv.sz]; exact hge), Array.getElem?_eq_none (by rw [h2]; exact hge)]
theorem inv1_fix (hch : chk1 ops B = true) (hst : ∀ j, news.contains j = true → Stable (N j)) (inv : Inv1 ops W news ord a0 v N listed a w) {i : Nat} {o : Oper} (hi : ord.contains i = false) (ho : ops[i]? = some o)
  (hr : ∀ e ∈ o.after, Region.binds .any e = true → lst listed e.on = true) (hn : news.contains i = false) (hg : Gr w w') :
  Inv1 ops W news ord a0 v N (listed.setIfInBounds i true) (a.put o.dst (v i)) w' := by
 have hin : i < listed.size := by rw [inv.size]; exact (Array.getElem?_eq_some_iff.1 ho).1
 have hd : dstOf ops i = o.dst := by simp [dstOf, ho]
 obtain ⟨nv, lo, hi', r1, r2, r3, r4⟩ := inv.regs
 have notnew : ∀ j, news.contains j = true → j ≠ i := fun j hj e => by rw [e, hn] at hj; cases hj
 refine ⟨by simp [inv.size], closed_set hin ho inv.closed hr, fun k hk => ?_, inv.gr.trans hg, by rw [put_defers, inv.dfs], by rw [put_size, inv.sz], nv, lo, hi', ?_, ?_, ?_, ?_⟩
 ·rw [lst_set hin, if_neg (fun e => by rw [e, hk] at hi; cases hi)]; exact inv.later k hk
 ·intro t ht j hj hl
  rw [put_get _ _ _ _ (by rw [inv.sz]; exact ht)]
  rw [lst_set hin] at hl
  by_cases hij : i = j
  ·subst hij; rw [if_pos (by rw [← hd]; exact hj), hn]; rfl
  ·rw [if_neg (fun e => hij (uniq hch (by rw [hd]; exact e) hj)), r1 t ht j hj (by rw [if_neg hij] at hl; exact hl)]
 ·intro t ht hall
  rw [put_get _ _ _ _ (by rw [inv.sz]; exact ht), if_neg (fun e => by have := hall i (by rw [hd]; exact e); rw [lst_set hin] at this; simp at this)]
  exact r2 t ht fun j hj => by
   have := hall j hj
   rw [lst_set hin] at this
   split at this
   ·cases this
   ·exact this
 ·intro j hj hl
  rw [lst_set hin, if_neg (Ne.symm (notnew j hj))] at hl
  obtain ⟨q1, q2, q3, q4⟩ := r3 j hj hl
  exact ⟨hst j hj _ _ _ _ _ q1 hg, q2, q3, Nat.le_trans q4 hg.size⟩
 ·intro k j hkj hk hj hlk hlj
  rw [lst_set hin, if_neg (Ne.symm (notnew k hk))] at hlk
  rw [lst_set hin, if_neg (Ne.symm (notnew j hj))] at hlj
  exact r4 k j hkj hk hj hlk hlj
theorem inv1_new (hch : chk1 ops B = true) (hst : ∀ j, news.contains j = true → Stable (N j)) (inv : Inv1 ops W news ord a0 v N listed a w) {i : Nat} {o : Oper} (hi : ord.contains i = false) (ho : ops[i]? = some o)
  (hr : ∀ e ∈ o.after, Region.binds .any e = true → lst listed e.on = true) (hun : lst listed i = false) (hn : news.contains i = true) (hg : Gr w w') {x : Value} (hN : N i w.heap.size w'.heap.size x w') :
  Inv1 ops W news ord a0 v N (listed.setIfInBounds i true) (a.put o.dst x) w' := by
 have hin : i < listed.size := by rw [inv.size]; exact (Array.getElem?_eq_some_iff.1 ho).1
 have hd : dstOf ops i = o.dst := by simp [dstOf, ho]
 obtain ⟨nv, lo, hi', r1, r2, r3, r4⟩ := inv.regs
 refine ⟨by simp [inv.size], closed_set hin ho inv.closed hr, fun k hk => ?_, inv.gr.trans hg, by rw [put_defers, inv.dfs], by rw [put_size, inv.sz],
  fun j => if j = i then x else nv j, fun j => if j = i then w.heap.size else lo j, fun j => if j = i then w'.heap.size else hi' j, ?_, ?_, ?_, ?_⟩
 ·rw [lst_set hin, if_neg (fun e => by rw [e, hk] at hi; cases hi)]; exact inv.later k hk
 ·intro t ht j hj hl
  rw [put_get _ _ _ _ (by rw [inv.sz]; exact ht)]
  rw [lst_set hin] at hl
  by_cases hij : i = j
  ·subst hij; rw [if_pos (by rw [← hd]; exact hj), hn]; simp
  ·rw [if_neg (fun e => hij (uniq hch (by rw [hd]; exact e) hj)), r1 t ht j hj (by rw [if_neg hij] at hl; exact hl)]
   simp [Ne.symm hij]
 ·intro t ht hall
  rw [put_get _ _ _ _ (by rw [inv.sz]; exact ht), if_neg (fun e => by have := hall i (by rw [hd]; exact e); rw [lst_set hin] at this; simp at this)]
  exact r2 t ht fun j hj => by
   have := hall j hj
   rw [lst_set hin] at this
   split at this
   ·cases this
   ·exact this
 ·intro j hj hl
  by_cases hji : j = i
  ·subst hji
   simp only [if_true]
   exact ⟨hN, inv.gr.size, hg.size, Nat.le_refl _⟩
  ·rw [lst_set hin, if_neg (Ne.symm hji)] at hl
   obtain ⟨q1, q2, q3, q4⟩ := r3 j hj hl
   simp only [hji, if_false]
   exact ⟨hst j hj _ _ _ _ _ q1 hg, q2, q3, Nat.le_trans q4 hg.size⟩
 ·intro k j hkj hk hj hlk hlj
  rw [lst_set hin] at hlk hlj
  by_cases hki : k = i
  ·subst hki
   have hjk : ¬ j = k := fun e => hkj e.symm
   rw [if_neg hkj] at hlj
   simp only [if_true, hjk, if_false]
   exact .inr (r3 j hj hlj).2.2.2
  ·rw [if_neg (Ne.symm hki)] at hlk
   by_cases hji : j = i
   ·subst hji
    simp only [if_true, hki, if_false]
    exact .inl (r3 k hk hlk).2.2.2
   ·rw [if_neg (Ne.symm hji)] at hlj
    simp only [hki, hji, if_false]
    exact r4 k j hkj hk hj hlk hlj
/-! ### Behind the head -/
def lasts (ops : Array Oper) (ord : List Nat) : List Oper := ord.filterMap (ops[·]?)
structure Inv2 (P : Program) (ops : Array Oper) (I : World → Prop) (tight : Bool) (Q' : Act → World → Prop) (late news ord : List Nat) (a0 : Act) (v : Nat → Value) (p : Nat) (listed : Array Bool) (a : Act) (w : World) : Prop where
 size : listed.size = ops.size
 closed : Closed ops listed
 iw : (∀ j, late.contains j = true → lst listed j = true) ∨ I w
 done : ∀ s q, ord[s]? = some q → s < p → lst listed q = true
 todo : ∀ s q, ord[s]? = some q → p ≤ s → lst listed q = false
 head : ∀ j, j < ops.size → ord.contains j = false → late.contains j = false → lst listed j = true
 dfs : a.defers = a0.defers
 sz : a.tmps.size = a0.tmps.size
 ideal : ∃ A : Act, Walk2 P ops I tight Q' (lasts ops (ord.drop p)) A w ∧ A.defers = a0.defers ∧ A.tmps.size = a0.tmps.size ∧ ∀ t, t < a0.tmps.size →
  (∀ j, late.contains j = true → lst listed j = false → dstOf ops j = some t → a.tmps[t]? = a0.tmps[t]?) ∧
  ((∀ j, late.contains j = true → lst listed j = false → dstOf ops j ≠ some t) → a.tmps[t]? = A.tmps[t]?) ∧
  (∀ j, ord.contains j = false → news.contains j = false → dstOf ops j = some t → A.tmps[t]? = some (v j)) ∧
  ((∀ j, (ord.contains j = false ∨ ∃ s, s < p ∧ ord[s]? = some j) → dstOf ops j ≠ some t) → A.tmps[t]? = a0.tmps[t]?)
variable {Q' : Act → World → Prop}
theorem inv2_start (hch : chk1 ops B = true) (hc : Chk ops B late news ord tight) {A : Nat → Act} (hA0 : A 0 = a0)
  (hstep : ∀ i, i < ops.size → ((news ++ ord).contains i = true → A (i + 1) = A i) ∧ ((news ++ ord).contains i = false → A (i + 1) = (A i).put (dstOf ops i) (v i)))
  (inv : Inv1 ops W news ord a0 v N listed a w) (hall : ∀ j, j < ops.size → ord.contains j = false → late.contains j = false → lst listed j = true) (hI : I w)
  (H : EndN W w (fun a' => Walk2 P ops I tight Q' (lasts ops ord) a' w) (newsL ops news N ops.size 0) [] (A ops.size)) : Inv2 P ops I tight Q' late news ord a0 v 0 listed a w := by
 have hnl : ∀ j, news.contains j = true → lst listed j = true := fun j hj => by
  obtain ⟨h1, h2⟩ := hc.news_no j hj
  refine hall j h1 h2 ?_
  cases h : late.contains j
  ·rfl
  ·rw [(hc.late_no j h).2.1] at hj; cases hj
 obtain ⟨nv, lo, hi', r1, r2, r3, r4⟩ := inv.regs
 have hk := endN_inst (nv := nv) (lo := lo) (hi := hi') (fun i j hij hi hj => r4 i j hij hi hj (hnl i hi) (hnl j hj)) ops.size 0 [] (A ops.size) (fun j _ _ hj => r3 j hj (hnl j hj)) (fun _ _ _ _ p hp => by cases hp) H
 obtain ⟨g1, g2, g3⟩ := acts_reg hch hstep ops.size (Nat.le_refl _)
 rw [hA0] at g1 g2 g3
 obtain ⟨f1, f2, f3⟩ := putNews_reg hch (news := news) (nv := nv) ops.size 0 (A ops.size)
 refine ⟨inv.size, inv.closed, .inr hI, fun s q _ h2 => by omega, fun s q hq _ => inv.later q (by simpa using List.mem_of_getElem? hq), hall, inv.dfs, inv.sz, putNews ops news nv ops.size 0 (A ops.size), hk, by rw [f1, g1], by rw [f2, g2], fun t ht => ?_⟩
 obtain ⟨f4, f5⟩ := f3 t (by rw [g2]; exact ht)
 obtain ⟨g4, g5⟩ := g3 t ht
 have hfix : ∀ j, ord.contains j = false → news.contains j = false → dstOf ops j = some t → (putNews ops news nv ops.size 0 (A ops.size)).tmps[t]? = some (v j) := fun j hoj hnj hd => by
  rw [f5 (fun j' _ _ hn' hd' => by have := uniq hch hd' hd; rw [this, hnj] at hn'; cases hn'), g4 j (dst_lt hd) (skip_no hnj hoj) hd]
 have hnone : (∀ j, ord.contains j = false → dstOf ops j ≠ some t) → (putNews ops news nv ops.size 0 (A ops.size)).tmps[t]? = a0.tmps[t]? := fun hno => by
  rw [f5 (fun j' _ h2 h3 => hno j' (hc.news_no j' h3).2), g5 fun j hj h3 => hno j (skip_get h3).2]
 refine ⟨fun j hl hun hd => ?_, fun hno => ?_, hfix, fun hno => hnone fun j hj => hno j (.inl hj)⟩
 ·exact r2 t ht fun j' hj' => by rw [uniq hch hj' hd]; exact hun
 ·by_cases hex : ∃ j, ord.contains j = false ∧ dstOf ops j = some t
  ·obtain ⟨j, hj, hd⟩ := hex
   have hl : lst listed j = true := by
    cases h : late.contains j
    ·exact hall j (dst_lt hd) hj h
    ·cases h2 : lst listed j
     ·exact absurd hd (hno j h h2)
     ·rfl
   rw [r1 t ht j hd hl]
   cases hnj : news.contains j
   ·rw [hfix j hj hnj hd]; rfl
   ·rw [f4 j (by omega) (by have := dst_lt hd; omega) hnj hd]; rfl
  ·rw [hnone (fun j hj hd => hex ⟨j, hj, hd⟩)]
   refine r2 t ht fun j hd => ?_
   exact inv.later j (by
    cases h : ord.contains j
    ·exact absurd ⟨j, h, hd⟩ hex
    ·rfl)
theorem inv2_late (hch : chk1 ops B = true) (hc : Chk ops B late news ord tight) {p : Nat} (inv : Inv2 P ops I tight Q' late news ord a0 v p listed a w) {i : Nat} {o : Oper} (hl : late.contains i = true) (ho : ops[i]? = some o)
  (hr : ∀ e ∈ o.after, Region.binds .any e = true → lst listed e.on = true) : Inv2 P ops I tight Q' late news ord a0 v p (listed.setIfInBounds i true) (a.put o.dst (v i)) w := by
 have hin : i < listed.size := by rw [inv.size]; exact (Array.getElem?_eq_some_iff.1 ho).1
 have hd : dstOf ops i = o.dst := by simp [dstOf, ho]
 obtain ⟨_, hln, hlo⟩ := hc.late_no i hl
 obtain ⟨A, h1, h2, h3, h4⟩ := inv.ideal
 have up : ∀ j, lst listed j = true → lst (listed.setIfInBounds i true) j = true := fun j h => by rw [lst_set hin]; split <;> simp [h]
 refine ⟨by simp [inv.size], closed_set hin ho inv.closed hr, inv.iw.imp (fun h j hj => up j (h j hj)) id, fun s q hq hs => up q (inv.done s q hq hs), fun s q hq hs => ?_, fun j hj0 hj1 hj2 => up j (inv.head j hj0 hj1 hj2), by rw [put_defers, inv.dfs], by rw [put_size, inv.sz],
  A, h1, h2, h3, fun t ht => ?_⟩
 ·have hqo : ord.contains q = true := by simpa using List.mem_of_getElem? hq
  rw [lst_set hin, if_neg (fun e => by rw [e, hqo] at hlo; cases hlo)]; exact inv.todo s q hq hs
 ·obtain ⟨c1, c2, c3, c4⟩ := h4 t ht
  rw [put_get _ _ _ _ (by rw [inv.sz]; exact ht)]
  refine ⟨fun j hlj hun hdj => ?_, fun hno => ?_, c3, c4⟩
  ·rw [lst_set hin] at hun
   by_cases hij : i = j
   ·subst hij; simp at hun
   ·rw [if_neg hij] at hun
    rw [if_neg (fun e => hij (uniq hch (by rw [hd]; exact e) hdj))]
    exact c1 j hlj hun hdj
  ·by_cases hdi : o.dst = some t
   ·rw [if_pos hdi, c3 i hlo hln (by rw [hd]; exact hdi)]
   ·rw [if_neg hdi]
    refine c2 fun j hlj hun hdj => ?_
    by_cases hij : i = j
    ·subst hij; exact hdi (by rw [← hd]; exact hdj)
    ·exact hno j hlj (by rw [lst_set hin, if_neg hij]; exact hun) hdj
theorem inv2_next (hch : chk1 ops B = true) (hc : Chk ops B late news ord tight) {p q : Nat} (inv : Inv2 P ops I tight Q' late news ord a0 v p listed a w) {o : Oper} (hq : ord[p]? = some q) (ho : ops[q]? = some o) (hI : (∀ j, late.contains j = true → lst listed j = true) ∨ I w')
  (hr : ∀ e ∈ o.after, Region.binds .any e = true → lst listed e.on = true) {A : Act} {x : Value} (hW : Walk2 P ops I tight Q' (lasts ops (ord.drop (p + 1))) (A.put o.dst x) w') (h2 : A.defers = a0.defers) (h3 : A.tmps.size = a0.tmps.size)
  (h4 : ∀ t, t < a0.tmps.size →
  (∀ j, late.contains j = true → lst listed j = false → dstOf ops j = some t → a.tmps[t]? = a0.tmps[t]?) ∧
  ((∀ j, late.contains j = true → lst listed j = false → dstOf ops j ≠ some t) → a.tmps[t]? = A.tmps[t]?) ∧
  (∀ j, ord.contains j = false → news.contains j = false → dstOf ops j = some t → A.tmps[t]? = some (v j)) ∧
  ((∀ j, (ord.contains j = false ∨ ∃ s, s < p ∧ ord[s]? = some j) → dstOf ops j ≠ some t) → A.tmps[t]? = a0.tmps[t]?)) : Inv2 P ops I tight Q' late news ord a0 v (p + 1) (listed.setIfInBounds q true) (a.put o.dst x) w' := by
 have hpn := (Array.getElem?_eq_some_iff.1 ho).1
 have hin : q < listed.size := by rw [inv.size]; exact hpn
 have hd : dstOf ops q = o.dst := by simp [dstOf, ho]
 have hqo : ord.contains q = true := by simpa using List.mem_of_getElem? hq
 have up : ∀ j, lst listed j = true → lst (listed.setIfInBounds q true) j = true := fun j h => by rw [lst_set hin]; split <;> simp [h]
 have notq : ∀ j, ord.contains j = false → q ≠ j := fun j hj e => by rw [← e, hqo] at hj; cases hj
 refine ⟨by simp [inv.size], closed_set hin ho inv.closed hr, hI.imp (fun h j hj => up j (h j hj)) id, fun s r hr1 hs => ?_, fun s r hr1 hs => ?_, fun j hj0 hj1 hj2 => up j (inv.head j hj0 hj1 hj2), by rw [put_defers, inv.dfs], by rw [put_size, inv.sz],
  A.put o.dst x, hW, by rw [put_defers, h2], by rw [put_size, h3], fun t ht => ?_⟩
 ·by_cases hsp : s = p
  ·subst hsp
   rw [hq] at hr1; cases hr1
   rw [lst_set hin]; simp
  ·exact up r (inv.done s r hr1 (by omega))
 ·have hne : q ≠ r := fun e => by
   subst e
   have hp1 := (List.getElem?_eq_some_iff.1 hq)
   have hs1 := (List.getElem?_eq_some_iff.1 hr1)
   obtain ⟨hp1, e1⟩ := hp1
   obtain ⟨hs1, e2⟩ := hs1
   exact List.pairwise_iff_getElem.1 hc.nodup p s hp1 hs1 (by omega) (e1.trans e2.symm)
  rw [lst_set hin, if_neg hne]; exact inv.todo s r hr1 (by omega)
 ·obtain ⟨c1, c2, c3, c4⟩ := h4 t ht
  rw [put_get _ _ _ _ (by rw [inv.sz]; exact ht), put_get _ _ _ _ (by rw [h3]; exact ht)]
  refine ⟨fun j hlj hun hdj => ?_, fun hno => ?_, fun j hj hnj hdj => ?_, fun hno => ?_⟩
  ·have hne := notq j (hc.late_no j hlj).2.2
   rw [lst_set hin, if_neg hne] at hun
   rw [if_neg (fun e => hne (uniq hch (by rw [hd]; exact e) hdj))]
   exact c1 j hlj hun hdj
  ·split
   ·rfl
   ·exact c2 fun j hlj hun hdj => hno j hlj (by rw [lst_set hin, if_neg (notq j (hc.late_no j hlj).2.2)]; exact hun) hdj
  ·rw [if_neg (fun e => notq j hj (uniq hch (by rw [hd]; exact e) hdj))]
   exact c3 j hj hnj hdj
  ·rw [if_neg (fun e => hno q (.inr ⟨p, by omega, hq⟩) (by rw [hd]; exact e))]
   exact c4 fun j hj => hno j (hj.imp id fun ⟨s, hs, e⟩ => ⟨s, by omega, e⟩)
theorem lasts_cons {p q : Nat} {o : Oper} (hq : ord[p]? = some q) (ho : ops[q]? = some o) : lasts ops (ord.drop p) = o :: lasts ops (ord.drop (p + 1)) := by
 obtain ⟨hp, e⟩ := List.getElem?_eq_some_iff.1 hq
 rw [List.drop_eq_getElem_cons hp, lasts, List.filterMap_cons, e, ho]; rfl
theorem sched_any (hch : chk1 ops B = true) (hc : Chk ops B late news ord tight) (hsel : Region.noSelect ops = true) {Q : Exit → Act → World → Prop} {A : Nat → Act} (hA0 : A 0 = a0)
  (hGI : ∀ w, Gr W w → I w)
  (hstep : ∀ i, i < ops.size → StepOK P ops W I late news ord i (A i) (A (i + 1)) (v i) (N i))
  (hend : ∀ w', Gr W w' → EndN W w' (fun a' => Walk2 P ops I tight (Q .normal) (lasts ops ord) a' w') (newsL ops news N ops.size 0) [] (A ops.size)) :
  ∀ (fuel : Nat) (listed : Array Bool) (a : Act) (w : World), cnt listed ops.size = fuel → (Inv1 ops W news ord a0 v N listed a w ∨ ∃ p, Inv2 P ops I tight (Q .normal) late news ord a0 v p listed a w) → wpAny P .any ops Q fuel listed a w := by
 have hst1 := steps_skip hstep
 have hstable : ∀ j, news.contains j = true → Stable (N j) := fun j hj => by
  obtain ⟨h1, h2⟩ := hc.news_no j hj
  obtain ⟨_, _, _, _, h, _⟩ := (hstep j h1).2.1 h2 hj
  exact h
 have ordmem : ∀ q, ord.contains q = true → ∃ s, ord[s]? = some q := fun q hq => by
  have : q ∈ ord := by simpa using hq
  obtain ⟨s, hs, e⟩ := List.getElem_of_mem this
  exact ⟨s, by rw [List.getElem?_eq_getElem hs, e]⟩
 -- at the end
 have fin : ∀ (listed : Array Bool) (a : Act) (w : World), (∀ i, i < ops.size → lst listed i = true) → (Inv1 ops W news ord a0 v N listed a w ∨ ∃ p, Inv2 P ops I tight (Q .normal) late news ord a0 v p listed a w) → Q .normal a w := by
  intro listed a w hall inv
  have h2 : ∃ p, Inv2 P ops I tight (Q .normal) late news ord a0 v p listed a w := by
   rcases inv with inv | h
   ·exact ⟨0, inv2_start hch hc hA0 hst1 inv (fun j hj _ _ => hall j hj) (hGI w inv.gr) (hend w inv.gr)⟩
   ·exact h
  obtain ⟨p, inv⟩ := h2
  have hp : ord.length ≤ p := by
   rcases Nat.lt_or_ge p ord.length with h | h
   ·have hq : ord[p]? = some ord[p] := List.getElem?_eq_getElem h
    have := inv.todo p _ hq (Nat.le_refl _)
    rw [hall _ (hc.ord_lt _ (by simp))] at this; cases this
   ·exact h
  obtain ⟨A', h1, h2, h3, h4⟩ := inv.ideal
  rw [List.drop_eq_nil_of_le hp] at h1
  have e : a = A' := by
   have ht : a.tmps = A'.tmps := by
    apply Array.ext_getElem?
    intro t
    rcases Nat.lt_or_ge t a0.tmps.size with h | h
    ·exact (h4 t h).2.1 fun j hl hun _ => by rw [hall j (hc.late_no j hl).1] at hun; cases hun
    ·rw [Array.getElem?_eq_none (by rw [inv.sz]; exact h), Array.getElem?_eq_none (by rw [h3]; exact h)]
   have hd : a.defers = A'.defers := by rw [inv.dfs, h2]
   cases a; cases A'; simp_all
  rw [e]; exact h1
 -- one operation of the chain
 have chain : ∀ (fuel : Nat) (listed : Array Bool) (a : Act) (w : World) (p q : Nat) (o : Oper), ord[p]? = some q → (∀ a' w', (∃ q', Inv2 P ops I tight (Q .normal) late news ord a0 v q' (listed.setIfInBounds q true) a' w') → wpAny P .any ops Q fuel (listed.setIfInBounds q true) a' w') →
   Inv2 P ops I tight (Q .normal) late news ord a0 v p listed a w → ops[q]? = some o → (∀ e ∈ o.after, Region.binds .any e = true → lst listed e.on = true) → wpOp P ops Q q (wpAny P .any ops Q fuel (listed.setIfInBounds q true)) a w := by
  intro fuel listed a w p q o hq ih inv ho hr
  have hqo : ord.contains q = true := by simpa using List.mem_of_getElem? hq
  obtain ⟨A', h1, h2, h3, h4⟩ := inv.ideal
  rw [lasts_cons hq ho] at h1
  have look := look_same (ops := ops) (o := o) (a := a) (a' := A') (fun cs b => Region.noSelect_spec hsel q o cs b ho) (fun t ht => by
   rcases Nat.lt_or_ge t a0.tmps.size with h | h
   ·refine (h4 t h).2.1 fun j hl hun hd => ?_
    have hb := (hc.look_last q o ho hqo j t hd ht (hc.late_no j hl).2.2).2
    have := listed_of_bef hch inv.closed q o ho hr j hb (dst_lt hd)
    rw [hun] at this; cases this
   ·rw [Array.getElem?_eq_none (by rw [inv.sz]; exact h), Array.getElem?_eq_none (by rw [h3]; exact h)])
  unfold wpOp
  rw [ho]
  simp only
  rw [look.2]
  unfold Walk2 at h1
  by_cases hw : Region.wanted o (yielded ops A'.tmps) = true
  ·rw [if_pos hw] at h1 ⊢
   refine .inl (tq_wp look.1 h1 fun x w' hK => ih _ _ ⟨p + 1, inv2_next hch hc inv hq ho (hK.1.imp (fun ⟨ht, he⟩ j hj => ?_) id) hr hK.2 h2 h3 h4⟩)
   have hlast : p + 1 = ord.length := by
    have hp := (List.getElem?_eq_some_iff.1 hq).1
    rcases Nat.lt_or_ge (p + 1) ord.length with h | h
    ·have h5 : ord[p + 1]? = some ord[p + 1] := List.getElem?_eq_getElem h
     have h6 := hc.ord_lt ord[p + 1] (by simp)
     rw [lasts_cons h5 (Array.getElem?_eq_getElem h6)] at he
     cases he
    ·omega
   exact listed_of_bef hch inv.closed q o ho hr j (hc.last ht q (by rw [← hlast]; simpa using hq) j hj) (hc.late_no j hj).1
  ·rw [if_neg hw] at h1 ⊢
   exact ih _ _ ⟨p + 1, inv2_next hch hc inv hq ho inv.iw hr h1 h2 h3 h4⟩
 intro fuel
 induction fuel with
 | zero =>
  intro listed a w hcn inv
  have hall := cnt_zero ops.size hcn
  refine ⟨?_, fin listed a w hall inv⟩
  rw [List.eq_nil_iff_forall_not_mem]
  intro i hi
  obtain ⟨h0, o, ho, _⟩ := mem_ready.1 hi
  have hin := (Array.getElem?_eq_some_iff.1 ho).1
  have hs : listed.size = ops.size := by rcases inv with inv | ⟨_, inv⟩ <;> exact inv.size
  have h1 := hall i hin
  unfold lst at h1
  have hsz : i < listed.size := by omega
  simp only [Array.getD_eq_getD_getElem?, Array.getElem?_eq_getElem hsz, Option.getD_some] at h0 h1
  rw [h1] at h0; cases h0
 | succ fuel ih =>
  intro listed a w hcn inv
  have hs : listed.size = ops.size := by rcases inv with inv | ⟨_, inv⟩ <;> exact inv.size
  refine ⟨fun h => fin listed a w (all_of_ready hch hs h) inv, fun i hi => ?_⟩
  obtain ⟨h0, o, ho, hr⟩ := mem_ready.1 hi
  have hin := (Array.getElem?_eq_some_iff.1 ho).1
  have hun : lst listed i = false := by
   have hsz : i < listed.size := by omega
   unfold lst
   simp only [Array.getD_eq_getD_getElem?, Array.getElem?_eq_getElem hsz, Option.getD_some] at h0 ⊢
   exact h0
  have hcnt : cnt (listed.setIfInBounds i true) ops.size = fuel := by
   have := cnt_set (listed := listed) (by omega) hun ops.size
   rw [if_pos hin] at this; omega
  have ih2 : ∀ a' w', (∃ q, Inv2 P ops I tight (Q .normal) late news ord a0 v q (listed.setIfInBounds i true) a' w') → wpAny P .any ops Q fuel (listed.setIfInBounds i true) a' w' := fun a' w' h => ih _ _ _ hcnt (.inr h)
  have hd : dstOf ops i = o.dst := by simp [dstOf, ho]
  cases hoi : ord.contains i
  ·rcases inv with inv | ⟨p, inv⟩
   ·have hl := look1 hch hc hA0 hst1 inv hoi ho hr hun
    have look := look_same (ops := ops) (o := o) (a := a) (a' := A i) (fun cs b => Region.noSelect_spec hsel i o cs b ho) hl
    unfold wpOp
    rw [ho]
    simp only
    rw [look.2]
    cases hn : news.contains i
    ·obtain ⟨_, o', ho', hfix⟩ := (hstep i hin).2.2 hoi hn
     rw [ho] at ho'; cases ho'
     rcases hfix with ⟨hw, hq⟩ | ⟨hw, hv⟩
     ·rw [if_pos hw]
      exact .inl (gq_wp look.1 (hq w (by split; exact hGI w inv.gr; exact inv.gr)) fun w' hg => ih _ _ _ hcnt (.inl (inv1_fix hch hstable inv hoi ho hr hn hg)))
     ·rw [if_neg (by rw [hw]; simp), ← hv]
      exact ih _ _ _ hcnt (.inl (inv1_fix hch hstable inv hoi ho hr hn (Gr.refl w)))
    ·obtain ⟨_, o', ho', hw, _, hq⟩ := (hstep i hin).2.1 hoi hn
     rw [ho] at ho'; cases ho'
     rw [if_pos hw]
     exact .inl (nq_wp look.1 (hq w inv.gr) fun x w' hg hN => ih _ _ _ hcnt (.inl (inv1_new hch hstable inv hoi ho hr hun hn hg hN)))
   ·have hl : late.contains i = true := by
     cases h : late.contains i
     ·rw [inv.head i hin hoi h] at hun; cases hun
     ·rfl
    have hn := (hc.late_no i hl).2.1
    obtain ⟨A', h1, h2, h3, h4⟩ := inv.ideal
    obtain ⟨g1, g2, g3⟩ := acts_reg hch hst1 i (Nat.le_of_lt hin)
    rw [hA0] at g1 g2 g3
    have hl1 : ∀ t ∈ o.looksAt ops, a.tmps[t]? = (A i).tmps[t]? := by
     intro t ht
     rcases Nat.lt_or_ge t a0.tmps.size with h | h
     ·obtain ⟨c1, c2, c3, c4⟩ := h4 t h
      by_cases hex : ∃ j, dstOf ops j = some t
      ·obtain ⟨j, hj⟩ := hex
       rcases ((chk_pair hch ho (dst_lt hj)).2 t hj).2 ht with ⟨hji, hb⟩ | ⟨hij, hb⟩
       ·have hlj := listed_of_bef hch inv.closed i o ho hr j hb (dst_lt hj)
        have hnj : news.contains j = false := by
         cases hnj : news.contains j
         ·rfl
         ·exact absurd ht (hc.look_new i o ho hoi j t hnj hj)
        have hoj : ord.contains j = false := by
         cases h5 : ord.contains j
         ·rfl
         ·have := (hc.look_head i o ho hoi j t hj ht h5).1; omega
        rw [c2 (fun j' _ hun' hd' => by rw [uniq hch hd' hj, hlj] at hun'; cases hun'), c3 j hoj hnj hj, (g3 t h).1 j hji (skip_no hnj hoj) hj]
       ·have hlj : lst listed j = false := by
         cases hlj : lst listed j
         ·rfl
         ·obtain ⟨oj, hoj⟩ : ∃ oj, ops[j]? = some oj := ⟨ops[j]'(dst_lt hj), Array.getElem?_eq_getElem _⟩
          have := listed_of_bef hch inv.closed j oj hoj (fun e he hbb => inv.closed j oj hoj hlj e he hbb) i hb hin
          rw [hun] at this; cases this
        have hA : (A i).tmps[t]? = a0.tmps[t]? := (g3 t h).2 fun j' hj' _ hd' => by rw [uniq hch hd' hj] at hj'; omega
        rw [hA]
        cases hoj : ord.contains j
        ·have hlate2 : late.contains j = true := by
          cases h6 : late.contains j
          ·rw [inv.head j (dst_lt hj) hoj h6] at hlj; cases hlj
          ·rfl
         exact c1 j hlate2 hlj hj
        ·rw [c2 (fun j' hl' _ hd' => by have := uniq hch hd' hj; rw [this] at hl'; rw [(hc.late_no j hl').2.2] at hoj; cases hoj),
          c4 fun j' hj' hd' => by
           have e := uniq hch hd' hj
           subst e
           rcases hj' with hj' | ⟨s, hs, hsj⟩
           ·rw [hj'] at hoj; cases hoj
           ·rw [inv.done s j' hsj hs] at hlj; cases hlj]
      ·rw [c2 (fun j' _ _ hd' => hex ⟨j', hd'⟩), c4 (fun j' _ hd' => hex ⟨j', hd'⟩), (g3 t h).2 fun j' _ _ hd' => hex ⟨j', hd'⟩]
     ·rw [Array.getElem?_eq_none (by rw [inv.sz]; exact h), Array.getElem?_eq_none (by rw [g2]; exact h)]
    have look := look_same (ops := ops) (o := o) (a := a) (a' := A i) (fun cs b => Region.noSelect_spec hsel i o cs b ho) hl1
    obtain ⟨_, o', ho', hfix⟩ := (hstep i hin).2.2 hoi hn
    rw [ho] at ho'; cases ho'
    unfold wpOp
    rw [ho]
    simp only
    rw [look.2]
    rcases hfix with ⟨hw, hq⟩ | ⟨hw, hv⟩
    ·rw [if_pos hw]
     have hq' := hq w (by
      rw [if_pos hl]
      rcases inv.iw with h | h
      ·rw [h i hl] at hun; cases hun
      ·exact h)
     rw [hl] at hq'
     exact .inl (gq_late look.1 hq' (ih2 _ _ ⟨p, inv2_late hch hc inv hl ho hr⟩))
    ·rw [if_neg (by rw [hw]; simp), ← hv]
     exact ih2 _ _ ⟨p, inv2_late hch hc inv hl ho hr⟩
  ·obtain ⟨s, hs⟩ := ordmem i hoi
   rcases inv with inv | ⟨p, inv⟩
   ·have hs0 : s = 0 := by
     cases s with
     | zero => rfl
     | succ s =>
      obtain ⟨h5, _⟩ := List.getElem?_eq_some_iff.1 hs
      have hp : ord[s]? = some ord[s] := List.getElem?_eq_getElem (by omega)
      have hpo : ord.contains ord[s] = true := by simp
      have := listed_of_bef hch inv.closed i o ho hr _ (hc.chain s _ i hp hs) (hc.ord_lt _ hpo)
      rw [inv.later _ hpo] at this; cases this
    subst hs0
    have hall : ∀ j, j < ops.size → ord.contains j = false → late.contains j = false → lst listed j = true := fun j hj hoj hlj =>
     listed_of_bef hch inv.closed i o ho hr j (hc.first i hs j hj hoj hlj) hj
    exact chain fuel listed a w 0 i o hs ih2 (inv2_start hch hc hA0 hst1 inv hall (hGI w inv.gr) (hend w inv.gr)) ho hr
   ·have hsp : s = p := by
     rcases Nat.lt_or_ge s p with h | h
     ·rw [inv.done s i hs h] at hun; cases hun
     ·by_cases hne : s = p
      ·exact hne
      ·obtain ⟨s', rfl⟩ : ∃ s', s = s' + 1 := ⟨s - 1, by omega⟩
       obtain ⟨h5, _⟩ := List.getElem?_eq_some_iff.1 hs
       have hp : ord[s']? = some ord[s'] := List.getElem?_eq_getElem (by omega)
       have hpo : ord.contains ord[s'] = true := by simp
       have := listed_of_bef hch inv.closed i o ho hr _ (hc.chain s' _ i hp hs) (hc.ord_lt _ hpo)
       rw [inv.todo s' _ hp (by omega)] at this; cases this
    subst hsp
    exact chain fuel listed a w s i o hs ih2 inv ho hr
end
theorem walk1_nil {Q : Act → List (Option Tmp × NPred) → Prop} {k : Nat} {a : Act} {L : List (Option Tmp × NPred)} (h : Q a L) : Walk1 P ops W I late news ord Q [] k a L := h
theorem walk1_ord {Q : Act → List (Option Tmp × NPred) → Prop} {o : Oper} {r : List Oper} {k : Nat} {a : Act} {L : List (Option Tmp × NPred)} (ho : ord.contains k = true) (h : Walk1 P ops W I late news ord Q r (k + 1) a L) : Walk1 P ops W I late news ord Q (o :: r) k a L := by
 unfold Walk1; rw [if_pos ho]; exact h
theorem walk1_no {Q : Act → List (Option Tmp × NPred) → Prop} {o : Oper} {r : List Oper} {k : Nat} {a : Act} {L : List (Option Tmp × NPred)} (ho : ord.contains k = false) (hn : news.contains k = false) (hw : Region.wanted o (yielded ops a.tmps) = false)
  (h : ∀ K : Act → Prop, (∀ a', Walk1 P ops W I late news ord Q r (k + 1) a' L → K a') → K (a.put o.dst undef)) : Walk1 P ops W I late news ord Q (o :: r) k a L := by
 have h := h _ (fun _ h => h)
 unfold Walk1; rw [if_neg (by rw [ho]; simp), if_neg (by rw [hn]; simp), if_neg (by rw [hw]; simp)]; exact h
theorem walk1_gr {Q : Act → List (Option Tmp × NPred) → Prop} {o : Oper} {r : List Oper} {k : Nat} {a : Act} {L : List (Option Tmp × NPred)} (ho : ord.contains k = false) (hn : news.contains k = false) (hl : late.contains k = false) (hw : Region.wanted o (yielded ops a.tmps) = true)
  (h : ∀ K : Act → Prop, (∀ a', Walk1 P ops W I late news ord Q r (k + 1) a' L → K a') → ∃ v, (∀ w, Gr W w → gq P o a w v false) ∧ K (a.put o.dst v)) : Walk1 P ops W I late news ord Q (o :: r) k a L := by
 obtain ⟨v, hq, h⟩ := h _ (fun _ h => h)
 unfold Walk1; rw [if_neg (by rw [ho]; simp), if_neg (by rw [hn]; simp), if_pos hw]; exact ⟨v, fun w hw' => by rw [hl] at hw' ⊢; exact hq w hw', h⟩
theorem walk1_late {Q : Act → List (Option Tmp × NPred) → Prop} {o : Oper} {r : List Oper} {k : Nat} {a : Act} {L : List (Option Tmp × NPred)} (ho : ord.contains k = false) (hn : news.contains k = false) (hl : late.contains k = true) (hw : Region.wanted o (yielded ops a.tmps) = true)
  (h : ∀ K : Act → Prop, (∀ a', Walk1 P ops W I late news ord Q r (k + 1) a' L → K a') → ∃ v, (∀ w, I w → gq P o a w v true) ∧ K (a.put o.dst v)) : Walk1 P ops W I late news ord Q (o :: r) k a L := by
 obtain ⟨v, hq, h⟩ := h _ (fun _ h => h)
 unfold Walk1; rw [if_neg (by rw [ho]; simp), if_neg (by rw [hn]; simp), if_pos hw]; exact ⟨v, fun w hw' => by rw [hl] at hw' ⊢; exact hq w hw', h⟩
theorem walk1_new {Q : Act → List (Option Tmp × NPred) → Prop} {o : Oper} {r : List Oper} {k : Nat} {a : Act} {L : List (Option Tmp × NPred)} (N : NPred) (ho : ord.contains k = false) (hn : news.contains k = true) (hw : Region.wanted o (yielded ops a.tmps) = true)
  (hs : Stable N) (hq : ∀ w, Gr W w → nq P o a w N) (h : Walk1 P ops W I late news ord Q r (k + 1) a (L ++ [(o.dst, N)])) : Walk1 P ops W I late news ord Q (o :: r) k a L := by
 unfold Walk1; rw [if_neg (by rw [ho]; simp), if_pos hn]; exact ⟨hw, N, hs, hq, h⟩
theorem walk1_box {Q : Act → List (Option Tmp × NPred) → Prop} {o : Oper} {r : List Oper} {k : Nat} {a : Act} {L : List (Option Tmp × NPred)} (ho : ord.contains k = false) (hn : news.contains k = true) (hw : Region.wanted o (yielded ops a.tmps) = true)
  (h : ∃ ob, (∀ w, Gr W w → nq P o a w (Sched.NBlock ob)) ∧ Walk1 P ops W I late news ord Q r (k + 1) a (L ++ [(o.dst, Sched.NBlock ob)])) : Walk1 P ops W I late news ord Q (o :: r) k a L := by
 obtain ⟨ob, hq, h⟩ := h
 exact walk1_new (Sched.NBlock ob) ho hn hw (Sched.NBlock.stable ob) hq h
theorem walk2_nil {Q : Act → World → Prop} {a : Act} {w : World} (h : Q a w) : Walk2 P ops I tight Q [] a w := h
theorem walk2_no {Q : Act → World → Prop} {o : Oper} {r : List Oper} {a : Act} {w : World} (hw : Region.wanted o (yielded ops a.tmps) = false) (h : ∀ K : Act → Prop, (∀ a', Walk2 P ops I tight Q r a' w → K a') → K (a.put o.dst undef)) : Walk2 P ops I tight Q (o :: r) a w := by
 have h := h _ (fun _ h => h)
 unfold Walk2; rw [if_neg (by rw [hw]; simp)]; exact h
theorem walk2_go {Q : Act → World → Prop} {o : Oper} {r : List Oper} {a : Act} {w : World} (hw : Region.wanted o (yielded ops a.tmps) = true) (h : ∀ K : Act → World → Prop, (∀ a w, ((tight = true ∧ r = []) ∨ I w) → Walk2 P ops I tight Q r a w → K a w) → tq P o a w K) : Walk2 P ops I tight Q (o :: r) a w := by
 unfold Walk2; rw [if_pos hw]; exact h _ (fun _ _ h1 h2 => ⟨h1, h2⟩)
attribute [go_sem] gq
theorem wp_region_sched {id : Nat} {Q : Exit → Act → World → Prop} {a : Act} {W : World} {l : List Oper} (I : World → Prop) (late news ord : List Nat) (tight : Bool) (hGI : ∀ w, Gr W w → I w) (hm : P.follows .mixedOrders = true)
  (hchk : (Region.noSelect l.toArray && chk1 l.toArray (Region.before l.toArray) && chk2 l.toArray (Region.before l.toArray) late news ord tight) = true)
  (h : Walk1 P l.toArray W I late news ord (fun a' L => ∀ w', Gr W w' → EndN W w' (fun a'' => Walk2 P l.toArray I tight (Q .normal) (lasts l.toArray ord) a'' w') L [] a') l 0 a []) :
  (Code.region id l.toArray true).wp P Q a W := by
 simp only [Bool.and_eq_true] at hchk
 obtain ⟨⟨hsel, hch⟩, hc2⟩ := hchk
 have hc := chk_of hc2
 obtain ⟨A, v, N, hA0, hstep, hend⟩ := walk1_ext (fun k hk => (hc.news_no k hk).2) l 0 a [] (fun j hj => by simp) h
 refine wp_region_any hm (sched_any hch hc hsel (A := A) (v := v) (N := N) hA0 hGI (fun i hi => hstep i (Nat.zero_le _) (by simpa using hi)) (fun w' hw' => ?_) _ _ _ _ ?_ (.inl ?_))
 ·simpa using hend w' hw'
 ·have : ∀ k, k ≤ l.toArray.size → cnt (Array.replicate l.toArray.size false) k = k := by
   intro k
   induction k with
   | zero => intro _; rfl
   | succ k ih =>
    intro hk
    have e : lst (Array.replicate l.toArray.size false) k = false := by
     unfold lst; simp only [Array.getD_eq_getD_getElem?]; rw [Array.getElem?_eq_getElem (by simp only [Array.size_replicate]; omega)]; simp
    simp only [cnt, e, ih (by omega)]; simp
  exact this _ (Nat.le_refl _)
 ·have e : ∀ k, lst (Array.replicate l.toArray.size false) k = false := by
   intro k
   unfold lst
   simp only [Array.getD_eq_getD_getElem?, Array.getElem?_replicate]
   split <;> rfl
  have no : ∀ {k : Nat} {p : Prop}, lst (Array.replicate l.toArray.size false) k = true → p := fun {k p} h => by rw [e k] at h; cases h
  exact ⟨by simp, fun i o ho hl => no hl, fun i _ => e i, ⟨rfl, rfl, rfl, Nat.le_refl _, fun _ _ _ => rfl⟩, rfl, rfl,
   fun _ => undef, fun _ => 0, fun _ => 0, fun t ht j hj hl => no hl, fun t ht _ => rfl, fun j hj hl => no hl, fun i j _ _ _ hl _ => no hl⟩
end Sched2
end Go.Proofs.YtlnkofpcidngoaaDoor
/- Layer 05 (packet): Head of the program. -/
namespace Go.Proofs.YtlnkofpcidngoaaDoor
open Go.ChangeShapes Go.WideShapes Go.ChangeAt Go.RowKit
def HeadI (w0 : World) (g : Nat) (h : Hdr) (xs : List Int) (wn : World) : Prop :=
 HBlk w0.heap.size h wn ∧ OwnI w0.heap.size 5 .u8 wn (some ⟨g, 0, none⟩) 40 40 xs ∧ Gr w0 wn ∧ w0.heap.size < g
theorem HeadI.turn {w0 wn w' : World} {g : Nat} {h : Hdr} {xs ys : List Int} (hI : HeadI w0 g h xs wn) (ho : OwnI w0.heap.size 5 .u8 w' (some ⟨g, 0, none⟩) 40 40 ys) (hg : wn.grownBy w' (some g)) : HeadI w0 g h ys w' := by
 obtain ⟨h1, _, h3, h4⟩ := hI
 refine ⟨?_, ho, grownBy_trans h3 hg (.inr (.inr ⟨g, rfl, by omega⟩)), h4⟩
 unfold HBlk at h1 ⊢
 rw [hg.block _ (heap_lt h1) (by simp; omega)]
 exact h1
theorem HeadI.gr {w0 wn w' : World} {g : Nat} {h : Hdr} {xs : List Int} (hI : HeadI w0 g h xs wn) (hg : Gr wn w') : HeadI w0 g h xs w' := by
 obtain ⟨h1, h2, h3, h4⟩ := hI
 exact ⟨h1.kept hg, h2.stay hg, h3.trans hg, h4⟩
theorem HeadI.set {w0 wn : World} {g : Nat} {h : Hdr} {xs : List Int} (hI : HeadI w0 g h xs wn) (i : Nat) (u : Int) (hu : 0 ≤ u ∧ u ≤ 255) : HeadI w0 g h (xs.set i u) (wn.setCell ⟨g, i, none⟩ (.int .u8 u)) :=
 hI.turn (hI.2.1.set i u (WalkArith.wf_u8 hu)) (grown_setAt wn g i _)
end Go.Proofs.YtlnkofpcidngoaaDoor
/- Calls and literal slices that make memory inside a region that draws its order. -/
namespace Go.Proofs.YtlnkofpcidngoaaDoor
open Go.ChangeShapes Go.WideShapes Go.ChangeAt Go.RowKit
def NRd (n : Nat) (xs : List Int) : Sched.NPred := fun _ _ v w => ∃ (a : Option Addr) (c : Nat), v = .slice a n c ∧ Rd .i64 w a n xs
theorem NRd.stable (n : Nat) (xs : List Int) : Sched.Stable (NRd n xs) := by
 rintro lo hi v w w' ⟨a, c, h1, h2⟩ hg
 exact ⟨a, c, h1, h2.kept hg⟩
def NRow1 (f : Nat → Value) (o : Obj) : Sched.NPred := fun lo hi v w => v = f lo ∧ lo < hi ∧ w.heap[lo]? = some o
theorem NRow1.stable (f : Nat → Value) (o : Obj) : Sched.Stable (NRow1 f o) := by
 rintro lo hi v w w' ⟨h1, h2, h3⟩ hg
 exact ⟨h1, h2, by rw [hg.block lo (heap_lt h3) (by simp)]; exact h3⟩
def NOne (k : IntKind) (e : TypeId) (y : Int) : Sched.NPred := NRow1 (fun lo => .slice (some ⟨lo, 0, none⟩) 1 1) (.cells #[.int k y] e)
theorem NOne.rd {k : IntKind} {e : TypeId} {y : Int} {lo hi : Nat} {v : Value} {w : World} (h : NOne k e y lo hi v w) (hy : (Lit.int k y).wf = true) : v = .slice (some ⟨lo, 0, none⟩) 1 1 ∧ Rd k w (some ⟨lo, 0, none⟩) 1 [y] := by
 obtain ⟨h1, h2, h3⟩ := h
 refine ⟨h1, rfl, by intro z hz; simp at hz; subst hz; exact hy, by simp [maxLen], .inr ⟨lo, 0, rfl, heap_lt h3, fun i hi => ?_⟩⟩
 obtain rfl : i = 0 := by omega
 rw [cell_of_block h3]; rfl
def Apart (u v : Value) : Prop := ∀ g, u.ownBlock = some g → v.ownBlock ≠ some g
theorem Apart.symm {u v : Value} (h : Apart u v) : Apart v u := fun g h1 h2 => h g h2 h1
theorem Apart.nil (v : Value) (c : Nat) : Apart (.slice none 0 c) v := by intro g h; simp [Value.ownBlock] at h
theorem Apart.grow {w : World} {u v v' : Value} (h : Apart u v) (hf : Follows w v v') (hu : ∀ g, u.ownBlock = some g → g < w.heap.size) : Apart u v' := by
 intro g h1 h2
 rcases hf with e | ⟨g', e, hg⟩
 ·rw [e] at h2; exact h g h1 h2
 ·rw [e] at h2
  have := hu g h1
  injection h2 with h2
  omega
theorem Sched.walk2_app {P : Program} {ops : Array Oper} {Q : Act → World → Prop} {o : Oper} {r : List Oper} {a : Act} {w : World} (hw : Region.wanted o (yielded ops a.tmps) = true) (s x : Operand) (t : TypeId)
  (ho : o.op = .call { callee := .builtin .append, args := #[s, x], argTypes := #[t, t] }) {vs vx v' : Value} {w' : World} (hs : a.eval s = vs) (hx : a.eval x = vx)
  (hrun : (Builtin.append_ #[t, t] o.type #[vs, vx]).run P w = .ok v' w') (h : Sched.Walk2 P ops Q r (a.put o.dst v') w') : Sched.Walk2 P ops Q (o :: r) a w := by
 refine Sched.walk2_go hw fun K hK => ?_
 unfold Sched.tq execOp
 simp only [ho, resolve, invoke, builtin, Sem.run_bind, Sem.run_pure, Result.andThen_ok, List.map_toArray, List.map_cons, List.map_nil, hs, hx, hrun]
 exact hK _ _ h
end Go.Proofs.YtlnkofpcidngoaaDoor
/- Layer 05 (packet): Head of the reference. -/
namespace Go.Proofs.YtlnkofpcidngoaaDoor
open Go.ChangeShapes Go.WideShapes Go.ChangeAt Go.RowKit
theorem Sched2.walk2_app {P : Program} {ops : Array Oper} {I : World → Prop} {tight : Bool} {Q : Act → World → Prop} {o : Oper} {r : List Oper} {a : Act} {w : World} (hw : Region.wanted o (yielded ops a.tmps) = true) (s x : Operand) (t : TypeId)
  (ho : o.op = .call { callee := .builtin .append, args := #[s, x], argTypes := #[t, t] }) {vs vx v' : Value} {w' : World} (hs : a.eval s = vs) (hx : a.eval x = vx)
  (hrun : (Builtin.append_ #[t, t] o.type #[vs, vx]).run P w = .ok v' w') (hI : (tight = true ∧ r = []) ∨ I w') (h : Sched2.Walk2 P ops I tight Q r (a.put o.dst v') w') : Sched2.Walk2 P ops I tight Q (o :: r) a w := by
 refine Sched2.walk2_go hw fun K hK => ?_
 unfold Sched.tq execOp
 simp only [ho, resolve, invoke, builtin, Sem.run_bind, Sem.run_pure, Result.andThen_ok, List.map_toArray, List.map_cons, List.map_nil, hs, hx, hrun]
 exact hK _ _ hI h
theorem OwnI.weak {B B' : Nat} {e : TypeId} {k : IntKind} {w : World} {a : Option Addr} {n cap : Nat} {xs : List Int} (h : OwnI B e k w a n cap xs) (hB : B' ≤ B) : OwnI B' e k w a n cap xs := by
 refine ⟨⟨h.row.1, ?_⟩, h.wf⟩
 rcases h.row.2 with ⟨hv, h0⟩ | ⟨g, cap', cur, hv, hb, hr⟩
 ·exact .inl ⟨hv, h0⟩
 ·exact .inr ⟨g, cap', cur, hv, by omega, hr⟩
def RowI (w0 : World) (h : Hdr) (a : Option Addr) (n cap : Nat) (xs : List Int) (wn : World) : Prop :=
 HBlk w0.heap.size h wn ∧ OwnI (w0.heap.size + 1) 5 .u8 wn a n cap xs ∧ Gr w0 wn
theorem RowI.turn {w0 wn w' : World} {h : Hdr} {a a' : Option Addr} {n n' cap cap' : Nat} {xs ys : List Int} (hI : RowI w0 h a n cap xs wn) (ho : OwnI (w0.heap.size + 1) 5 .u8 w' a' n' cap' ys) (hg : wn.grownBy w' (Value.slice a n cap).ownBlock) : RowI w0 h a' n' cap' ys w' := by
 obtain ⟨h1, h2, h3⟩ := hI
 refine ⟨?_, ho, grown_own h3 h2 (by omega) hg⟩
 unfold HBlk at h1 ⊢
 rw [hg.block _ (heap_lt h1) ?_]
 ·exact h1
 ·intro e
  have := (h2.below _ e.symm).1
  omega
theorem RowI.gr {w0 wn w' : World} {h : Hdr} {a : Option Addr} {n cap : Nat} {xs : List Int} (hI : RowI w0 h a n cap xs wn) (hg : Gr wn w') : RowI w0 h a n cap xs w' :=
 ⟨hI.1.kept hg, hI.2.1.stay hg, hI.2.2.trans hg⟩
theorem RowI.le {w0 wn : World} {h : Hdr} {a : Option Addr} {n cap : Nat} {xs : List Int} (hI : RowI w0 h a n cap xs wn) : w0.heap.size + 1 ≤ wn.heap.size := heap_lt hI.1
theorem RowI.put {w0 wn : World} {h : Hdr} {a : Option Addr} {n cap : Nat} {xs : List Int} (hI : RowI w0 h a n cap xs wn) (K : Int) (k N : Nat) (x : Int) (hK : K = k) (hN : N = n + k) (hn : n ≤ 2000) (hk : k ≤ 7) :
  Calls Tryd.prog 51 #[.slice a n cap, .int .i64 K, .int .i64 x] wn fun e w' => ∃ a' cap', e = .returned (.slice a' N cap') ∧ RowI w0 h a' N cap' (xs ++ putR x k) w' := by
 refine (put_any _ a n cap xs K k x wn hK hI.2.1 (by omega) hk hI.le).mono ?_
 rintro e w' ⟨a', cap', n', e1, e2, ho, hg, _⟩
 subst hN
 subst e1
 exact ⟨a', cap', e2, hI.turn ho hg⟩
theorem own_lit (B : Nat) (w : World) (xs : List Int) (n : Nat) (hB : B ≤ w.heap.size) (hn : xs.length = n) (hm : n ≤ 100) (hb : bytesOk xs) : OwnI B 5 .u8 (w.alloc (.cells (xs.map (Value.int .u8)).toArray 5)) (some ⟨w.heap.size, 0, none⟩) n n xs := by
 refine ⟨?_, fun y hy => WalkArith.wf_u8 (hb y hy)⟩
 subst hn
 have h := World.ownsRow_lit (base := B) (e := 5) (size := 1) w (xs.map (Value.int .u8)).toArray xs.length hB (by simp only [maxLen]; omega) (by simp)
 exact h
theorem RowI.app {w0 wn : World} {h : Hdr} {a : Option Addr} {n cap : Nat} {xs : List Int} (hI : RowI w0 h a n cap xs wn) (b : Option Addr) (m c : Nat) (ys : List Int) (N : Nat) (hN : N = n + m) (hr : Rd .u8 wn b m ys) (hn : n ≤ 2000) (hm : m ≤ 2000) :
  ∃ a' cap' w', (Builtin.append_ #[39, 39] 39 #[.slice a n cap, .slice b m c]).run Tryd.prog wn = .ok (.slice a' N cap') w' ∧ RowI w0 h a' N cap' (xs ++ ys) w' := by
 subst hN
 obtain ⟨a', cap', w', h1, h2, h3, _⟩ := app_u8 _ wn a n cap xs hI.2.1 b m c ys hr (by omega) hI.le
 exact ⟨a', cap', w', h1, hI.turn h2 h3⟩
def rl1 (h : Hdr) : List Int := [69, h.tos, 0, 0] ++ putR h.id 2
def rl2 (h : Hdr) : List Int := rl1 h ++ [64 * h.fixed, 0, h.ttl, 17, 0, 0]
def rl3 (h : Hdr) : List Int := rl2 h ++ putR h.frm 4 ++ putR h.to 4 ++ putR h.fport 2 ++ putR h.tport 2 ++ [0, 0] ++ putR h.check 2
def rl4 (h : Hdr) : List Int := rl3 h ++ [128, 128 * h.marker + h.type] ++ putR h.seq 2 ++ putR h.time 4 ++ putR h.source 4
theorem rl3_head {h : Hdr} (hk : h.kind = 1) : rl3 h = headL h := by
 simp only [rl3, rl2, rl1, headL, if_neg (show ¬ h.kind = 2 by omega), List.append_assoc, List.append_nil]
theorem rl4_head {h : Hdr} (hk : h.kind = 2) : rl4 h = headL h := by
 simp only [rl4, rl3, rl2, rl1, headL, if_pos hk, List.append_assoc]
set_option maxRecDepth 100000 in
set_option maxHeartbeats 4000000 in
theorem rhead_yes (h : Hdr) (w : World) (hv : validH h = true) : Calls Tryd.prog 82 #[HVal h] w fun e w' => ∃ a n cap, e = .returned (.slice a n cap) ∧ n = (headL h).length ∧ OwnI w.heap.size 5 .u8 w' a n cap (headL h) ∧ Gr w w' := by
 have HV := zqd hv
 obtain ⟨hk, ⟨t1, t2⟩, ⟨l1, l2⟩, _, _, _, _, ⟨x1, x2⟩, _, _, hk1, hk2⟩ := valid_all hv
 have HK1 := zqd hk1
 have HK2 := zqd hk2
 have HK := zqd hk
 clear hv hk1 hk2 hk
 go_enter Tryd.func82, Tryd.ntmps82
 go_upto_region 1 with (fail)
 obtain ⟨w1, hw1⟩ : ∃ y, y = w.alloc (.cells (HCells h).toArray 49) := ⟨_, rfl⟩
 have hb1 : HBlk w.heap.size h w1 := by rw [hw1]; exact heap_alloc_new _ _
 have hg1 : Gr w w1 := by rw [hw1]; exact Gr.alloc _ _
 have hz1 : w.heap.size < w1.heap.size := heap_lt hb1
 simp only [HCells] at hw1
 rw [← hw1]
 have hb1' := hb1
 unfold HBlk at hb1'
 have HB1 := zqd hb1
 have HB1' := zqd hb1'
 have HG1 := zqd hg1
 clear hw1 hb1 hb1' hg1
 go_wp2_with (first | (refine wpList_load_row rfl 49 _ rfl w.heap.size rfl 49 _ _ _ HB1'.out Tryd.underlying49 rfl (by kernel_rfl) ?_))
 refine (rvalid_is HV.out w1).mono ?_
 rintro e w2 ⟨rfl, hg2⟩
 have hs2 : w.heap.size + 1 ≤ w2.heap.size := by have := hg2.size; omega
 have hb2 := HB1.out.kept hg2
 have c1 := hb2.at 1 rfl
 have H3 : HBlk w.heap.size h w2 ∧ Gr w w2 := ⟨hb2, HG1.out.trans hg2⟩
 have H2 := zqd H3
 clear hg2 HB1 HB1' HG1 H3 hb2 hz1
 go_upto_region 4 with (fail)
 obtain ⟨w3, hw3⟩ : ∃ y, y = w2.alloc (.cells ([69, h.tos, 0, 0].map (Value.int .u8)).toArray 5) := ⟨_, rfl⟩
 have hbs : bytesOk [69, h.tos, 0, 0] := by
  intro y hy
  simp only [List.mem_cons, List.not_mem_nil, or_false] at hy
  rcases hy with rfl | rfl | rfl | rfl <;> omega
 have H3 := zqd (show RowI w h (some ⟨w2.heap.size, 0, none⟩) 4 4 [69, h.tos, 0, 0] w3 by
  have hal : Gr w2 w3 := by rw [hw3]; exact Gr.alloc _ _
  exact ⟨H2.out.1.kept hal, by rw [hw3]; exact own_lit _ w2 [69, h.tos, 0, 0] 4 hs2 rfl (by omega) hbs, H2.out.2.trans hal⟩)
 simp only [List.map_cons, List.map_nil] at hw3
 first | rw [← hw3] | (go_show; fail)
 clear hw3 hbs c1 hs2 H2
 have c2 := H3.out.1.at 2 rfl
 go_wp2_with fail
 refine (H3.out.put 2 2 6 _ rfl rfl (by omega) (by omega)).mono ?_
 rintro e w4 ⟨a4, cap4, rfl, hr4⟩
 have H4 := zqd (show RowI w h a4 6 cap4 (rl1 h) w4 from hr4)
 clear hr4 c2 H3
 have c3 := H4.out.1.at 3 rfl
 have c4 := H4.out.1.at 4 rfl
 have hrd := rd_new (k := .u8) (w := w4) [64 * h.fixed, 0, h.ttl, 17, 0, 0] 5 (0, 0) 6 rfl (by simp [maxLen]) (by
  intro z hz
  simp only [List.mem_cons, List.not_mem_nil, or_false] at hz
  rcases hz with rfl | rfl | rfl | rfl | rfl | rfl <;> exact WalkArith.wf_u8 (by omega))
 obtain ⟨a5, cap5, w5, hrun, hr5⟩ := (H4.out.gr (Gr.alloc w4 (.cells ([64 * h.fixed, 0, h.ttl, 17, 0, 0].map (Value.int .u8)).toArray 5))).app _ 6 6 _ 12 rfl hrd (by omega) (by omega)
 simp only [List.map_cons, List.map_nil] at hrun
 have HR := zqd hrun
 have H5 := zqd (show RowI w h a5 12 cap5 (rl2 h) w5 from hr5)
 clear hrun hrd hr5
 go_upto_region 6 with (at_builtin; refine wpList_app rfl _ _ _ rfl rfl rfl HR.out ?_)
 clear HR c3 c4 H4
 have hI : ∀ u, Gr w5 u → u.cell? ⟨w.heap.size, 6, none⟩ = some (.int .i64 h.to) := fun u hu => ((H5).out.gr hu).1.at 6 rfl
 have hI1 : ∀ u, Gr w5 u → u.cell? ⟨w.heap.size, 5, none⟩ = some (.int .i64 h.frm) := fun u hu => ((H5).out.gr hu).1.at 5 rfl
 go_upto_region 6 with (fail)
 refine Sched2.wp_region_sched (fun u => u.cell? ⟨w.heap.size, 6, none⟩ = some (.int .i64 h.to)) [4, 5] [] [3, 6, 7] true hI (by kernel_rfl) (by kernel_rfl) ?_
 repeat (first | (refine Sched2.walk1_ord rfl ?_) | ((first | (refine Sched2.walk1_no rfl rfl rfl (fun K hK => ?_)) | (refine Sched2.walk1_gr rfl rfl rfl rfl (fun K hK => ?_); apply Exists.intro; refine ⟨fun w1 hw1 => ?_, ?_⟩; (focus (go_simp; (try go_ints); (try (simp only [IntWalk.iteOmega]; go_simp)); first | done | (with_reducible rfl) | (with_reducible exact ⟨rfl, rfl⟩)))) | (refine Sched2.walk1_late rfl rfl rfl rfl (fun K hK => ?_); apply Exists.intro; refine ⟨fun w1 hw1 => ?_, ?_⟩; (focus (go_simp; (try go_ints); (try (simp only [IntWalk.iteOmega]; go_simp)); first | done | (with_reducible rfl) | (with_reducible exact ⟨rfl, rfl⟩))))); simp only [Act.put, zqa, zqb, zqc]; refine hK _ ?_; clear hK K))
 refine Sched2.walk1_nil ?_
 intro wq hwq
 have HQ := zqd ((H5).out.gr hwq)
 clear hwq hI hI1
 dsimp only [Sched.EndN, List.nil_append, List.cons_append, Act.put]
 (try simp only [zqa, zqb, zqc])
 simp only [Sched2.lasts, List.filterMap_cons, List.filterMap_nil, List.getElem?_toArray, List.getElem?_cons_succ, List.getElem?_cons_zero]
 repeat (first | (refine Sched2.walk2_no rfl (fun K hK => ?_); simp only [Act.put, zqa, zqb, zqc]; refine hK _ ?_; clear hK K) | (refine Sched2.walk2_go rfl (fun K hK => ?_); go_simp; (try go_ints); (try (simp only [IntWalk.iteOmega]; go_simp)); first | (refine hK _ _ (by first | exact .inl ⟨rfl, rfl⟩ | exact .inr ((by assumption))) ?_; clear hK K) | (go_at_call 51; ((with_reducible refine (HQ.out.put 4 4 16 _ rfl rfl (by omega) (by omega)).mono ?_)); rintro e wm ⟨am, cm, rfl, hrm⟩; have HM := zqd hrm; have him := hrm.1.at 6 rfl; clear hrm; refine ⟨_, rfl, ?_⟩; refine hK _ _ (.inr him) ?_; clear hK K) | (go_at_call 51; ((with_reducible refine (HM.out.put 4 4 20 _ rfl rfl (by omega) (by omega)).mono ?_)); rintro e w6 ⟨a6, cap6, rfl, hrm2⟩; have H6 := zqd hrm2; have him2 := hrm2.1.at 6 rfl; clear hrm2 him; refine ⟨_, rfl, ?_⟩; refine hK _ _ (.inr him2) ?_; clear hK K him2)))
 refine Sched2.walk2_nil ?_
 clear H5 HQ HM
 have hI : ∀ u, Gr w6 u → u.cell? ⟨w.heap.size, 8, none⟩ = some (.int .i64 h.tport) := fun u hu => ((H6).out.gr hu).1.at 8 rfl
 have hI1 : ∀ u, Gr w6 u → u.cell? ⟨w.heap.size, 7, none⟩ = some (.int .i64 h.fport) := fun u hu => ((H6).out.gr hu).1.at 7 rfl
 go_upto_region 7 with (fail)
 refine Sched2.wp_region_sched (fun u => u.cell? ⟨w.heap.size, 8, none⟩ = some (.int .i64 h.tport)) [4, 5] [] [3, 6, 7] true hI (by kernel_rfl) (by kernel_rfl) ?_
 repeat (first | (refine Sched2.walk1_ord rfl ?_) | ((first | (refine Sched2.walk1_no rfl rfl rfl (fun K hK => ?_)) | (refine Sched2.walk1_gr rfl rfl rfl rfl (fun K hK => ?_); apply Exists.intro; refine ⟨fun w1 hw1 => ?_, ?_⟩; (focus (go_simp; (try go_ints); (try (simp only [IntWalk.iteOmega]; go_simp)); first | done | (with_reducible rfl) | (with_reducible exact ⟨rfl, rfl⟩)))) | (refine Sched2.walk1_late rfl rfl rfl rfl (fun K hK => ?_); apply Exists.intro; refine ⟨fun w1 hw1 => ?_, ?_⟩; (focus (go_simp; (try go_ints); (try (simp only [IntWalk.iteOmega]; go_simp)); first | done | (with_reducible rfl) | (with_reducible exact ⟨rfl, rfl⟩))))); simp only [Act.put, zqa, zqb, zqc]; refine hK _ ?_; clear hK K))
 refine Sched2.walk1_nil ?_
 intro wq hwq
 have HQ := zqd ((H6).out.gr hwq)
 clear hwq hI hI1
 dsimp only [Sched.EndN, List.nil_append, List.cons_append, Act.put]
 (try simp only [zqa, zqb, zqc])
 simp only [Sched2.lasts, List.filterMap_cons, List.filterMap_nil, List.getElem?_toArray, List.getElem?_cons_succ, List.getElem?_cons_zero]
 repeat (first | (refine Sched2.walk2_no rfl (fun K hK => ?_); simp only [Act.put, zqa, zqb, zqc]; refine hK _ ?_; clear hK K) | (refine Sched2.walk2_go rfl (fun K hK => ?_); go_simp; (try go_ints); (try (simp only [IntWalk.iteOmega]; go_simp)); first | (refine hK _ _ (by first | exact .inl ⟨rfl, rfl⟩ | exact .inr ((by assumption))) ?_; clear hK K) | (go_at_call 51; ((with_reducible refine (HQ.out.put 2 2 22 _ rfl rfl (by omega) (by omega)).mono ?_)); rintro e wm ⟨am, cm, rfl, hrm⟩; have HM := zqd hrm; have him := hrm.1.at 8 rfl; clear hrm; refine ⟨_, rfl, ?_⟩; refine hK _ _ (.inr him) ?_; clear hK K) | (go_at_call 51; ((with_reducible refine (HM.out.put 2 2 24 _ rfl rfl (by omega) (by omega)).mono ?_)); rintro e w7 ⟨a7, cap7, rfl, hrm2⟩; have H7 := zqd hrm2; have him2 := hrm2.1.at 8 rfl; clear hrm2 him; refine ⟨_, rfl, ?_⟩; refine hK _ _ (.inr him2) ?_; clear hK K him2)))
 refine Sched2.walk2_nil ?_
 clear H6 HQ HM
 have hI : ∀ u, Gr w7 u → u.cell? ⟨w.heap.size, 9, none⟩ = some (.int .i64 h.check) := fun u hu => (H7.out.gr hu).1.at 9 rfl
 go_upto_region 8 with (fail)
 refine Sched2.wp_region_sched (fun u => u.cell? ⟨w.heap.size, 9, none⟩ = some (.int .i64 h.check)) [3, 4] [1] [2, 5, 6] true hI (by kernel_rfl) (by kernel_rfl) ?_
 repeat (first | (refine Sched2.walk1_ord rfl ?_) | ((first | (refine Sched2.walk1_no rfl rfl rfl (fun K hK => ?_)) | (refine Sched2.walk1_gr rfl rfl rfl rfl (fun K hK => ?_); apply Exists.intro; refine ⟨fun w1 hw1 => ?_, ?_⟩; (focus (go_simp; (try go_ints); (try (simp only [IntWalk.iteOmega]; go_simp)); first | done | (with_reducible rfl) | (with_reducible exact ⟨rfl, rfl⟩)))) | (refine Sched2.walk1_late rfl rfl rfl rfl (fun K hK => ?_); apply Exists.intro; refine ⟨fun w1 hw1 => ?_, ?_⟩; (focus (go_simp; (try go_ints); (try (simp only [IntWalk.iteOmega]; go_simp)); first | done | (with_reducible rfl) | (with_reducible exact ⟨rfl, rfl⟩))))); simp only [Act.put, zqa, zqb, zqc]; refine hK _ ?_; clear hK K) | (refine Sched2.walk1_box rfl rfl rfl ?_; apply Exists.intro; refine ⟨fun w1 hw1 => ?_, ?_⟩; (focus (go_simp; exact ⟨Gr.alloc _ _, rfl, by simp, heap_alloc_new _ _⟩))))
 refine Sched2.walk1_new (NRow1 (fun lo => .slice (some ⟨lo, 0, none⟩) 2 2) (.cells #[.int .u8 0, .int .u8 0] 5)) rfl rfl rfl (NRow1.stable _ _) (fun u hu => ?_) ?_
 ·go_simp
  exact ⟨Gr.alloc _ _, rfl, by simp, heap_alloc_new _ _⟩
 repeat (first | (refine Sched2.walk1_ord rfl ?_) | ((first | (refine Sched2.walk1_no rfl rfl rfl (fun K hK => ?_)) | (refine Sched2.walk1_gr rfl rfl rfl rfl (fun K hK => ?_); apply Exists.intro; refine ⟨fun w1 hw1 => ?_, ?_⟩; (focus (go_simp; (try go_ints); (try (simp only [IntWalk.iteOmega]; go_simp)); first | done | (with_reducible rfl) | (with_reducible exact ⟨rfl, rfl⟩)))) | (refine Sched2.walk1_late rfl rfl rfl rfl (fun K hK => ?_); apply Exists.intro; refine ⟨fun w1 hw1 => ?_, ?_⟩; (focus (go_simp; (try go_ints); (try (simp only [IntWalk.iteOmega]; go_simp)); first | done | (with_reducible rfl) | (with_reducible exact ⟨rfl, rfl⟩))))); simp only [Act.put, zqa, zqb, zqc]; refine hK _ ?_; clear hK K) | (refine Sched2.walk1_box rfl rfl rfl ?_; apply Exists.intro; refine ⟨fun w1 hw1 => ?_, ?_⟩; (focus (go_simp; exact ⟨Gr.alloc _ _, rfl, by simp, heap_alloc_new _ _⟩))))
 refine Sched2.walk1_nil ?_
 intro wq hwq
 dsimp only [Sched.EndN, List.nil_append, List.cons_append, Act.put]
 rintro lo hi v ⟨rfl, hlt, hblk⟩ hlo - - -
 have hrd : Rd .u8 wq (some ⟨lo, 0, none⟩) 2 [0, 0] := ⟨rfl, by intro z hz; simp at hz; subst hz; exact WalkArith.wf_u8 (by omega), by simp [maxLen], .inr ⟨lo, 0, rfl, heap_lt hblk, fun i hi => by
  rw [cell_of_block hblk]
  obtain rfl | rfl : i = 0 ∨ i = 1 := by omega
  ·rfl
  ·rfl⟩⟩
 obtain ⟨a8, cap8, w8, hrun, hr8⟩ := (H7.out.gr hwq).app _ 2 2 _ 26 rfl hrd (by omega) (by omega)
 have H8 := zqd hr8
 have hi8 : w8.cell? ⟨w.heap.size, 9, none⟩ = some (.int .i64 h.check) := hr8.1.at 9 rfl
 clear hr8 hrd hblk hlt hlo hwq hI H7
 (try simp only [zqa, zqb, zqc])
 simp only [Sched2.lasts, List.filterMap_cons, List.filterMap_nil, List.getElem?_toArray, List.getElem?_cons_succ, List.getElem?_cons_zero]
 refine Sched2.walk2_app rfl _ _ _ rfl rfl rfl hrun ?_ ?_
 ·exact .inr hi8
 clear hrun
 dsimp only [Act.put]
 (try simp only [zqa, zqb, zqc])
 repeat (first | (refine Sched2.walk2_no rfl (fun K hK => ?_); simp only [Act.put, zqa, zqb, zqc]; refine hK _ ?_; clear hK K) | (refine Sched2.walk2_go rfl (fun K hK => ?_); go_simp; (try go_ints); (try (simp only [IntWalk.iteOmega]; go_simp)); first | (refine hK _ _ (by first | exact .inl ⟨rfl, rfl⟩ | exact .inr ((by assumption))) ?_; clear hK K) | (go_at_call 51; ((with_reducible refine (H8.out.put 2 2 28 _ rfl rfl (by omega) (by omega)).mono ?_)); rintro e w9 ⟨a9, cap9, rfl, hrm⟩; have H9 := zqd (show RowI w h a9 28 cap9 (rl3 h) w9 from hrm); have hi9 : w9.cell? ⟨w.heap.size, 9, none⟩ = some (.int .i64 h.check) := hrm.1.at 9 rfl; clear hrm hi8; refine ⟨_, rfl, ?_⟩; refine hK _ _ (.inr hi9) ?_; clear hK K hi9)))
 refine Sched2.walk2_nil ?_
 clear H8
 have c0 := H9.out.1.at 0 rfl
 rcases HK.out with hk | hk
 ·have hkb : (h.kind == 2) = false := by rw [hk]; rfl
  have HKK := zqd hk
  clear hk
  go_wp2_with fail
  go_ret
  have e := rl3_head HKK.out
  refine ⟨a9, 28, cap9, rfl, by rw [headL_len, if_neg (by have := HKK.out; omega)], ?_, H9.out.2.2⟩
  rw [← e]
  exact H9.out.2.1.weak (by omega)
 ·have hkb : (h.kind == 2) = true := by rw [hk]; rfl
  obtain ⟨⟨m1, m2⟩, ⟨y1, y2⟩, _⟩ := HK2.out hk
  have HKK := zqd hk
  clear hk
  have c10 := H9.out.1.at 10 rfl
  have c11 := H9.out.1.at 11 rfl
  have hrd := rd_new (k := .u8) (w := w9) [128, 128 * h.marker + h.type] 5 (0, 0) 2 rfl (by simp [maxLen]) (by
   intro z hz
   simp only [List.mem_cons, List.not_mem_nil, or_false] at hz
   rcases hz with rfl | rfl <;> exact WalkArith.wf_u8 (by omega))
  obtain ⟨a10, cap10, w10, hrun, hr10⟩ := (H9.out.gr (Gr.alloc w9 (.cells ([128, 128 * h.marker + h.type].map (Value.int .u8)).toArray 5))).app _ 2 2 _ 30 rfl hrd (by omega) (by omega)
  simp only [List.map_cons, List.map_nil] at hrun
  have HR := zqd hrun
  have H10 := zqd hr10
  clear hrun hrd hr10
  go_upto_region 11 with (at_builtin; refine wpList_app rfl _ _ _ rfl rfl rfl HR.out ?_)
  clear HR c0 c10 c11 H9
  have hI : ∀ u, Gr w10 u → u.cell? ⟨w.heap.size, 13, none⟩ = some (.int .i64 h.time) ∧ u.cell? ⟨w.heap.size, 14, none⟩ = some (.int .i64 h.source) := fun u hu => ⟨(H10.out.gr hu).1.at 13 rfl, (H10.out.gr hu).1.at 14 rfl⟩
  have hI1 : ∀ u, Gr w10 u → u.cell? ⟨w.heap.size, 12, none⟩ = some (.int .i64 h.seq) := fun u hu => (H10.out.gr hu).1.at 12 rfl
  go_upto_region 11 with (fail)
  refine Sched2.wp_region_sched (fun u => u.cell? ⟨w.heap.size, 13, none⟩ = some (.int .i64 h.time) ∧ u.cell? ⟨w.heap.size, 14, none⟩ = some (.int .i64 h.source)) [4, 5, 7, 8] [] [3, 6, 9, 10] true hI (by kernel_rfl) (by kernel_rfl) ?_
  repeat (first | (refine Sched2.walk1_ord rfl ?_) | ((first | (refine Sched2.walk1_no rfl rfl rfl (fun K hK => ?_)) | (refine Sched2.walk1_gr rfl rfl rfl rfl (fun K hK => ?_); apply Exists.intro; refine ⟨fun w1 hw1 => ?_, ?_⟩; (focus (go_simp; (try go_ints); (try (simp only [IntWalk.iteOmega]; go_simp)); first | done | (with_reducible rfl) | (with_reducible exact ⟨rfl, rfl⟩)))) | (refine Sched2.walk1_late rfl rfl rfl rfl (fun K hK => ?_); apply Exists.intro; refine ⟨fun w1 hw1 => ?_, ?_⟩; (focus (go_simp; (try go_ints); (try (simp only [IntWalk.iteOmega]; go_simp)); first | done | (with_reducible rfl) | (with_reducible exact ⟨rfl, rfl⟩))))); simp only [Act.put, zqa, zqb, zqc]; refine hK _ ?_; clear hK K))
  refine Sched2.walk1_nil ?_
  intro wq hwq
  have HQ := zqd (H10.out.gr hwq)
  clear hwq hI hI1
  dsimp only [Sched.EndN, List.nil_append, List.cons_append, Act.put]
  (try simp only [zqa, zqb, zqc])
  simp only [Sched2.lasts, List.filterMap_cons, List.filterMap_nil, List.getElem?_toArray, List.getElem?_cons_succ, List.getElem?_cons_zero]
  repeat (first | (refine Sched2.walk2_no rfl (fun K hK => ?_); simp only [Act.put, zqa, zqb, zqc]; refine hK _ ?_; clear hK K) | (refine Sched2.walk2_go rfl (fun K hK => ?_); go_simp; (try go_ints); (try (simp only [IntWalk.iteOmega]; go_simp)); first | (refine hK _ _ (by first | exact .inl ⟨rfl, rfl⟩ | exact .inr ((by assumption))) ?_; clear hK K) | (go_at_call 51; ((with_reducible refine (HQ.out.put 2 2 32 _ rfl rfl (by omega) (by omega)).mono ?_)); rintro e wm ⟨am, cm, rfl, hrm⟩; have HM := zqd hrm; have him : _ ∧ _ := ⟨hrm.1.at 13 rfl, hrm.1.at 14 rfl⟩; clear hrm; refine ⟨_, rfl, ?_⟩; refine hK _ _ (.inr him) ?_; clear hK K) | (go_at_call 51; ((with_reducible refine (HM.out.put 4 4 36 _ rfl rfl (by omega) (by omega)).mono ?_)); rintro e wn ⟨an, cn, rfl, hrn⟩; have HN := zqd hrn; have hin : _ ∧ _ := ⟨hrn.1.at 13 rfl, hrn.1.at 14 rfl⟩; clear hrn him; refine ⟨_, rfl, ?_⟩; refine hK _ _ (.inr hin) ?_; clear hK K) | (go_at_call 51; ((with_reducible refine (HN.out.put 4 4 40 _ rfl rfl (by omega) (by omega)).mono ?_)); rintro e wz ⟨az, cz, rfl, hrz⟩; have HZ := zqd (show RowI w h az 40 cz (rl4 h) wz from hrz); have hiz : _ ∧ _ := ⟨hrz.1.at 13 rfl, hrz.1.at 14 rfl⟩; clear hrz hin; refine ⟨_, rfl, ?_⟩; refine hK _ _ (.inr hiz) ?_; clear hK K hiz)))
  refine Sched2.walk2_nil ?_
  go_wp2_with fail
  go_ret
  have e := rl4_head HKK.out
  refine ⟨az, 40, cz, rfl, by rw [headL_len, if_pos HKK.out], ?_, HZ.out.2.2⟩
  rw [← e]
  exact HZ.out.2.1.weak (by omega)
end Go.Proofs.YtlnkofpcidngoaaDoor
