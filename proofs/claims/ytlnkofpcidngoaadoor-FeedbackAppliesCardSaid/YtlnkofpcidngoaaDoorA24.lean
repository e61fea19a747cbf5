/- Regions that draw their order, once more: the last operations are any set, walked in each order that their edges allow (a tree); beside them may stand operations whose value no last operation turns (an invariant of worlds says why). -/
import Derived.Test.YtlnkofpcidngoaaDoorA0
import Derived.Test.YtlnkofpcidngoaaDoorA11
namespace Go.Proofs.YtlnkofpcidngoaaDoor
open Go.ChangeShapes Go.WideShapes Go.ChangeAt Go.RowKit
namespace SchedT
open Sched2 (inv1_fix inv1_new gq Walk1 FixOK NewOK StepOK walk1_ext gq_wp gq_late Inv1 steps_skip skip_no skip_get)
open Sched (NPred Stable lst Closed dstOf bef chk1 chk_pair chk_edge listed_of_bef newsL newsL_congr put_size put_defers put_get look_same nq_wp tq_wp nq tq uniq dst_lt lst_set closed_set acts_reg EndN putNews endN_inst putNews_reg cnt cnt_set cnt_zero all_of_ready)
variable (P : Program) (ops : Array Oper) (W : World) (I : World → Prop)
def AllQ (f : Nat → Prop) : List Nat → Prop
 | [] => True
 | i :: r => f i ∧ AllQ f r
theorem allQ_mem {f : Nat → Prop} : ∀ {l : List Nat}, AllQ f l → ∀ i ∈ l, f i
 | i :: r, h, j, hj => by
  rcases List.mem_cons.1 hj with rfl | hj
  ·exact h.1
  ·exact allQ_mem h.2 j hj
def nexts (B : Array Nat) (rem : List Nat) : List Nat := rem.filter fun i => rem.all fun j => !bef B i j
def WalkT (B : Array Nat) (tight : Bool) (Q : Act → World → Prop) : Nat → List Nat → Act → World → Prop
 | 0, _, a, w => Q a w
 | n + 1, rem, a, w => AllQ (fun i => match ops[i]? with
  | none => True
  | some o => if Region.wanted o (yielded ops a.tmps) then tq P o a w (fun a' w' => ((tight = true ∧ n = 0) ∨ I w') ∧ WalkT B tight Q n (rem.erase i) a' w') else WalkT B tight Q n (rem.erase i) (a.put o.dst undef) w) (nexts B rem)
def chk2 (ops : Array Oper) (B : Array Nat) (late news ord : List Nat) (tight : Bool) : Bool :=
 (!tight || late.all fun j => ord.all fun q => bef B q j || ord.any fun q' => decide (q' ≠ q) && bef B q' q) &&
 (ord.all fun k => decide (k < ops.size)) && decide ord.Nodup &&
 (news.all fun k => decide (k < ops.size) && !ord.contains k) && (late.all fun k => decide (k < ops.size) && !news.contains k && !ord.contains k) &&
 ((List.range ops.size).all fun j => ord.contains j || late.contains j || ord.all fun q => bef B q j) &&
 ((List.range ops.size).all fun i => match ops[i]? with
  | none => false
  | some o => ord.contains i || (news.all fun k => match dstOf ops k with | some t => !(o.looksAt ops).contains t | none => true)) &&
 ((List.range ops.size).all fun i => match ops[i]? with
  | none => false
  | some o => (List.range ops.size).all fun j => match dstOf ops j with
   | none => true
   | some t => !(o.looksAt ops).contains t || (if ord.contains i then ord.contains j || (decide (j < i) && bef B i j) else !ord.contains j || (decide (i < j) && bef B j i)))
variable {P ops W I}
variable {B : Array Nat} {late news ord : List Nat} {tight : Bool}
/-! ### What the check gives -/
structure Chk (ops : Array Oper) (B : Array Nat) (late news ord : List Nat) (tight : Bool) : Prop where
 last : tight = true → ∀ q, ord.contains q = true → ∀ j, late.contains j = true → bef B q j = true ∨ ∃ q', ord.contains q' = true ∧ q' ≠ q ∧ bef B q' q = true
 ord_lt : ∀ k, ord.contains k = true → k < ops.size
 nodup : ord.Nodup
 news_no : ∀ k, news.contains k = true → k < ops.size ∧ ord.contains k = false
 late_no : ∀ k, late.contains k = true → k < ops.size ∧ news.contains k = false ∧ ord.contains k = false
 first : ∀ q, ord.contains q = true → ∀ j, j < ops.size → ord.contains j = false → late.contains j = false → bef B q j = true
 look_new : ∀ i o, ops[i]? = some o → ord.contains i = false → ∀ k t, news.contains k = true → dstOf ops k = some t → t ∉ o.looksAt ops
 look_head : ∀ i o, ops[i]? = some o → ord.contains i = false → ∀ j t, dstOf ops j = some t → t ∈ o.looksAt ops → ord.contains j = true → i < j ∧ bef B j i = true
 look_last : ∀ i o, ops[i]? = some o → ord.contains i = true → ∀ j t, dstOf ops j = some t → t ∈ o.looksAt ops → ord.contains j = false → j < i ∧ bef B i j = true
theorem chk_of (h : chk2 ops B late news ord tight = true) : Chk ops B late news ord tight := by
 simp only [chk2, Bool.and_eq_true, decide_eq_true_eq] at h
 obtain ⟨⟨⟨⟨⟨⟨⟨h0, h1⟩, h2⟩, h3⟩, h4⟩, h5⟩, h7⟩, h8⟩ := h
 refine ⟨fun ht q hq j hj => ?_, fun k hk => ?_, h2, fun k hk => ?_, fun k hk => ?_, fun q hq j hj ho hl => ?_, fun i o ho hi k t hk hd => ?_, fun i o ho hi j t hd ht hj => ?_, fun i o ho hi j t hd ht hj => ?_⟩
 ·rw [ht, Bool.not_true, Bool.false_or] at h0
  have := List.all_eq_true.1 (List.all_eq_true.1 h0 j (by simpa using hj)) q (by simpa using hq)
  rcases Bool.or_eq_true_iff.1 this with h | h
  ·exact .inl h
  ·obtain ⟨q', h1', h2'⟩ := List.any_eq_true.1 h
   rw [Bool.and_eq_true, decide_eq_true_eq] at h2'
   exact .inr ⟨q', by simpa using h1', h2'.1, h2'.2⟩
 ·have := List.all_eq_true.1 h1 k (by simpa using hk); simpa using this
 ·have := List.all_eq_true.1 h3 k (by simpa using hk)
  simp only [Bool.and_eq_true, decide_eq_true_eq, Bool.not_eq_true'] at this
  exact this
 ·have := List.all_eq_true.1 h4 k (by simpa using hk)
  simp only [Bool.and_eq_true, decide_eq_true_eq, Bool.not_eq_true'] at this
  exact ⟨this.1.1, this.1.2, this.2⟩
 ·have := List.all_eq_true.1 h5 j (List.mem_range.2 hj)
  rw [ho, hl, Bool.false_or, Bool.false_or] at this
  exact List.all_eq_true.1 this q (by simpa using hq)
 ·have := List.all_eq_true.1 h7 i (List.mem_range.2 (Array.getElem?_eq_some_iff.1 ho).1)
  simp only [ho, hi, Bool.false_or] at this
  have h9 := List.all_eq_true.1 this k (by simpa using hk)
  rw [hd] at h9
  simpa using h9
 ·have := List.all_eq_true.1 h8 i (List.mem_range.2 (Array.getElem?_eq_some_iff.1 ho).1)
  simp only [ho] at this
  have h9 := List.all_eq_true.1 this j (List.mem_range.2 (dst_lt hd))
  simp only [hd, hi, hj] at h9
  simp at h9
  rcases h9 with h9 | h9
  ·exact absurd ht h9
  ·exact h9
 ·have := List.all_eq_true.1 h8 i (List.mem_range.2 (Array.getElem?_eq_some_iff.1 ho).1)
  simp only [ho] at this
  have h9 := List.all_eq_true.1 this j (List.mem_range.2 (dst_lt hd))
  simp only [hd, hi, hj] at h9
  simp at h9
  rcases h9 with h9 | h9
  ·exact absurd ht h9
  ·exact h9
/-! ### The invariants -/
section
variable {a0 : Act} {v : Nat → Value} {N : Nat → NPred} {listed : Array Bool} {a : Act} {w w' : World}
theorem look1 (hch : chk1 ops B = true) (hc : Chk ops B late news ord tight) {A : Nat → Act} (hA0 : A 0 = a0)
  (hstep : ∀ i, i < ops.size → ((news ++ ord).contains i = true → A (i + 1) = A i) ∧ ((news ++ ord).contains i = false → A (i + 1) = (A i).put (dstOf ops i) (v i)))
  (inv : Inv1 ops W news ord a0 v N listed a w) {i : Nat} {o : Oper} (hi : ord.contains i = false) (ho : ops[i]? = some o) (hr : ∀ e ∈ o.after, Region.binds .any e = true → lst listed e.on = true) (hun : lst listed i = false) :
  ∀ t ∈ o.looksAt ops, a.tmps[t]? = (A i).tmps[t]? := by
 intro t ht
 have hin := (Array.getElem?_eq_some_iff.1 ho).1
 obtain ⟨h1, h2, h3⟩ := acts_reg hch hstep i (Nat.le_of_lt hin)
 rw [hA0] at h1 h2 h3
 rcases Nat.lt_or_ge t a0.tmps.size with hlt | hge
 ·obtain ⟨nv, lo, hi', r1, r2, _, _⟩ := inv.regs
  have hnl : ∀ j, dstOf ops j = some t → news.contains j = false := by
   intro j hj
   cases hnj : news.contains j
   ·rfl
   ·exact absurd ht (hc.look_new i o ho hi j t hnj hj)
  by_cases hex : ∃ j, dstOf ops j = some t
  ·obtain ⟨j, hj⟩ := hex
   rcases ((chk_pair hch ho (dst_lt hj)).2 t hj).2 ht with ⟨hji, hb⟩ | ⟨hij, hb⟩
   ·have hl := listed_of_bef hch inv.closed i o ho hr j hb (dst_lt hj)
    have hoj : ord.contains j = false := by
     cases h : ord.contains j
     ·rfl
     ·have := (hc.look_head i o ho hi j t hj ht h).1; omega
    rw [r1 t hlt j hj hl, (h3 t hlt).1 j hji (skip_no (hnl j hj) hoj) hj, hnl j hj]; rfl
   ·have hl : lst listed j = false := by
     cases hlj : lst listed j
     ·rfl
     ·obtain ⟨oj, hoj⟩ : ∃ oj, ops[j]? = some oj := ⟨ops[j]'(dst_lt hj), Array.getElem?_eq_getElem _⟩
      have := listed_of_bef hch inv.closed j oj hoj (fun e he hbb => inv.closed j oj hoj hlj e he hbb) i hb hin
      rw [hun] at this; cases this
    rw [r2 t hlt (fun j' hj' => by rw [uniq hch hj' hj]; exact hl), (h3 t hlt).2 (fun j' hj' _ hd => by rw [uniq hch hd hj] at hj'; omega)]
  ·rw [r2 t hlt (fun j hj => absurd ⟨j, hj⟩ hex), (h3 t hlt).2 (fun j _ _ hd => hex ⟨j, hd⟩)]
 ·rw [Array.getElem?_eq_none (by rw [inv.sz]; exact hge), Array.getElem?_eq_none (by rw [h2]; exact hge)]
/-! ### Behind the head -/
structure Inv2 (P : Program) (ops : Array Oper) (I : World → Prop) (B : Array Nat) (tight : Bool) (Q' : Act → World → Prop) (late news ord : List Nat) (a0 : Act) (v : Nat → Value) (rem : List Nat) (listed : Array Bool) (a : Act) (w : World) : Prop where
 size : listed.size = ops.size
 closed : Closed ops listed
 iw : (∀ j, late.contains j = true → lst listed j = true) ∨ I w
 sub : ∀ q, q ∈ rem → ord.contains q = true
 nd : rem.Nodup
 done : ∀ q, ord.contains q = true → q ∉ rem → lst listed q = true
 todo : ∀ q, q ∈ rem → lst listed q = false
 head : ∀ j, j < ops.size → ord.contains j = false → late.contains j = false → lst listed j = true
 dfs : a.defers = a0.defers
 sz : a.tmps.size = a0.tmps.size
 ideal : ∃ A : Act, WalkT P ops I B tight Q' rem.length rem A w ∧ A.defers = a0.defers ∧ A.tmps.size = a0.tmps.size ∧ ∀ t, t < a0.tmps.size →
  (∀ j, late.contains j = true → lst listed j = false → dstOf ops j = some t → a.tmps[t]? = a0.tmps[t]?) ∧
  ((∀ j, late.contains j = true → lst listed j = false → dstOf ops j ≠ some t) → a.tmps[t]? = A.tmps[t]?) ∧
  (∀ j, ord.contains j = false → news.contains j = false → dstOf ops j = some t → A.tmps[t]? = some (v j)) ∧
  ((∀ j, (ord.contains j = false ∨ j ∉ rem) → dstOf ops j ≠ some t) → A.tmps[t]? = a0.tmps[t]?)
variable {Q' : Act → World → Prop}
theorem inv2_start (hch : chk1 ops B = true) (hc : Chk ops B late news ord tight) {A : Nat → Act} (hA0 : A 0 = a0)
  (hstep : ∀ i, i < ops.size → ((news ++ ord).contains i = true → A (i + 1) = A i) ∧ ((news ++ ord).contains i = false → A (i + 1) = (A i).put (dstOf ops i) (v i)))
  (inv : Inv1 ops W news ord a0 v N listed a w) (hall : ∀ j, j < ops.size → ord.contains j = false → late.contains j = false → lst listed j = true) (hI : I w)
  (H : EndN W w (fun a' => WalkT P ops I B tight Q' ord.length ord a' w) (newsL ops news N ops.size 0) [] (A ops.size)) : Inv2 P ops I B tight Q' late news ord a0 v ord listed a w := by
 have hnl : ∀ j, news.contains j = true → lst listed j = true := fun j hj => by
  obtain ⟨h1, h2⟩ := hc.news_no j hj
  refine hall j h1 h2 ?_
  cases h : late.contains j
  ·rfl
  ·rw [(hc.late_no j h).2.1] at hj; cases hj
 obtain ⟨nv, lo, hi', r1, r2, r3, r4⟩ := inv.regs
 have hk := endN_inst (nv := nv) (lo := lo) (hi := hi') (fun i j hij hi hj => r4 i j hij hi hj (hnl i hi) (hnl j hj)) ops.size 0 [] (A ops.size) (fun j _ _ hj => r3 j hj (hnl j hj)) (fun _ _ _ _ p hp => by cases hp) H
 obtain ⟨g1, g2, g3⟩ := acts_reg hch hstep ops.size (Nat.le_refl _)
 rw [hA0] at g1 g2 g3
 obtain ⟨f1, f2, f3⟩ := putNews_reg hch (news := news) (nv := nv) ops.size 0 (A ops.size)
 refine ⟨inv.size, inv.closed, .inr hI, fun q hq => by simpa using hq, hc.nodup, fun q hq hn => absurd (show q ∈ ord by simpa using hq) hn, fun q hq => inv.later q (by simpa using hq), hall, inv.dfs, inv.sz, putNews ops news nv ops.size 0 (A ops.size), hk, by rw [f1, g1], by rw [f2, g2], fun t ht => ?_⟩
 obtain ⟨f4, f5⟩ := f3 t (by rw [g2]; exact ht)
 obtain ⟨g4, g5⟩ := g3 t ht
 have hfix : ∀ j, ord.contains j = false → news.contains j = false → dstOf ops j = some t → (putNews ops news nv ops.size 0 (A ops.size)).tmps[t]? = some (v j) := fun j hoj hnj hd => by
  rw [f5 (fun j' _ _ hn' hd' => by have := uniq hch hd' hd; rw [this, hnj] at hn'; cases hn'), g4 j (dst_lt hd) (skip_no hnj hoj) hd]
 have hnone : (∀ j, ord.contains j = false → dstOf ops j ≠ some t) → (putNews ops news nv ops.size 0 (A ops.size)).tmps[t]? = a0.tmps[t]? := fun hno => by
  rw [f5 (fun j' _ h2 h3 => hno j' (hc.news_no j' h3).2), g5 fun j hj h3 => hno j (skip_get h3).2]
 refine ⟨fun j hl hun hd => ?_, fun hno => ?_, hfix, fun hno => hnone fun j hj => hno j (.inl hj)⟩
 ·exact r2 t ht fun j' hj' => by rw [uniq hch hj' hd]; exact hun
 ·by_cases hex : ∃ j, ord.contains j = false ∧ dstOf ops j = some t
  ·obtain ⟨j, hj, hd⟩ := hex
   have hl : lst listed j = true := by
    cases h : late.contains j
    ·exact hall j (dst_lt hd) hj h
    ·cases h2 : lst listed j
     ·exact absurd hd (hno j h h2)
     ·rfl
   rw [r1 t ht j hd hl]
   cases hnj : news.contains j
   ·rw [hfix j hj hnj hd]; rfl
   ·rw [f4 j (by omega) (by have := dst_lt hd; omega) hnj hd]; rfl
  ·rw [hnone (fun j hj hd => hex ⟨j, hj, hd⟩)]
   refine r2 t ht fun j hd => ?_
   exact inv.later j (by
    cases h : ord.contains j
    ·exact absurd ⟨j, h, hd⟩ hex
    ·rfl)
theorem inv2_late (hch : chk1 ops B = true) (hc : Chk ops B late news ord tight) {p : List Nat} (inv : Inv2 P ops I B tight Q' late news ord a0 v p listed a w) {i : Nat} {o : Oper} (hl : late.contains i = true) (ho : ops[i]? = some o)
  (hr : ∀ e ∈ o.after, Region.binds .any e = true → lst listed e.on = true) : Inv2 P ops I B tight Q' late news ord a0 v p (listed.setIfInBounds i true) (a.put o.dst (v i)) w := by
 have hin : i < listed.size := by rw [inv.size]; exact (Array.getElem?_eq_some_iff.1 ho).1
 have hd : dstOf ops i = o.dst := by simp [dstOf, ho]
 obtain ⟨_, hln, hlo⟩ := hc.late_no i hl
 obtain ⟨A, h1, h2, h3, h4⟩ := inv.ideal
 have up : ∀ j, lst listed j = true → lst (listed.setIfInBounds i true) j = true := fun j h => by rw [lst_set hin]; split <;> simp [h]
 refine ⟨by simp [inv.size], closed_set hin ho inv.closed hr, inv.iw.imp (fun h j hj => up j (h j hj)) id, inv.sub, inv.nd, fun q hq hs => up q (inv.done q hq hs), fun q hq => ?_, fun j hj0 hj1 hj2 => up j (inv.head j hj0 hj1 hj2), by rw [put_defers, inv.dfs], by rw [put_size, inv.sz],
  A, h1, h2, h3, fun t ht => ?_⟩
 ·have hqo := inv.sub q hq
  rw [lst_set hin, if_neg (fun e => by rw [e, hqo] at hlo; cases hlo)]; exact inv.todo q hq
 ·obtain ⟨c1, c2, c3, c4⟩ := h4 t ht
  rw [put_get _ _ _ _ (by rw [inv.sz]; exact ht)]
  refine ⟨fun j hlj hun hdj => ?_, fun hno => ?_, c3, c4⟩
  ·rw [lst_set hin] at hun
   by_cases hij : i = j
   ·subst hij; simp at hun
   ·rw [if_neg hij] at hun
    rw [if_neg (fun e => hij (uniq hch (by rw [hd]; exact e) hdj))]
    exact c1 j hlj hun hdj
  ·by_cases hdi : o.dst = some t
   ·rw [if_pos hdi, c3 i hlo hln (by rw [hd]; exact hdi)]
   ·rw [if_neg hdi]
    refine c2 fun j hlj hun hdj => ?_
    by_cases hij : i = j
    ·subst hij; exact hdi (by rw [← hd]; exact hdj)
    ·exact hno j hlj (by rw [lst_set hin, if_neg hij]; exact hun) hdj
theorem inv2_next (hch : chk1 ops B = true) (hc : Chk ops B late news ord tight) {p : List Nat} {q : Nat} (inv : Inv2 P ops I B tight Q' late news ord a0 v p listed a w) {o : Oper} (hq : q ∈ p) (ho : ops[q]? = some o) (hI : (∀ j, late.contains j = true → lst listed j = true) ∨ I w')
  (hr : ∀ e ∈ o.after, Region.binds .any e = true → lst listed e.on = true) {A : Act} {x : Value} (hW : WalkT P ops I B tight Q' (p.erase q).length (p.erase q) (A.put o.dst x) w') (h2 : A.defers = a0.defers) (h3 : A.tmps.size = a0.tmps.size)
  (h4 : ∀ t, t < a0.tmps.size →
  (∀ j, late.contains j = true → lst listed j = false → dstOf ops j = some t → a.tmps[t]? = a0.tmps[t]?) ∧
  ((∀ j, late.contains j = true → lst listed j = false → dstOf ops j ≠ some t) → a.tmps[t]? = A.tmps[t]?) ∧
  (∀ j, ord.contains j = false → news.contains j = false → dstOf ops j = some t → A.tmps[t]? = some (v j)) ∧
  ((∀ j, (ord.contains j = false ∨ j ∉ p) → dstOf ops j ≠ some t) → A.tmps[t]? = a0.tmps[t]?)) : Inv2 P ops I B tight Q' late news ord a0 v (p.erase q) (listed.setIfInBounds q true) (a.put o.dst x) w' := by
 have hpn := (Array.getElem?_eq_some_iff.1 ho).1
 have hin : q < listed.size := by rw [inv.size]; exact hpn
 have hd : dstOf ops q = o.dst := by simp [dstOf, ho]
 have hqo : ord.contains q = true := inv.sub q hq
 have her : ∀ r, r ∈ p.erase q ↔ r ≠ q ∧ r ∈ p := fun r => inv.nd.mem_erase_iff
 have up : ∀ j, lst listed j = true → lst (listed.setIfInBounds q true) j = true := fun j h => by rw [lst_set hin]; split <;> simp [h]
 have notq : ∀ j, ord.contains j = false → q ≠ j := fun j hj e => by rw [← e, hqo] at hj; cases hj
 refine ⟨by simp [inv.size], closed_set hin ho inv.closed hr, hI.imp (fun h j hj => up j (h j hj)) id, fun r hr1 => inv.sub r ((her r).1 hr1).2, inv.nd.erase q, fun r hr1 hs => ?_, fun r hr1 => ?_, fun j hj0 hj1 hj2 => up j (inv.head j hj0 hj1 hj2), by rw [put_defers, inv.dfs], by rw [put_size, inv.sz],
  A.put o.dst x, hW, by rw [put_defers, h2], by rw [put_size, h3], fun t ht => ?_⟩
 ·by_cases hsp : r = q
  ·subst hsp
   rw [lst_set hin]; simp
  ·exact up r (inv.done r hr1 fun h => hs ((her r).2 ⟨hsp, h⟩))
 ·obtain ⟨h5, h6⟩ := (her r).1 hr1
  rw [lst_set hin, if_neg (Ne.symm h5)]; exact inv.todo r h6
 ·obtain ⟨c1, c2, c3, c4⟩ := h4 t ht
  rw [put_get _ _ _ _ (by rw [inv.sz]; exact ht), put_get _ _ _ _ (by rw [h3]; exact ht)]
  refine ⟨fun j hlj hun hdj => ?_, fun hno => ?_, fun j hj hnj hdj => ?_, fun hno => ?_⟩
  ·have hne := notq j (hc.late_no j hlj).2.2
   rw [lst_set hin, if_neg hne] at hun
   rw [if_neg (fun e => hne (uniq hch (by rw [hd]; exact e) hdj))]
   exact c1 j hlj hun hdj
  ·split
   ·rfl
   ·exact c2 fun j hlj hun hdj => hno j hlj (by rw [lst_set hin, if_neg (notq j (hc.late_no j hlj).2.2)]; exact hun) hdj
  ·rw [if_neg (fun e => notq j hj (uniq hch (by rw [hd]; exact e) hdj))]
   exact c3 j hj hnj hdj
  ·rw [if_neg (fun e => hno q (.inr fun h => ((her q).1 h).1 rfl) (by rw [hd]; exact e))]
   exact c4 fun j hj => hno j (hj.imp id fun h h2 => h ((her j).1 h2).2)
theorem sched_any (hch : chk1 ops B = true) (hc : Chk ops B late news ord tight) (hsel : Region.noSelect ops = true) {Q : Exit → Act → World → Prop} {A : Nat → Act} (hA0 : A 0 = a0)
  (hGI : ∀ w, Gr W w → I w)
  (hstep : ∀ i, i < ops.size → StepOK P ops W I late news ord i (A i) (A (i + 1)) (v i) (N i))
  (hend : ∀ w', Gr W w' → EndN W w' (fun a' => WalkT P ops I B tight (Q .normal) ord.length ord a' w') (newsL ops news N ops.size 0) [] (A ops.size)) :
  ∀ (fuel : Nat) (listed : Array Bool) (a : Act) (w : World), cnt listed ops.size = fuel → (Inv1 ops W news ord a0 v N listed a w ∨ ∃ p, Inv2 P ops I B tight (Q .normal) late news ord a0 v p listed a w) → wpAny P .any ops Q fuel listed a w := by
 have hst1 := steps_skip hstep
 have hstable : ∀ j, news.contains j = true → Stable (N j) := fun j hj => by
  obtain ⟨h1, h2⟩ := hc.news_no j hj
  obtain ⟨_, _, _, _, h, _⟩ := (hstep j h1).2.1 h2 hj
  exact h
 have ordmem : ∀ q, ord.contains q = true → ∃ s, ord[s]? = some q := fun q hq => by
  have : q ∈ ord := by simpa using hq
  obtain ⟨s, hs, e⟩ := List.getElem_of_mem this
  exact ⟨s, by rw [List.getElem?_eq_getElem hs, e]⟩
 -- at the end
 have fin : ∀ (listed : Array Bool) (a : Act) (w : World), (∀ i, i < ops.size → lst listed i = true) → (Inv1 ops W news ord a0 v N listed a w ∨ ∃ p, Inv2 P ops I B tight (Q .normal) late news ord a0 v p listed a w) → Q .normal a w := by
  intro listed a w hall inv
  have h2 : ∃ p, Inv2 P ops I B tight (Q .normal) late news ord a0 v p listed a w := by
   rcases inv with inv | h
   ·exact ⟨ord, inv2_start hch hc hA0 hst1 inv (fun j hj _ _ => hall j hj) (hGI w inv.gr) (hend w inv.gr)⟩
   ·exact h
  obtain ⟨p, inv⟩ := h2
  have hp : p = [] := by
   cases hpc : p with
   | nil => rfl
   | cons q r =>
    have hm : q ∈ p := by rw [hpc]; simp
    have := inv.todo q hm
    rw [hall _ (hc.ord_lt _ (inv.sub q hm))] at this; cases this
  subst hp
  obtain ⟨A', h1, h2, h3, h4⟩ := inv.ideal
  have e : a = A' := by
   have ht : a.tmps = A'.tmps := by
    apply Array.ext_getElem?
    intro t
    rcases Nat.lt_or_ge t a0.tmps.size with h | h
    ·exact (h4 t h).2.1 fun j hl hun _ => by rw [hall j (hc.late_no j hl).1] at hun; cases hun
    ·rw [Array.getElem?_eq_none (by rw [inv.sz]; exact h), Array.getElem?_eq_none (by rw [h3]; exact h)]
   have hd : a.defers = A'.defers := by rw [inv.dfs, h2]
   cases a; cases A'; simp_all
  rw [e]; exact h1
 -- one operation of the chain
 have chain : ∀ (fuel : Nat) (listed : Array Bool) (a : Act) (w : World) (p : List Nat) (q : Nat) (o : Oper), q ∈ p → (∀ a' w', (∃ q', Inv2 P ops I B tight (Q .normal) late news ord a0 v q' (listed.setIfInBounds q true) a' w') → wpAny P .any ops Q fuel (listed.setIfInBounds q true) a' w') →
   Inv2 P ops I B tight (Q .normal) late news ord a0 v p listed a w → ops[q]? = some o → (∀ e ∈ o.after, Region.binds .any e = true → lst listed e.on = true) → wpOp P ops Q q (wpAny P .any ops Q fuel (listed.setIfInBounds q true)) a w := by
  intro fuel listed a w p q o hq ih inv ho hr
  have hqo : ord.contains q = true := inv.sub q hq
  obtain ⟨A', h1, h2, h3, h4⟩ := inv.ideal
  obtain ⟨n, hn⟩ : ∃ n, p.length = n + 1 := ⟨p.length - 1, by have := List.length_pos_of_mem hq; omega⟩
  have hne : (p.erase q).length = n := by rw [List.length_erase_of_mem hq, hn]; rfl
  rw [hn] at h1
  unfold WalkT at h1
  have hnx : q ∈ nexts B p := List.mem_filter.2 ⟨hq, List.all_eq_true.2 fun j hj => by
   cases hb : bef B q j
   ·rfl
   ·have := listed_of_bef hch inv.closed q o ho hr j hb (hc.ord_lt j (inv.sub j hj))
    rw [inv.todo j hj] at this; cases this⟩
  replace h1 := allQ_mem h1 q hnx
  rw [ho] at h1
  simp only at h1
  have look := look_same (ops := ops) (o := o) (a := a) (a' := A') (fun cs b => Region.noSelect_spec hsel q o cs b ho) (fun t ht => by
   rcases Nat.lt_or_ge t a0.tmps.size with h | h
   ·refine (h4 t h).2.1 fun j hl hun hd => ?_
    have hb := (hc.look_last q o ho hqo j t hd ht (hc.late_no j hl).2.2).2
    have := listed_of_bef hch inv.closed q o ho hr j hb (dst_lt hd)
    rw [hun] at this; cases this
   ·rw [Array.getElem?_eq_none (by rw [inv.sz]; exact h), Array.getElem?_eq_none (by rw [h3]; exact h)])
  unfold wpOp
  rw [ho]
  simp only
  rw [look.2]
  by_cases hw : Region.wanted o (yielded ops A'.tmps) = true
  ·rw [if_pos hw] at h1 ⊢
   refine .inl (tq_wp look.1 h1 fun x w' hK => ih _ _ ⟨p.erase q, inv2_next hch hc inv hq ho (hK.1.imp (fun ⟨ht, he⟩ j hj => ?_) id) hr (by rw [hne]; exact hK.2) h2 h3 h4⟩)
   rcases hc.last ht q hqo j hj with hb | ⟨q', h5, h6, h7⟩
   ·exact listed_of_bef hch inv.closed q o ho hr j hb (hc.late_no j hj).1
   ·exfalso
    subst he
    have hp1 : ∀ r, r ∈ p → r = q := fun r hr2 => by
     rcases List.length_eq_one_iff.1 hn with ⟨x, hx⟩
     rw [hx] at hr2 hq
     simp only [List.mem_singleton] at hr2 hq
     rw [hr2, hq]
    have hl' := inv.done q' h5 fun hm => h6 (hp1 q' hm)
    have hq'n := hc.ord_lt q' h5
    have := listed_of_bef hch inv.closed q' _ (Array.getElem?_eq_getElem hq'n) (fun e he hbb => inv.closed q' _ (Array.getElem?_eq_getElem hq'n) hl' e he hbb) q h7 (hc.ord_lt q hqo)
    rw [inv.todo q hq] at this; cases this
  ·rw [if_neg hw] at h1 ⊢
   exact ih _ _ ⟨p.erase q, inv2_next hch hc inv hq ho inv.iw hr (by rw [hne]; exact h1) h2 h3 h4⟩
 intro fuel
 induction fuel with
 | zero =>
  intro listed a w hcn inv
  have hall := cnt_zero ops.size hcn
  refine ⟨?_, fin listed a w hall inv⟩
  rw [List.eq_nil_iff_forall_not_mem]
  intro i hi
  obtain ⟨h0, o, ho, _⟩ := mem_ready.1 hi
  have hin := (Array.getElem?_eq_some_iff.1 ho).1
  have hs : listed.size = ops.size := by rcases inv with inv | ⟨_, inv⟩ <;> exact inv.size
  have h1 := hall i hin
  unfold lst at h1
  have hsz : i < listed.size := by omega
  simp only [Array.getD_eq_getD_getElem?, Array.getElem?_eq_getElem hsz, Option.getD_some] at h0 h1
  rw [h1] at h0; cases h0
 | succ fuel ih =>
  intro listed a w hcn inv
  have hs : listed.size = ops.size := by rcases inv with inv | ⟨_, inv⟩ <;> exact inv.size
  refine ⟨fun h => fin listed a w (all_of_ready hch hs h) inv, fun i hi => ?_⟩
  obtain ⟨h0, o, ho, hr⟩ := mem_ready.1 hi
  have hin := (Array.getElem?_eq_some_iff.1 ho).1
  have hun : lst listed i = false := by
   have hsz : i < listed.size := by omega
   unfold lst
   simp only [Array.getD_eq_getD_getElem?, Array.getElem?_eq_getElem hsz, Option.getD_some] at h0 ⊢
   exact h0
  have hcnt : cnt (listed.setIfInBounds i true) ops.size = fuel := by
   have := cnt_set (listed := listed) (by omega) hun ops.size
   rw [if_pos hin] at this; omega
  have ih2 : ∀ a' w', (∃ q, Inv2 P ops I B tight (Q .normal) late news ord a0 v q (listed.setIfInBounds i true) a' w') → wpAny P .any ops Q fuel (listed.setIfInBounds i true) a' w' := fun a' w' h => ih _ _ _ hcnt (.inr h)
  have hd : dstOf ops i = o.dst := by simp [dstOf, ho]
  cases hoi : ord.contains i
  ·rcases inv with inv | ⟨p, inv⟩
   ·have hl := look1 hch hc hA0 hst1 inv hoi ho hr hun
    have look := look_same (ops := ops) (o := o) (a := a) (a' := A i) (fun cs b => Region.noSelect_spec hsel i o cs b ho) hl
    unfold wpOp
    rw [ho]
    simp only
    rw [look.2]
    cases hn : news.contains i
    ·obtain ⟨_, o', ho', hfix⟩ := (hstep i hin).2.2 hoi hn
     rw [ho] at ho'; cases ho'
     rcases hfix with ⟨hw, hq⟩ | ⟨hw, hv⟩
     ·rw [if_pos hw]
      exact .inl (gq_wp look.1 (hq w (by split; exact hGI w inv.gr; exact inv.gr)) fun w' hg => ih _ _ _ hcnt (.inl (inv1_fix hch hstable inv hoi ho hr hn hg)))
     ·rw [if_neg (by rw [hw]; simp), ← hv]
      exact ih _ _ _ hcnt (.inl (inv1_fix hch hstable inv hoi ho hr hn (Gr.refl w)))
    ·obtain ⟨_, o', ho', hw, _, hq⟩ := (hstep i hin).2.1 hoi hn
     rw [ho] at ho'; cases ho'
     rw [if_pos hw]
     exact .inl (nq_wp look.1 (hq w inv.gr) fun x w' hg hN => ih _ _ _ hcnt (.inl (inv1_new hch hstable inv hoi ho hr hun hn hg hN)))
   ·have hl : late.contains i = true := by
     cases h : late.contains i
     ·rw [inv.head i hin hoi h] at hun; cases hun
     ·rfl
    have hn := (hc.late_no i hl).2.1
    obtain ⟨A', h1, h2, h3, h4⟩ := inv.ideal
    obtain ⟨g1, g2, g3⟩ := acts_reg hch hst1 i (Nat.le_of_lt hin)
    rw [hA0] at g1 g2 g3
    have hl1 : ∀ t ∈ o.looksAt ops, a.tmps[t]? = (A i).tmps[t]? := by
     intro t ht
     rcases Nat.lt_or_ge t a0.tmps.size with h | h
     ·obtain ⟨c1, c2, c3, c4⟩ := h4 t h
      by_cases hex : ∃ j, dstOf ops j = some t
      ·obtain ⟨j, hj⟩ := hex
       rcases ((chk_pair hch ho (dst_lt hj)).2 t hj).2 ht with ⟨hji, hb⟩ | ⟨hij, hb⟩
       ·have hlj := listed_of_bef hch inv.closed i o ho hr j hb (dst_lt hj)
        have hnj : news.contains j = false := by
         cases hnj : news.contains j
         ·rfl
         ·exact absurd ht (hc.look_new i o ho hoi j t hnj hj)
        have hoj : ord.contains j = false := by
         cases h5 : ord.contains j
         ·rfl
         ·have := (hc.look_head i o ho hoi j t hj ht h5).1; omega
        rw [c2 (fun j' _ hun' hd' => by rw [uniq hch hd' hj, hlj] at hun'; cases hun'), c3 j hoj hnj hj, (g3 t h).1 j hji (skip_no hnj hoj) hj]
       ·have hlj : lst listed j = false := by
         cases hlj : lst listed j
         ·rfl
         ·obtain ⟨oj, hoj⟩ : ∃ oj, ops[j]? = some oj := ⟨ops[j]'(dst_lt hj), Array.getElem?_eq_getElem _⟩
          have := listed_of_bef hch inv.closed j oj hoj (fun e he hbb => inv.closed j oj hoj hlj e he hbb) i hb hin
          rw [hun] at this; cases this
        have hA : (A i).tmps[t]? = a0.tmps[t]? := (g3 t h).2 fun j' hj' _ hd' => by rw [uniq hch hd' hj] at hj'; omega
        rw [hA]
        cases hoj : ord.contains j
        ·have hlate2 : late.contains j = true := by
          cases h6 : late.contains j
          ·rw [inv.head j (dst_lt hj) hoj h6] at hlj; cases hlj
          ·rfl
         exact c1 j hlate2 hlj hj
        ·rw [c2 (fun j' hl' _ hd' => by have := uniq hch hd' hj; rw [this] at hl'; rw [(hc.late_no j hl').2.2] at hoj; cases hoj),
          c4 fun j' hj' hd' => by
           have e := uniq hch hd' hj
           subst e
           rcases hj' with hj' | hj'
           ·rw [hj'] at hoj; cases hoj
           ·rw [inv.done j' hoj hj'] at hlj; cases hlj]
      ·rw [c2 (fun j' _ _ hd' => hex ⟨j', hd'⟩), c4 (fun j' _ hd' => hex ⟨j', hd'⟩), (g3 t h).2 fun j' _ _ hd' => hex ⟨j', hd'⟩]
     ·rw [Array.getElem?_eq_none (by rw [inv.sz]; exact h), Array.getElem?_eq_none (by rw [g2]; exact h)]
    have look := look_same (ops := ops) (o := o) (a := a) (a' := A i) (fun cs b => Region.noSelect_spec hsel i o cs b ho) hl1
    obtain ⟨_, o', ho', hfix⟩ := (hstep i hin).2.2 hoi hn
    rw [ho] at ho'; cases ho'
    unfold wpOp
    rw [ho]
    simp only
    rw [look.2]
    rcases hfix with ⟨hw, hq⟩ | ⟨hw, hv⟩
    ·rw [if_pos hw]
     have hq' := hq w (by
      rw [if_pos hl]
      rcases inv.iw with h | h
      ·rw [h i hl] at hun; cases hun
      ·exact h)
     rw [hl] at hq'
     exact .inl (gq_late look.1 hq' (ih2 _ _ ⟨p, inv2_late hch hc inv hl ho hr⟩))
    ·rw [if_neg (by rw [hw]; simp), ← hv]
     exact ih2 _ _ ⟨p, inv2_late hch hc inv hl ho hr⟩
  ·rcases inv with inv | ⟨p, inv⟩
   ·have hall : ∀ j, j < ops.size → ord.contains j = false → late.contains j = false → lst listed j = true := fun j hj hoj hlj =>
     listed_of_bef hch inv.closed i o ho hr j (hc.first i hoi j hj hoj hlj) hj
    exact chain fuel listed a w ord i o (by simpa using hoi) ih2 (inv2_start hch hc hA0 hst1 inv hall (hGI w inv.gr) (hend w inv.gr)) ho hr
   ·have hm : i ∈ p := by
     by_cases h : i ∈ p
     ·exact h
     ·rw [inv.done i hoi h] at hun; cases hun
    exact chain fuel listed a w p i o hm ih2 inv ho hr
end
section
variable {n : Nat} {rem : List Nat} {Q : Act → World → Prop} {a : Act} {w : World}
theorem nil (h : Q a w) : WalkT P ops I B tight Q 0 rem a w := h
def One (P : Program) (ops : Array Oper) (I : World → Prop) (B : Array Nat) (tight : Bool) (Q : Act → World → Prop) (n : Nat) (rem : List Nat) (a : Act) (w : World) (i : Nat) : Prop :=
 match ops[i]? with
  | none => True
  | some o => if Region.wanted o (yielded ops a.tmps) then tq P o a w (fun a' w' => ((tight = true ∧ n = 0) ∨ I w') ∧ WalkT P ops I B tight Q n (rem.erase i) a' w') else WalkT P ops I B tight Q n (rem.erase i) (a.put o.dst undef) w
theorem node (is : List Nat) (hn : nexts B rem = is) (h : AllQ (One P ops I B tight Q n rem a w) is) : WalkT P ops I B tight Q (n + 1) rem a w := by
 unfold WalkT
 rw [hn]
 exact h
theorem go {i : Nat} {o : Oper} (r : List Nat) (ho : ops[i]? = some o) (hr : rem.erase i = r) (hw : Region.wanted o (yielded ops a.tmps) = true) (h : ∀ K : Act → World → Prop, (∀ a w, ((tight = true ∧ n = 0) ∨ I w) → WalkT P ops I B tight Q n r a w → K a w) → tq P o a w K) : One P ops I B tight Q n rem a w i := by
 unfold One; rw [ho]; simp only; rw [if_pos hw, hr]; exact h _ (fun _ _ h1 h2 => ⟨h1, h2⟩)
theorem no {i : Nat} {o : Oper} (r : List Nat) (ho : ops[i]? = some o) (hr : rem.erase i = r) (hw : Region.wanted o (yielded ops a.tmps) = false) (h : ∀ K : Act → Prop, (∀ a', WalkT P ops I B tight Q n r a' w → K a') → K (a.put o.dst undef)) : One P ops I B tight Q n rem a w i := by
 have h := h _ (fun _ h => h)
 unfold One; rw [ho]; simp only; rw [if_neg (by rw [hw]; simp), hr]; exact h
end
theorem wp_region_sched {id : Nat} {Q : Exit → Act → World → Prop} {a : Act} {W : World} {l : List Oper} (I : World → Prop) (late news ord : List Nat) (tight : Bool) (hGI : ∀ w, Gr W w → I w) (hm : P.follows .mixedOrders = true)
  (hchk : (Region.noSelect l.toArray && chk1 l.toArray (Region.before l.toArray) && chk2 l.toArray (Region.before l.toArray) late news ord tight) = true)
  (h : Walk1 P l.toArray W I late news ord (fun a' L => ∀ w', Gr W w' → EndN W w' (fun a'' => WalkT P l.toArray I (Region.before l.toArray) tight (Q .normal) ord.length ord a'' w') L [] a') l 0 a []) :
  (Code.region id l.toArray true).wp P Q a W := by
 simp only [Bool.and_eq_true] at hchk
 obtain ⟨⟨hsel, hch⟩, hc2⟩ := hchk
 have hc := chk_of hc2
 obtain ⟨A, v, N, hA0, hstep, hend⟩ := walk1_ext (fun k hk => (hc.news_no k hk).2) l 0 a [] (fun j hj => by simp) h
 refine wp_region_any hm (sched_any hch hc hsel (A := A) (v := v) (N := N) hA0 hGI (fun i hi => hstep i (Nat.zero_le _) (by simpa using hi)) (fun w' hw' => ?_) _ _ _ _ ?_ (.inl ?_))
 ·simpa using hend w' hw'
 ·have : ∀ k, k ≤ l.toArray.size → cnt (Array.replicate l.toArray.size false) k = k := by
   intro k
   induction k with
   | zero => intro _; rfl
   | succ k ih =>
    intro hk
    have e : lst (Array.replicate l.toArray.size false) k = false := by
     unfold lst; simp only [Array.getD_eq_getD_getElem?]; rw [Array.getElem?_eq_getElem (by simp only [Array.size_replicate]; omega)]; simp
    simp only [cnt, e, ih (by omega)]; simp
  exact this _ (Nat.le_refl _)
 ·have e : ∀ k, lst (Array.replicate l.toArray.size false) k = false := by
   intro k
   unfold lst
   simp only [Array.getD_eq_getD_getElem?, Array.getElem?_replicate]
   split <;> rfl
  have no : ∀ {k : Nat} {p : Prop}, lst (Array.replicate l.toArray.size false) k = true → p := fun {k p} h => by rw [e k] at h; cases h
  exact ⟨by simp, fun i o ho hl => no hl, fun i _ => e i, ⟨rfl, rfl, rfl, Nat.le_refl _, fun _ _ _ => rfl⟩, rfl, rfl,
   fun _ => undef, fun _ => 0, fun _ => 0, fun t ht j hj hl => no hl, fun t ht _ => rfl, fun j hj hl => no hl, fun i j _ _ _ hl _ => no hl⟩
end SchedT
end Go.Proofs.YtlnkofpcidngoaaDoor