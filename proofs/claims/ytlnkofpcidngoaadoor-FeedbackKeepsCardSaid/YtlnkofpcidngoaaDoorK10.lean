/- Several texts in one. -/
import Derived.Test.YtlnkofpcidngoaaDoorK0
import Derived.Test.YtlnkofpcidngoaaDoorK1
import Derived.Test.YtlnkofpcidngoaaDoorK4
import Derived.Test.YtlnkofpcidngoaaDoorK9
import Derived.Test.YtlnkofpcidngoaaDoorK8
import Derived.Laws.BytesArg
import Derived.Laws.Strings
import Derived.WideShapes
namespace Go.Proofs.YtlnkofpcidngoaaDoor
open Go.ChangeShapes Go.WideShapes Go.ChangeAt Go.RowKit
namespace SchedD
open Sched (gq nq tq Stable NPred Walk2 EndN dstOf bef chk1 lst Closed newsL newsL_congr put_size put_defers put_get look_same gq_wp gq_late nq_wp tq_wp uniq dst_lt lst_set closed_set acts_reg Inv1 inv1_fix inv1_new putNews endN_inst putNews_reg Inv2 inv2_next cnt cnt_set cnt_zero all_of_ready chk_edge chk_pair listed_of_bef)
variable (P : Program) (ops : Array Oper) (W : World)
def depOf : List (Nat × List (Nat × Tmp)) → Nat → List (Nat × Tmp)
 | [], _ => []
 | (j, d) :: r, i => if i = j then d else depOf r i
def nsel : List (Nat × NPred) → Nat → NPred
 | [], _ => fun _ _ _ _ => True
 | (j, n) :: r, k => if k = j then n else nsel r k
def DepN (N : Nat → NPred) (w : World) (K : Act → Prop) : List (Nat × Tmp) → Act → Prop
 | [], a => K a
 | (k, t) :: ks, a => ∀ lo hi u, N k lo hi u w → DepN N w K ks (a.put (some t) u)
def Walk1 (late news : List Nat) (N : Nat → NPred) (deps : List (Nat × List (Nat × Tmp))) (Q : Act → List (Option Tmp × NPred) → Prop) : List Oper → Nat → Act → List (Option Tmp × NPred) → Prop
 | [], _, a, L => Q a L
 | o :: r, k, a, L =>
   if news.contains k then
     Stable (N k) ∧ (∀ w, Gr W w → DepN N w (fun a' => Region.wanted o (yielded ops a'.tmps) = true ∧ nq P o a' w (N k)) (depOf deps k) a) ∧ Walk1 late news N deps Q r (k + 1) a (L ++ [(o.dst, N k)])
   else
     (∃ v, (∀ w, (late.contains k = true ∨ Gr W w) → DepN N w (fun a' => Region.wanted o (yielded ops a'.tmps) = true ∧ gq P o a' w v (late.contains k)) (depOf deps k) a) ∧ Walk1 late news N deps Q r (k + 1) (a.put o.dst v) L) ∨
     ((∀ w, (late.contains k = true ∨ Gr W w) → DepN N w (fun a' => Region.wanted o (yielded ops a'.tmps) = false) (depOf deps k) a) ∧ Walk1 late news N deps Q r (k + 1) (a.put o.dst undef) L)
def chk2 (B : Array Nat) (m : Nat) (late news : List Nat) (deps : List (Nat × List (Nat × Tmp))) : Bool :=
 decide (m ≤ ops.size) && (news.all fun k => decide (k < m)) && (late.all fun k => decide (k < m) && !news.contains k && (depOf deps k).isEmpty) &&
 (decide (m = ops.size) || (List.range m).all fun j => late.contains j || bef B m j) &&
 ((List.range ops.size).all fun i => decide (i ≤ m) || bef B i (i - 1)) &&
 ((List.range m).all fun i => match ops[i]? with
   | none => false
   | some o => (news.all fun k => match dstOf ops k with | some t => !(o.looksAt ops).contains t || (depOf deps i).contains (k, t) | none => true) &&
     ((depOf deps i).all fun p => decide (p.1 < i) && news.contains p.1 && bef B i p.1 && (dstOf ops p.1 == some p.2)))
variable {P ops W}
variable {B : Array Nat} {m : Nat} {late news : List Nat} {N : Nat → NPred} {deps : List (Nat × List (Nat × Tmp))}
theorem chk2_parts (h : chk2 ops B m late news deps = true) : m ≤ ops.size ∧ (∀ j, news.contains j = true → j < m) ∧ (∀ j, late.contains j = true → news.contains j = false ∧ depOf deps j = []) ∧
   (m = ops.size ∨ ∀ j, j < m → late.contains j = true ∨ bef B m j = true) ∧ (∀ i, i < ops.size → i ≤ m ∨ bef B i (i - 1) = true) ∧
   (∀ i o, i < m → ops[i]? = some o → (∀ j t, news.contains j = true → dstOf ops j = some t → t ∈ o.looksAt ops → (j, t) ∈ depOf deps i) ∧ ∀ p ∈ depOf deps i, p.1 < i ∧ news.contains p.1 = true ∧ bef B i p.1 = true ∧ dstOf ops p.1 = some p.2) := by
 simp only [chk2, Bool.and_eq_true, decide_eq_true_eq] at h
 obtain ⟨⟨⟨⟨⟨h1, h2⟩, h3⟩, h4⟩, h5⟩, h6⟩ := h
 refine ⟨h1, fun j hj => ?_, fun j hj => ?_, ?_, fun i hi => ?_, fun i o hi ho => ?_⟩
 · have := List.all_eq_true.1 h2 j (by simpa using hj); simpa using this
 · have := List.all_eq_true.1 h3 j (by simpa using hj)
   simp only [Bool.and_eq_true, Bool.not_eq_true', List.isEmpty_iff] at this
   exact ⟨this.1.2, this.2⟩
 · rcases Bool.or_eq_true _ _ ▸ h4 with h | h
   · exact .inl (by simpa using h)
   · exact .inr fun j hj => by
       have := List.all_eq_true.1 h j (List.mem_range.2 hj)
       rwa [Bool.or_eq_true] at this
 · have := List.all_eq_true.1 h5 i (List.mem_range.2 hi)
   simpa using this
 · have h7 := List.all_eq_true.1 h6 i (List.mem_range.2 hi)
   simp only [ho, Bool.and_eq_true] at h7
   refine ⟨fun j t hj hd ht => ?_, fun p hp => ?_⟩
   · have h8 := List.all_eq_true.1 h7.1 j (by simpa using hj)
     rw [hd] at h8
     simp only [Bool.or_eq_true, Bool.not_eq_true', List.contains_eq_mem, decide_eq_false_iff_not, decide_eq_true_eq] at h8
     rcases h8 with h8 | h8
     · exact absurd ht h8
     · exact h8
   · have h8 := List.all_eq_true.1 h7.2 p hp
     simp only [Bool.and_eq_true, decide_eq_true_eq, beq_iff_eq] at h8
     exact ⟨h8.1.1.1, h8.1.1.2, h8.1.2, h8.2⟩
def FixOK (P : Program) (ops : Array Oper) (W : World) (late : List Nat) (N : Nat → NPred) (deps : List (Nat × List (Nat × Tmp))) (i : Nat) (a : Act) (v : Value) : Prop := ∃ o, ops[i]? = some o ∧
 ((∀ w, (late.contains i = true ∨ Gr W w) → DepN N w (fun a' => Region.wanted o (yielded ops a'.tmps) = true ∧ gq P o a' w v (late.contains i)) (depOf deps i) a) ∨
   ((∀ w, (late.contains i = true ∨ Gr W w) → DepN N w (fun a' => Region.wanted o (yielded ops a'.tmps) = false) (depOf deps i) a) ∧ v = undef))
def NewOK (P : Program) (ops : Array Oper) (W : World) (N : Nat → NPred) (deps : List (Nat × List (Nat × Tmp))) (i : Nat) (a : Act) : Prop := ∃ o, ops[i]? = some o ∧ Stable (N i) ∧
 ∀ w, Gr W w → DepN N w (fun a' => Region.wanted o (yielded ops a'.tmps) = true ∧ nq P o a' w (N i)) (depOf deps i) a
theorem walk1_ext {Q : Act → List (Option Tmp × NPred) → Prop} : ∀ (l : List Oper) (k : Nat) (a : Act) (L : List (Option Tmp × NPred)), (∀ j, j < l.length → l[j]? = ops[k + j]?) → Walk1 P ops W late news N deps Q l k a L →
   ∃ (A : Nat → Act) (v : Nat → Value), A k = a ∧
     (∀ i, k ≤ i → i < k + l.length → (news.contains i = true → A (i + 1) = A i ∧ NewOK P ops W N deps i (A i)) ∧ (news.contains i = false → A (i + 1) = (A i).put (dstOf ops i) (v i) ∧ FixOK P ops W late N deps i (A i) (v i))) ∧
     Q (A (k + l.length)) (L ++ newsL ops news N l.length k)
 | [], k, a, L, _, h => ⟨fun _ => a, fun _ => undef, rfl, fun i h1 h2 => by simp at h2; omega, by simpa [newsL, Walk1] using h⟩
 | o :: r, k, a, L, hl, h => by
   have ho : ops[k]? = some o := by simpa using (hl 0 (by simp)).symm
   have hl' : ∀ j, j < r.length → r[j]? = ops[k + 1 + j]? := fun j hj => by
     have := hl (j + 1) (by simpa using hj)
     simpa [Nat.add_assoc, Nat.add_comm 1 j] using this
   have hd : dstOf ops k = o.dst := by simp [dstOf, ho]
   have hlen : k + (o :: r).length = k + 1 + r.length := by simp; omega
   have join : ∀ (a1 : Act) (L1 : List (Option Tmp × NPred)) (v0 : Value), Walk1 P ops W late news N deps Q r (k + 1) a1 L1 →
       ((news.contains k = true → a1 = a ∧ NewOK P ops W N deps k a) ∧ (news.contains k = false → a1 = a.put (dstOf ops k) v0 ∧ FixOK P ops W late N deps k a v0)) →
       (L1 = L ++ (if news.contains k then [(dstOf ops k, N k)] else [])) → ∃ (A : Nat → Act) (v : Nat → Value), A k = a ∧
     (∀ i, k ≤ i → i < k + (o :: r).length → (news.contains i = true → A (i + 1) = A i ∧ NewOK P ops W N deps i (A i)) ∧ (news.contains i = false → A (i + 1) = (A i).put (dstOf ops i) (v i) ∧ FixOK P ops W late N deps i (A i) (v i))) ∧
     Q (A (k + (o :: r).length)) (L ++ newsL ops news N (o :: r).length k) := by
     intro a1 L1 v0 hw hk hL
     obtain ⟨A, v, hA, hstep, hQ⟩ := walk1_ext r (k + 1) a1 L1 hl' hw
     refine ⟨fun i => if i = k then a else A i, fun i => if i = k then v0 else v i, by simp, ?_, ?_⟩
     · intro i h1 h2
       by_cases hik : i = k
       · subst hik
         simp only [if_true, show ¬ i + 1 = i from by omega, if_false, hA]
         exact hk
       · have := hstep i (by omega) (by omega)
         simp only [hik, if_false, show ¬ i + 1 = k from by omega]
         exact this
     · have e1 : ¬ k + (o :: r).length = k := by simp
       show Q (if k + (o :: r).length = k then a else A (k + (o :: r).length)) _
       rw [if_neg e1, hlen]
       rw [hL] at hQ
       simp only [List.length_cons, newsL]
       simpa [List.append_assoc] using hQ
   unfold Walk1 at h
   by_cases hn : news.contains k = true
   · rw [if_pos hn] at h
     obtain ⟨hs, hq, hr⟩ := h
     exact join a _ undef hr ⟨fun _ => ⟨rfl, o, ho, hs, hq⟩, fun e => (by rw [hn] at e; cases e)⟩ (by rw [if_pos hn, hd])
   · have hnf : news.contains k = false := by simpa using hn
     rw [if_neg hn] at h
     rcases h with ⟨v0, hq, hr⟩ | ⟨hw, hr⟩
     · exact join _ L v0 hr ⟨fun e => (by rw [hnf] at e; cases e), fun _ => ⟨by rw [hd], o, ho, .inl hq⟩⟩ (by rw [if_neg hn]; simp)
     · exact join _ L undef hr ⟨fun e => (by rw [hnf] at e; cases e), fun _ => ⟨by rw [hd], o, ho, .inr ⟨hw, rfl⟩⟩⟩ (by rw [if_neg hn]; simp)
def putL (nv : Nat → Value) : List (Nat × Tmp) → Act → Act
 | [], a => a
 | (k, t) :: ks, a => putL nv ks (a.put (some t) (nv k))
theorem depN_inst {nv : Nat → Value} {lo hi : Nat → Nat} {w : World} {K : Act → Prop} : ∀ (l : List (Nat × Tmp)) (a : Act), (∀ p ∈ l, N p.1 (lo p.1) (hi p.1) (nv p.1) w) → DepN N w K l a → K (putL nv l a)
 | [], _, _, h => h
 | (k, t) :: ks, a, hf, h => depN_inst ks _ (fun p hp => hf p (by simp [hp])) (h _ _ _ (hf (k, t) (by simp)))
theorem putL_size (nv : Nat → Value) : ∀ (l : List (Nat × Tmp)) (a : Act), (putL nv l a).tmps.size = a.tmps.size
 | [], _ => rfl
 | (k, t) :: ks, a => by unfold putL; rw [putL_size nv ks]; simp [Act.put]
theorem putL_get (hch : chk1 ops B = true) (nv : Nat → Value) : ∀ (l : List (Nat × Tmp)) (a : Act), (∀ p ∈ l, dstOf ops p.1 = some p.2) → ∀ t, t < a.tmps.size →
   (∀ j, (j, t) ∈ l → (putL nv l a).tmps[t]? = some (nv j)) ∧ ((∀ j, (j, t) ∉ l) → (putL nv l a).tmps[t]? = a.tmps[t]?)
 | [], a, _, t, _ => ⟨fun j h => (by cases h), fun _ => rfl⟩
 | (k, s) :: ks, a, hd, t, ht => by
   unfold putL
   obtain ⟨h1, h2⟩ := putL_get hch nv ks (a.put (some s) (nv k)) (fun p hp => hd p (by simp [hp])) t (by rw [put_size]; exact ht)
   rw [put_get _ _ _ _ ht] at h2
   refine ⟨fun j hj => ?_, fun hno => ?_⟩
   · by_cases hin : ∃ i, (i, t) ∈ ks
     · obtain ⟨i, hi⟩ := hin
       have hji : j = i := uniq hch (hd (j, t) hj) (hd (i, t) (by simp [hi]))
       rw [hji]; exact h1 i hi
     · rcases List.mem_cons.1 hj with e | hj
       · cases e
         rw [h2 (fun i hi => hin ⟨i, hi⟩), if_pos rfl]
       · exact absurd ⟨j, hj⟩ hin
   · rw [h2 (fun j hj => hno j (by simp [hj])), if_neg (fun e => by cases e; exact hno k (by simp))]
section
variable {a0 : Act} {v : Nat → Value} {listed : Array Bool} {a : Act} {w w' : World}
theorem look1 (hch : chk1 ops B = true) (hc2 : chk2 ops B m late news deps = true) {A : Nat → Act} (hA0 : A 0 = a0)
   (hstep : ∀ i, i < m → (news.contains i = true → A (i + 1) = A i) ∧ (news.contains i = false → A (i + 1) = (A i).put (dstOf ops i) (v i)))
   (inv : Inv1 ops W m news a0 v N listed a w) {i : Nat} {o : Oper} (hi : i < m) (ho : ops[i]? = some o) (hr : ∀ e ∈ o.after, Region.binds .any e = true → lst listed e.on = true) (hun : lst listed i = false) :
   ∃ (nv : Nat → Value) (lo hi' : Nat → Nat), (∀ p ∈ depOf deps i, N p.1 (lo p.1) (hi' p.1) (nv p.1) w) ∧ ∀ t ∈ o.looksAt ops, a.tmps[t]? = (putL nv (depOf deps i) (A i)).tmps[t]? := by
 obtain ⟨h1, h2, h3⟩ := acts_reg hch hstep i (Nat.le_of_lt hi)
 rw [hA0] at h1 h2 h3
 obtain ⟨nv, lo, hi', r1, r2, r3, _⟩ := inv.regs
 obtain ⟨_, _, _, _, _, hlk⟩ := chk2_parts hc2
 obtain ⟨k1, k2⟩ := hlk i o hi ho
 refine ⟨nv, lo, hi', fun p hp => ?_, fun t ht => ?_⟩
 · obtain ⟨q1, q2, q3, q4⟩ := k2 p hp
   exact (r3 p.1 q2 (listed_of_bef hch inv.closed i o ho hr p.1 q3 (dst_lt q4))).1
 · rcases Nat.lt_or_ge t a0.tmps.size with hlt | hge
   · obtain ⟨g1, g2⟩ := putL_get hch nv (depOf deps i) (A i) (fun p hp => (k2 p hp).2.2.2) t (by rw [h2]; exact hlt)
     by_cases hex : ∃ j, dstOf ops j = some t
     · obtain ⟨j, hj⟩ := hex
       cases hnj : news.contains j
       · rw [g2 (fun j' hj' => by
           obtain ⟨_, q2, _, q4⟩ := k2 _ hj'
           rw [uniq hch q4 hj, hnj] at q2; cases q2)]
         rcases ((chk_pair hch ho (dst_lt hj)).2 t hj).2 ht with ⟨hji, hb⟩ | ⟨hij, hb⟩
         · have hl := listed_of_bef hch inv.closed i o ho hr j hb (dst_lt hj)
           rw [r1 t hlt j hj hl, (h3 t hlt).1 j hji hnj hj, hnj]; rfl
         · have hl : lst listed j = false := by
             cases hlj : lst listed j
             · rfl
             · obtain ⟨oj, hoj⟩ : ∃ oj, ops[j]? = some oj := ⟨ops[j]'(dst_lt hj), Array.getElem?_eq_getElem _⟩
               have := listed_of_bef hch inv.closed j oj hoj (fun e he hbb => inv.closed j oj hoj hlj e he hbb) i hb (Array.getElem?_eq_some_iff.1 ho).1
               rw [hun] at this; cases this
           rw [r2 t hlt (fun j' hj' => by rw [uniq hch hj' hj]; exact hl), (h3 t hlt).2 (fun j' hj' _ hd => by rw [uniq hch hd hj] at hj'; omega)]
       · have hdp := k1 j t hnj hj ht
         obtain ⟨_, _, q3, _⟩ := k2 _ hdp
         have hl := listed_of_bef hch inv.closed i o ho hr j q3 (dst_lt hj)
         rw [r1 t hlt j hj hl, hnj, g1 j hdp]; rfl
     · rw [g2 (fun j' hj' => hex ⟨j', (k2 _ hj').2.2.2⟩), r2 t hlt (fun j hj => absurd ⟨j, hj⟩ hex), (h3 t hlt).2 (fun j _ _ hd => hex ⟨j, hd⟩)]
   · rw [Array.getElem?_eq_none (by rw [inv.sz]; exact hge), Array.getElem?_eq_none (by rw [putL_size, h2]; exact hge)]
variable {Q' : Act → World → Prop}
theorem inv2_start (hch : chk1 ops B = true) (hc2 : chk2 ops B m late news deps = true) {A : Nat → Act} (hA0 : A 0 = a0)
   (hstep : ∀ i, i < m → (news.contains i = true → A (i + 1) = A i) ∧ (news.contains i = false → A (i + 1) = (A i).put (dstOf ops i) (v i)))
   (inv : Inv1 ops W m news a0 v N listed a w) (hall : ∀ j, j < m → late.contains j = false → lst listed j = true)
   (H : EndN W w (fun a' => Walk2 P ops Q' (ops.toList.drop m) a' w) (newsL ops news N m 0) [] (A m)) : Inv2 P ops Q' m late news a0 v m listed a w := by
 obtain ⟨hmn, hnm, hlp, _, _, _⟩ := chk2_parts hc2
 have hln : ∀ j, late.contains j = true → news.contains j = false := fun j hj => (hlp j hj).1
 have hnl : ∀ j, news.contains j = true → lst listed j = true := fun j hj => by
   refine hall j (hnm j hj) ?_
   cases h : late.contains j
   · rfl
   · rw [hln j h] at hj; cases hj
 obtain ⟨nv, lo, hi', r1, r2, r3, r4⟩ := inv.regs
 have hk := endN_inst (nv := nv) (lo := lo) (hi := hi') (fun i j hij hi hj => r4 i j hij hi hj (hnl i hi) (hnl j hj)) m 0 [] (A m) (fun j _ _ hj => r3 j hj (hnl j hj)) (fun _ _ _ _ p hp => by cases hp) H
 obtain ⟨g1, g2, g3⟩ := acts_reg hch hstep m (Nat.le_refl _)
 rw [hA0] at g1 g2 g3
 obtain ⟨f1, f2, f3⟩ := putNews_reg hch (news := news) (nv := nv) m 0 (A m)
 refine ⟨inv.size, inv.closed, Nat.le_refl _, hmn, fun i h1 h2 => by omega, inv.later, hall, inv.dfs, inv.sz, putNews ops news nv m 0 (A m), hk, by rw [f1, g1], by rw [f2, g2], fun t ht => ?_⟩
 obtain ⟨f4, f5⟩ := f3 t (by rw [g2]; exact ht)
 obtain ⟨g4, g5⟩ := g3 t ht
 have hfix : ∀ j, j < m → news.contains j = false → dstOf ops j = some t → (putNews ops news nv m 0 (A m)).tmps[t]? = some (v j) := fun j hj hnj hd => by
   rw [f5 (fun j' _ _ hn' hd' => by have := uniq hch hd' hd; rw [this, hnj] at hn'; cases hn'), g4 j hj hnj hd]
 have hnone : (∀ j, j < m → dstOf ops j ≠ some t) → (putNews ops news nv m 0 (A m)).tmps[t]? = a0.tmps[t]? := fun hno => by
   rw [f5 (fun j' _ h2 _ => hno j' (by omega)), g5 fun j hj _ => hno j hj]
 refine ⟨fun j hj hl hun hd => ?_, fun hno => ?_, hfix, hnone⟩
 · exact r2 t ht fun j' hj' => by rw [uniq hch hj' hd]; exact hun
 · by_cases hex : ∃ j, j < m ∧ dstOf ops j = some t
   · obtain ⟨j, hj, hd⟩ := hex
     have hl : lst listed j = true := by
       cases h : late.contains j
       · exact hall j hj h
       · cases h2 : lst listed j
         · exact absurd hd (hno j hj h h2)
         · rfl
     rw [r1 t ht j hd hl]
     cases hnj : news.contains j
     · rw [hfix j hj hnj hd]; rfl
     · rw [f4 j (by omega) (by omega) hnj hd]; rfl
   · rw [hnone (fun j hj hd => hex ⟨j, hj, hd⟩)]
     refine r2 t ht fun j hd => ?_
     exact inv.later j (by
       rcases Nat.lt_or_ge j m with h | h
       · exact absurd ⟨j, h, hd⟩ hex
       · exact h)
theorem inv2_late (hch : chk1 ops B = true) (hc2 : chk2 ops B m late news deps = true) {p : Nat} (inv : Inv2 P ops Q' m late news a0 v p listed a w) {i : Nat} {o : Oper} (hi : i < m) (hl : late.contains i = true) (ho : ops[i]? = some o)
   (hr : ∀ e ∈ o.after, Region.binds .any e = true → lst listed e.on = true) : Inv2 P ops Q' m late news a0 v p (listed.setIfInBounds i true) (a.put o.dst (v i)) w := by
 have hin : i < listed.size := by rw [inv.size]; exact (Array.getElem?_eq_some_iff.1 ho).1
 have hd : dstOf ops i = o.dst := by simp [dstOf, ho]
 have hln : news.contains i = false := ((chk2_parts hc2).2.2.1 i hl).1
 obtain ⟨A, h1, h2, h3, h4⟩ := inv.ideal
 have up : ∀ j, lst listed j = true → lst (listed.setIfInBounds i true) j = true := fun j h => by rw [lst_set hin]; split <;> simp [h]
 refine ⟨by simp [inv.size], closed_set hin ho inv.closed hr, inv.mp, inv.pn, fun k hk1 hk2 => up k (inv.done k hk1 hk2), fun k hk => ?_, fun j hj1 hj2 => up j (inv.head j hj1 hj2), by rw [put_defers, inv.dfs], by rw [put_size, inv.sz],
   A, h1, h2, h3, fun t ht => ?_⟩
 · rw [lst_set hin, if_neg (by have := inv.mp; omega)]; exact inv.todo k hk
 · obtain ⟨c1, c2, c3, c4⟩ := h4 t ht
   rw [put_get _ _ _ _ (by rw [inv.sz]; exact ht)]
   refine ⟨fun j hj hlj hun hdj => ?_, fun hno => ?_, c3, c4⟩
   · rw [lst_set hin] at hun
     by_cases hij : i = j
     · subst hij; simp at hun
     · rw [if_neg hij] at hun
       rw [if_neg (fun e => hij (uniq hch (by rw [hd]; exact e) hdj))]
       exact c1 j hj hlj hun hdj
   · by_cases hdi : o.dst = some t
     · rw [if_pos hdi, c3 i hi hln (by rw [hd]; exact hdi)]
     · rw [if_neg hdi]
       refine c2 fun j hj hlj hun hdj => ?_
       by_cases hij : i = j
       · subst hij; exact hdi (by rw [← hd]; exact hdj)
       · exact hno j hj hlj (by rw [lst_set hin, if_neg hij]; exact hun) hdj
theorem sched_any (hch : chk1 ops B = true) (hc2 : chk2 ops B m late news deps = true) (hsel : Region.noSelect ops = true) {Q : Exit → Act → World → Prop} {A : Nat → Act} (hA0 : A 0 = a0)
   (hstep : ∀ i, i < m → (news.contains i = true → A (i + 1) = A i ∧ NewOK P ops W N deps i (A i)) ∧ (news.contains i = false → A (i + 1) = (A i).put (dstOf ops i) (v i) ∧ FixOK P ops W late N deps i (A i) (v i)))
   (hend : ∀ w', Gr W w' → EndN W w' (fun a' => Walk2 P ops (Q .normal) (ops.toList.drop m) a' w') (newsL ops news N m 0) [] (A m)) :
   ∀ (fuel : Nat) (listed : Array Bool) (a : Act) (w : World), cnt listed ops.size = fuel → (Inv1 ops W m news a0 v N listed a w ∨ ∃ p, Inv2 P ops (Q .normal) m late news a0 v p listed a w) → wpAny P .any ops Q fuel listed a w := by
 have hst1 : ∀ i, i < m → (news.contains i = true → A (i + 1) = A i) ∧ (news.contains i = false → A (i + 1) = (A i).put (dstOf ops i) (v i)) := fun i hi => ⟨fun h => ((hstep i hi).1 h).1, fun h => ((hstep i hi).2 h).1⟩
 obtain ⟨hmn, hnm, hlp, hcm, hchain', hlk⟩ := chk2_parts hc2
 have hstable : ∀ j, news.contains j = true → Stable (N j) := fun j hj => by
   obtain ⟨_, _, _, h, _⟩ := (hstep j (hnm j hj)).1 hj
   exact h
 -- at the end
 have fin : ∀ (listed : Array Bool) (a : Act) (w : World), (∀ i, i < ops.size → lst listed i = true) → (Inv1 ops W m news a0 v N listed a w ∨ ∃ p, Inv2 P ops (Q .normal) m late news a0 v p listed a w) → Q .normal a w := by
   intro listed a w hall inv
   have h2 : ∃ p, Inv2 P ops (Q .normal) m late news a0 v p listed a w := by
     rcases inv with inv | h
     · have hm : m = ops.size := by
         rcases Nat.lt_or_ge m ops.size with h | h
         · have := inv.later m (Nat.le_refl _); rw [hall m h] at this; cases this
         · omega
       exact ⟨m, inv2_start hch hc2 hA0 hst1 inv (fun j hj _ => hall j (by omega)) (hend w inv.gr)⟩
     · exact h
   obtain ⟨p, inv⟩ := h2
   have hp : p = ops.size := by
     rcases Nat.lt_or_ge p ops.size with h | h
     · have := inv.todo p (Nat.le_refl _); rw [hall p h] at this; cases this
     · have := inv.pn; omega
   obtain ⟨A', h1, h2, h3, h4⟩ := inv.ideal
   rw [List.drop_eq_nil_of_le (by rw [hp]; simp)] at h1
   have e : a = A' := by
     have ht : a.tmps = A'.tmps := by
       apply Array.ext_getElem?
       intro t
       rcases Nat.lt_or_ge t a0.tmps.size with h | h
       · exact (h4 t h).2.1 fun j hj _ hun _ => by rw [hall j (by omega)] at hun; cases hun
       · rw [Array.getElem?_eq_none (by rw [inv.sz]; exact h), Array.getElem?_eq_none (by rw [h3]; exact h)]
     have hd : a.defers = A'.defers := by rw [inv.dfs, h2]
     cases a; cases A'; simp_all
   rw [e]; exact h1
 -- one operation of the chain
 have chain : ∀ (fuel : Nat) (listed : Array Bool) (a : Act) (w : World) (p : Nat) (o : Oper), (∀ a' w', (∃ q, Inv2 P ops (Q .normal) m late news a0 v q (listed.setIfInBounds p true) a' w') → wpAny P .any ops Q fuel (listed.setIfInBounds p true) a' w') →
     Inv2 P ops (Q .normal) m late news a0 v p listed a w → ops[p]? = some o → (∀ e ∈ o.after, Region.binds .any e = true → lst listed e.on = true) → wpOp P ops Q p (wpAny P .any ops Q fuel (listed.setIfInBounds p true)) a w := by
   intro fuel listed a w p o ih inv ho hr
   obtain ⟨A', h1, h2, h3, h4⟩ := inv.ideal
   have hpn := (Array.getElem?_eq_some_iff.1 ho).1
   have hdrop : ops.toList.drop p = o :: ops.toList.drop (p + 1) := by
     rw [List.drop_eq_getElem_cons (by simpa using hpn)]
     congr 1
     have := (Array.getElem?_eq_some_iff.1 ho).2
     simpa using this
   rw [hdrop] at h1
   have look := look_same (ops := ops) (o := o) (a := a) (a' := A') (fun cs b => Region.noSelect_spec hsel p o cs b ho) (fun t ht => by
     rcases Nat.lt_or_ge t a0.tmps.size with h | h
     · refine (h4 t h).2.1 fun j hj _ hun hd => ?_
       rcases ((chk_pair hch ho (dst_lt hd)).2 t hd).2 ht with ⟨_, hb⟩ | ⟨h5, _⟩
       · have := listed_of_bef hch inv.closed p o ho hr j hb (dst_lt hd)
         rw [hun] at this; cases this
       · have := inv.mp; omega
     · rw [Array.getElem?_eq_none (by rw [inv.sz]; exact h), Array.getElem?_eq_none (by rw [h3]; exact h)])
   unfold wpOp
   rw [ho]
   simp only
   rw [look.2]
   unfold Walk2 at h1
   by_cases hw : Region.wanted o (yielded ops A'.tmps) = true
   · rw [if_pos hw] at h1 ⊢
     exact .inl (tq_wp look.1 h1 fun x w' hK => ih _ _ ⟨p + 1, inv2_next hch inv ho hr hK h2 h3 h4⟩)
   · rw [if_neg hw] at h1 ⊢
     exact ih _ _ ⟨p + 1, inv2_next hch inv ho hr h1 h2 h3 h4⟩
 intro fuel
 induction fuel with
 | zero =>
   intro listed a w hc inv
   have hall := cnt_zero ops.size hc
   refine ⟨?_, fin listed a w hall inv⟩
   rw [List.eq_nil_iff_forall_not_mem]
   intro i hi
   obtain ⟨h0, o, ho, _⟩ := mem_ready.1 hi
   have hin := (Array.getElem?_eq_some_iff.1 ho).1
   have hs : listed.size = ops.size := by rcases inv with inv | ⟨_, inv⟩ <;> exact inv.size
   have h1 := hall i hin
   unfold lst at h1
   have hsz : i < listed.size := by omega
   simp only [Array.getD_eq_getD_getElem?, Array.getElem?_eq_getElem hsz, Option.getD_some] at h0 h1
   rw [h1] at h0; cases h0
 | succ fuel ih =>
   intro listed a w hc inv
   have hs : listed.size = ops.size := by rcases inv with inv | ⟨_, inv⟩ <;> exact inv.size
   refine ⟨fun h => fin listed a w (all_of_ready hch hs h) inv, fun i hi => ?_⟩
   obtain ⟨h0, o, ho, hr⟩ := mem_ready.1 hi
   have hin := (Array.getElem?_eq_some_iff.1 ho).1
   have hun : lst listed i = false := by
     have hsz : i < listed.size := by omega
     unfold lst
     simp only [Array.getD_eq_getD_getElem?, Array.getElem?_eq_getElem hsz, Option.getD_some] at h0 ⊢
     exact h0
   have hcnt : cnt (listed.setIfInBounds i true) ops.size = fuel := by
     have := cnt_set (listed := listed) (by omega) hun ops.size
     rw [if_pos hin] at this; omega
   have ih2 : ∀ a' w', (∃ q, Inv2 P ops (Q .normal) m late news a0 v q (listed.setIfInBounds i true) a' w') → wpAny P .any ops Q fuel (listed.setIfInBounds i true) a' w' := fun a' w' h => ih _ _ _ hcnt (.inr h)
   rcases inv with inv | ⟨p, inv⟩
   · rcases Nat.lt_or_ge i m with him | him
     · obtain ⟨nv, lo, hi', hdn, hl⟩ := look1 hch hc2 hA0 hst1 inv him ho hr hun
       have look := look_same (ops := ops) (o := o) (a := a) (a' := putL nv (depOf deps i) (A i)) (fun cs b => Region.noSelect_spec hsel i o cs b ho) hl
       have hd : dstOf ops i = o.dst := by simp [dstOf, ho]
       unfold wpOp
       rw [ho]
       simp only
       rw [look.2]
       cases hn : news.contains i
       · obtain ⟨_, o', ho', hfix⟩ := (hstep i him).2 hn
         rw [ho] at ho'; cases ho'
         rcases hfix with hq | ⟨hw, hv⟩
         · obtain ⟨hw, hq⟩ := depN_inst _ _ hdn (hq w (.inr inv.gr))
           rw [if_pos hw]
           exact .inl (gq_wp look.1 hq fun w' hg => ih _ _ _ hcnt (.inl (inv1_fix hch hstable inv him ho hr hn hg)))
         · have hw := depN_inst _ _ hdn (hw w (.inr inv.gr))
           rw [if_neg (by rw [hw]; simp), ← hv]
           exact ih _ _ _ hcnt (.inl (inv1_fix hch hstable inv him ho hr hn (Gr.refl w)))
       · obtain ⟨_, o', ho', _, hq⟩ := (hstep i him).1 hn
         rw [ho] at ho'; cases ho'
         obtain ⟨hw, hq⟩ := depN_inst _ _ hdn (hq w inv.gr)
         rw [if_pos hw]
         exact .inl (nq_wp look.1 hq fun x w' hg hN => ih _ _ _ hcnt (.inl (inv1_new hch hstable inv him ho hr hun hn hg hN)))
     · have him2 : i = m := by
         rcases hchain' i hin with h | h
         · omega
         · by_cases hne : i = m
           · exact hne
           · have := listed_of_bef hch inv.closed i o ho hr (i - 1) h (by omega)
             rw [inv.later (i - 1) (by omega)] at this; cases this
       subst him2
       have hall : ∀ j, j < i → late.contains j = false → lst listed j = true := fun j hj hlj => by
         rcases hcm with h | h
         · omega
         · rcases h j hj with h | h
           · rw [hlj] at h; cases h
           · exact listed_of_bef hch inv.closed i o ho hr j h (by omega)
       exact chain fuel listed a w i o ih2 (inv2_start hch hc2 hA0 hst1 inv hall (hend w inv.gr)) ho hr
   · rcases Nat.lt_or_ge i m with him | him
     · have hl : late.contains i = true := by
         cases h : late.contains i
         · rw [inv.head i him h] at hun; cases hun
         · rfl
       obtain ⟨hn, hdep⟩ := hlp i hl
       have hd : dstOf ops i = o.dst := by simp [dstOf, ho]
       obtain ⟨A', h1, h2, h3, h4⟩ := inv.ideal
       obtain ⟨g1, g2, g3⟩ := acts_reg hch hst1 i (Nat.le_of_lt him)
       rw [hA0] at g1 g2 g3
       have hl1 : ∀ t ∈ o.looksAt ops, a.tmps[t]? = (A i).tmps[t]? := by
         intro t ht
         rcases Nat.lt_or_ge t a0.tmps.size with h | h
         · obtain ⟨c1, c2, c3, c4⟩ := h4 t h
           by_cases hex : ∃ j, dstOf ops j = some t
           · obtain ⟨j, hj⟩ := hex
             rcases ((chk_pair hch ho (dst_lt hj)).2 t hj).2 ht with ⟨hji, hb⟩ | ⟨hij, hb⟩
             · have hlj := listed_of_bef hch inv.closed i o ho hr j hb (dst_lt hj)
               have hnj : news.contains j = false := by
                 cases hnj : news.contains j
                 · rfl
                 · have h5 := (hlk i o him ho).1 j t hnj hj ht
                   rw [hdep] at h5; cases h5
               rw [c2 (fun j' _ _ hun' hd' => by rw [uniq hch hd' hj, hlj] at hun'; cases hun'), c3 j (by omega) hnj hj, (g3 t h).1 j hji hnj hj]
             · have hlj : lst listed j = false := by
                 cases hlj : lst listed j
                 · rfl
                 · obtain ⟨oj, hoj⟩ : ∃ oj, ops[j]? = some oj := ⟨ops[j]'(dst_lt hj), Array.getElem?_eq_getElem _⟩
                   have := listed_of_bef hch inv.closed j oj hoj (fun e he hbb => inv.closed j oj hoj hlj e he hbb) i hb hin
                   rw [hun] at this; cases this
               have hA : (A i).tmps[t]? = a0.tmps[t]? := (g3 t h).2 fun j' hj' _ hd' => by rw [uniq hch hd' hj] at hj'; omega
               rw [hA]
               rcases Nat.lt_or_ge j m with hjm | hjm
               · have hlate2 : late.contains j = true := by
                   cases h6 : late.contains j
                   · rw [inv.head j hjm h6] at hlj; cases hlj
                   · rfl
                 exact c1 j hjm hlate2 hlj hj
               · have hjp : p ≤ j := by
                   rcases Nat.lt_or_ge j p with h6 | h6
                   · rw [inv.done j hjm h6] at hlj; cases hlj
                   · exact h6
                 rw [c2 (fun j' hj' _ _ hd' => by have := uniq hch hd' hj; omega), c4 fun j' hj' hd' => by have := uniq hch hd' hj; omega]
           · rw [c2 (fun j' _ _ _ hd' => hex ⟨j', hd'⟩), c4 (fun j' _ hd' => hex ⟨j', hd'⟩), (g3 t h).2 fun j' _ _ hd' => hex ⟨j', hd'⟩]
         · rw [Array.getElem?_eq_none (by rw [inv.sz]; exact h), Array.getElem?_eq_none (by rw [g2]; exact h)]
       have look := look_same (ops := ops) (o := o) (a := a) (a' := A i) (fun cs b => Region.noSelect_spec hsel i o cs b ho) hl1
       obtain ⟨_, o', ho', hfix⟩ := (hstep i him).2 hn
       rw [ho] at ho'; cases ho'
       unfold wpOp
       rw [ho]
       simp only
       rw [look.2]
       rcases hfix with hq | ⟨hw, hv⟩
       · have hq1 := hq w (.inl hl)
         rw [hdep] at hq1
         obtain ⟨hw, hq'⟩ := hq1
         rw [if_pos hw]
         rw [hl] at hq'
         exact .inl (gq_late look.1 hq' (ih2 _ _ ⟨p, inv2_late hch hc2 inv him hl ho hr⟩))
       · have hw1 := hw w (.inl hl)
         rw [hdep] at hw1
         have hw2 : Region.wanted o (yielded ops (A i).tmps) = false := hw1
         rw [if_neg (by rw [hw2]; simp), ← hv]
         exact ih2 _ _ ⟨p, inv2_late hch hc2 inv him hl ho hr⟩
     · have hip : i = p := by
         rcases Nat.lt_or_ge i p with h | h
         · rw [inv.done i him h] at hun; cases hun
         · by_cases hne : i = p
           · exact hne
           · have hmp := inv.mp
             rcases hchain' i hin with h5 | h5
             · omega
             · have := listed_of_bef hch inv.closed i o ho hr (i - 1) h5 (by omega)
               rw [inv.todo (i - 1) (by omega)] at this; cases this
       subst hip
       exact chain fuel listed a w i o ih2 inv ho hr
end
variable {Q : Act → List (Option Tmp × NPred) → Prop} {o : Oper} {r : List Oper} {k : Nat} {a : Act} {L : List (Option Tmp × NPred)}
theorem walk1_nil (h : Q a L) : Walk1 P ops W late news N deps Q [] k a L := h
theorem walk1_no (hn : news.contains k = false) (hd : depOf deps k = []) (hw : Region.wanted o (yielded ops a.tmps) = false)
   (h : ∀ K : Act → Prop, (∀ a', Walk1 P ops W late news N deps Q r (k + 1) a' L → K a') → K (a.put o.dst undef)) : Walk1 P ops W late news N deps Q (o :: r) k a L := by
 have h := h _ (fun _ h => h)
 unfold Walk1; rw [if_neg (by rw [hn]; simp), hd]; exact .inr ⟨fun _ _ => hw, h⟩
theorem walk1_gr (hn : news.contains k = false) (hl : late.contains k = false) (hd : depOf deps k = []) (hw : Region.wanted o (yielded ops a.tmps) = true)
   (h : ∀ K : Act → Prop, (∀ a', Walk1 P ops W late news N deps Q r (k + 1) a' L → K a') → ∃ v, (∀ w, Gr W w → gq P o a w v false) ∧ K (a.put o.dst v)) : Walk1 P ops W late news N deps Q (o :: r) k a L := by
 obtain ⟨v, hq, h⟩ := h _ (fun _ h => h)
 unfold Walk1; rw [if_neg (by rw [hn]; simp), hd]; exact .inl ⟨v, fun w hw' => ⟨hw, by rw [hl]; exact hq w (hw'.resolve_left (by rw [hl]; simp))⟩, h⟩
theorem walk1_pure (hn : news.contains k = false) (hl : late.contains k = true) (hd : depOf deps k = []) (hw : Region.wanted o (yielded ops a.tmps) = true)
   (h : ∀ K : Act → Prop, (∀ a', Walk1 P ops W late news N deps Q r (k + 1) a' L → K a') → ∃ v, (∀ w, gq P o a w v true) ∧ K (a.put o.dst v)) : Walk1 P ops W late news N deps Q (o :: r) k a L := by
 obtain ⟨v, hq, h⟩ := h _ (fun _ h => h)
 unfold Walk1; rw [if_neg (by rw [hn]; simp), hd]; exact .inl ⟨v, fun w _ => ⟨hw, by rw [hl]; exact hq w⟩, h⟩
theorem walk1_dep (v : Value) (hn : news.contains k = false) (hl : late.contains k = false)
   (hq : ∀ w, Gr W w → DepN N w (fun a' => Region.wanted o (yielded ops a'.tmps) = true ∧ gq P o a' w v false) (depOf deps k) a)
   (h : Walk1 P ops W late news N deps Q r (k + 1) (a.put o.dst v) L) : Walk1 P ops W late news N deps Q (o :: r) k a L := by
 unfold Walk1; rw [if_neg (by rw [hn]; simp)]; exact .inl ⟨v, fun w hw' => by rw [hl]; exact hq w (hw'.resolve_left (by rw [hl]; simp)), h⟩
theorem walk1_new (hn : news.contains k = true) (hs : Stable (N k))
   (hq : ∀ w, Gr W w → DepN N w (fun a' => Region.wanted o (yielded ops a'.tmps) = true ∧ nq P o a' w (N k)) (depOf deps k) a)
   (h : Walk1 P ops W late news N deps Q r (k + 1) a (L ++ [(o.dst, N k)])) : Walk1 P ops W late news N deps Q (o :: r) k a L := by
 unfold Walk1; rw [if_pos hn]; exact ⟨hs, hq, h⟩
theorem walk1_new0 (N' : NPred) (hn : news.contains k = true) (hN : N k = N') (hd : depOf deps k = []) (hw : Region.wanted o (yielded ops a.tmps) = true) (hs : Stable N') (hq : ∀ w, Gr W w → nq P o a w N')
   (h : Walk1 P ops W late news N deps Q r (k + 1) a (L ++ [(o.dst, N')])) : Walk1 P ops W late news N deps Q (o :: r) k a L := by
 subst hN
 refine walk1_new hn hs (fun w hw' => ?_) h
 rw [hd]; exact ⟨hw, hq w hw'⟩
theorem walk1_new1 (N' N1 : NPred) (k1 : Nat) (t1 : Tmp) (hn : news.contains k = true) (hN : N k = N') (hd : depOf deps k = [(k1, t1)]) (h1 : N k1 = N1) (hs : Stable N')
   (hq : ∀ w, Gr W w → ∀ lo1 hi1 u1, N1 lo1 hi1 u1 w → Region.wanted o (yielded ops (a.put (some t1) u1).tmps) = true ∧ nq P o (a.put (some t1) u1) w N')
   (h : Walk1 P ops W late news N deps Q r (k + 1) a (L ++ [(o.dst, N')])) : Walk1 P ops W late news N deps Q (o :: r) k a L := by
 subst hN
 subst h1
 refine walk1_new hn hs (fun w hw' => ?_) h
 rw [hd]; exact fun lo hi u hu => hq w hw' lo hi u hu
theorem walk1_dep1 (v : Value) (N1 : NPred) (k1 : Nat) (t1 : Tmp) (hn : news.contains k = false) (hl : late.contains k = false) (hd : depOf deps k = [(k1, t1)]) (h1 : N k1 = N1)
   (hq : ∀ w, Gr W w → ∀ lo1 hi1 u1, N1 lo1 hi1 u1 w → Region.wanted o (yielded ops (a.put (some t1) u1).tmps) = true ∧ gq P o (a.put (some t1) u1) w v false)
   (h : Walk1 P ops W late news N deps Q r (k + 1) (a.put o.dst v) L) : Walk1 P ops W late news N deps Q (o :: r) k a L := by
 subst h1
 refine walk1_dep v hn hl (fun w hw' => ?_) h
 rw [hd]; exact fun lo hi u hu => hq w hw' lo hi u hu
theorem wp_region_schedd {id : Nat} {Q : Exit → Act → World → Prop} {a : Act} {W : World} {l : List Oper} (m : Nat) (late news : List Nat) (N : Nat → NPred) (deps : List (Nat × List (Nat × Tmp))) (hm : P.follows .mixedOrders = true)
   (hchk : (Region.noSelect l.toArray && chk1 l.toArray (Region.before l.toArray) && chk2 l.toArray (Region.before l.toArray) m late news deps) = true)
   (h : Walk1 P l.toArray W late news N deps (fun a' L => ∀ w', Gr W w' → EndN W w' (fun a'' => Walk2 P l.toArray (Q .normal) (l.drop m) a'' w') L [] a') (l.take m) 0 a []) :
   (Code.region id l.toArray true).wp P Q a W := by
 simp only [Bool.and_eq_true] at hchk
 obtain ⟨⟨hsel, hch⟩, hc2⟩ := hchk
 have hmn : m ≤ l.length := by
   have := (chk2_parts hc2).1
   simpa using this
 have hlen : (l.take m).length = m := by simp; omega
 obtain ⟨A, v, hA0, hstep, hend⟩ := walk1_ext (l.take m) 0 a [] (fun j hj => by
   rw [hlen] at hj
   simp [hj]) h
 rw [hlen] at hstep hend
 refine wp_region_any hm (sched_any hch hc2 hsel (A := A) (v := v) (N := N) hA0 (fun i hi => hstep i (Nat.zero_le _) (by omega)) (fun w' hw' => ?_) _ _ _ _ ?_ (.inl ?_))
 · simpa using hend w' hw'
 · have : ∀ k, k ≤ l.toArray.size → cnt (Array.replicate l.toArray.size false) k = k := by
     intro k
     induction k with
     | zero => intro _; rfl
     | succ k ih =>
       intro hk
       have e : lst (Array.replicate l.toArray.size false) k = false := by
         unfold lst; simp only [Array.getD_eq_getD_getElem?]; rw [Array.getElem?_eq_getElem (by simp only [Array.size_replicate]; omega)]; simp
       simp only [cnt, e, ih (by omega)]; simp
   exact this _ (Nat.le_refl _)
 · have e : ∀ k, lst (Array.replicate l.toArray.size false) k = false := by
     intro k
     unfold lst
     simp only [Array.getD_eq_getD_getElem?, Array.getElem?_replicate]
     split <;> rfl
   have no : ∀ {k : Nat} {p : Prop}, lst (Array.replicate l.toArray.size false) k = true → p := fun {k p} h => by rw [e k] at h; cases h
   exact ⟨by simp, fun i o ho hl => no hl, fun i _ => e i, ⟨rfl, rfl, rfl, Nat.le_refl _, fun _ _ _ => rfl⟩, rfl, rfl,
     fun _ => undef, fun _ => 0, fun _ => 0, fun t ht j hj hl => no hl, fun t ht _ => rfl, fun j hj hl => no hl, fun i j _ _ _ hl _ => no hl⟩
end SchedD
end Go.Proofs.YtlnkofpcidngoaaDoor
namespace Go.Proofs.YtlnkofpcidngoaaDoor
open Go.ChangeShapes Go.WideShapes Go.ChangeAt Go.RowKit
open Crc
theorem sum_is {kind v e0 : Int} {xs : List Int} (hv : sumV kind xs = v) (he : sumE kind = e0) (a : Option Addr) (len cap : Nat) (w : World) (hl : LaidIn w) (hk : i64 kind) (hr : Rd .u8 w a len xs) :
   Calls Tryd.prog 53 #[.int .i64 kind, .slice a len cap] w fun e w' => e = .returned (.tuple #[.int .i64 v, .int .i64 e0]) ∧ Gr w w' := by
 subst hv he; exact csum_any kind a len cap xs w hl hk hr
theorem rsum_is {kind v e0 : Int} {xs : List Int} (hv : sumV kind xs = v) (he : sumE kind = e0) (a : Option Addr) (len cap : Nat) (w : World) (hr : Rd .u8 w a len xs) :
   Calls Tryd.prog 52 #[.int .i64 kind, .slice a len cap] w fun e w' => e = .returned (.tuple #[.int .i64 v, .int .i64 e0]) ∧ Gr w w' := by
 subst hv he; exact rcsum_any kind a len cap xs w hr
theorem laid_gr {w w' : World} (h : LaidIn w) (hg : Gr w w') : LaidIn w' := by
 obtain ⟨bm, h1, h2⟩ := h
 exact ⟨bm, hg.cell h1, fun u hu => h2 u (hg.trans hu)⟩
theorem crc_rng {kind : Int} (hk : isKind kind) (xs : List Int) : 0 ≤ sumV kind xs ∧ sumV kind xs < 2 ^ kind.toNat := by
 have e : sumV kind xs = (regN kind (Crc.top kind) xs : Nat) := by unfold sumV; rw [if_pos hk]
 have h : regN kind (Crc.top kind) xs < 2 ^ kind.toNat := feed_lt (kind_of hk).lt (bitsI xs) (Crc.top kind) (by rcases hk with rfl | rfl | rfl | rfl | rfl <;> decide)
 rw [e]
 exact ⟨Int.natCast_nonneg _, by exact_mod_cast h⟩
theorem sum8_rng (xs : List Int) : 0 ≤ sumV 8 xs ∧ sumV 8 xs ≤ 255 := by
 have := crc_rng (kind := 8) (by decide) xs
 have h : (2 : Int) ^ (8 : Int).toNat = 256 := by decide
 omega
def encL (c k n : Int) : List Int := (if 0 < c then [224 + c] else []) ++ [240 + k, n / 256, n % 256]
def encF (c k n : Int) : List Int × Int := if fbB c k n then (encL c k n ++ [sumV 8 (encL c k n)], 0) else ([], 1)
def EncPost (F : List Int × Int) (w : World) (e : Ending) (w' : World) : Prop :=
 ∃ (a : Option Addr) (n cap : Nat), e = .returned (.tuple #[.slice a n cap, .int .i64 F.2]) ∧ OwnI w.heap.size 5 .u8 w' a n cap F.1 ∧ Gr w w'
theorem or224 : ∀ n : Fin 16, bits .or .i64 224 (n.val : Int) = 224 + (n.val : Int) := by decide +kernel
theorem or240 : ∀ n : Fin 3, bits .or .i64 240 (n.val : Int) = 240 + (n.val : Int) := by decide +kernel
theorem or_224 {c : Int} (h0 : 0 ≤ c) (h1 : c < 16) : bits .or .i64 224 c = 224 + c := by
 obtain ⟨m, rfl⟩ : ∃ m : Nat, c = m := ⟨c.toNat, by omega⟩
 exact or224 ⟨m, by omega⟩
theorem or_240 {c : Int} (h0 : 0 ≤ c) (h1 : c ≤ 2) : bits .or .i64 240 c = 240 + c := by
 obtain ⟨m, rfl⟩ : ∃ m : Nat, c = m := ⟨c.toNat, by omega⟩
 exact or240 ⟨m, by omega⟩
set_option maxRecDepth 100000 in
set_option maxHeartbeats 1000000 in
theorem encode_any (c k n : Int) (w : World) (hl : LaidIn w) : Calls Tryd.prog 23 #[FVal c k n] w (EncPost (encF c k n) w) := by
 obtain ⟨F, hF⟩ : ∃ F, encF c k n = F := ⟨_, rfl⟩
 rw [hF]
 obtain ⟨V, hV⟩ : ∃ V, fbB c k n = V := ⟨_, rfl⟩
 have HF := zqd hF
 have HV := zqd hV
 have HLA := zqd hl
 clear hF hV hl
 go_enter Tryd.func23, Tryd.ntmps23
 go_upto_region 1 with (fail)
 obtain ⟨w1, hw1⟩ : ∃ y, y = w.alloc (.cells #[.int .i64 c, .int .i64 k, .int .i64 n] 26) := ⟨_, rfl⟩
 have HB1 := zqd (show CBlk w.heap.size 26 [.int .i64 c, .int .i64 k, .int .i64 n] w1 by rw [hw1]; exact CBlk.new _ _ _)
 have HG1 := zqd (show Gr w w1 by rw [hw1]; exact Gr.alloc _ _)
 rw [← hw1]
 clear hw1
 have hb1 := HB1.out
 unfold CBlk at hb1
 have HB1' := zqd hb1
 clear hb1
 go_wp2_with (first | (refine wpList_load_row rfl 26 _ rfl w.heap.size rfl 26 _ _ _ HB1'.out Tryd.underlying26 rfl (by kernel_rfl) ?_))
 refine (fbvalid_is HV.out w1).mono ?_
 rintro e w2 ⟨rfl, hg2⟩
 have HB2 := zqd (HB1.out.kept hg2)
 have HG2 := zqd (HG1.out.trans hg2)
 clear hg2 HB1 HB1' HG1
 cases V
 · go_wp2_with fail
   go_ret2
   rw [← HF.out, encF, HV.out, if_neg (by decide)]
   exact ⟨none, 0, 0, rfl, OwnI.nil _ _ _ _, HG2.out⟩
 · obtain ⟨c1, c2, k1, k2, n1, n2⟩ := fb_yes HV.out
   have x0 : w2.cell? ⟨w.heap.size, 0, none⟩ = some (.int .i64 c) := HB2.out.at 0 rfl
   by_cases hc : 0 < c
   · have hor := or_224 c1 c2
     obtain ⟨a3, c3, w3, hrun3, ho3, hg3⟩ := lit8 (Gr.refl w2) (OwnI.nil w2.heap.size 5 .u8 w2) [224 + c] 1 rfl (by intro z hz; simp only [List.mem_singleton] at hz; subst hz; omega) (by omega) (by omega)
     (try simp only [List.map_cons, List.map_nil, List.nil_append] at hrun3 ho3)
     have HR3 := zqd hrun3
     have HO3 := zqd ho3
     have HG3 := zqd hg3
     have HB3 := zqd (show CBlk w.heap.size 26 [.int .i64 c, .int .i64 k, .int .i64 n] w3 from HB2.out.kept hg3)
     clear hrun3 ho3 hg3
     go_upto_region 6 with (at_builtin; refine wpList_app rfl _ _ _ rfl rfl rfl HR3.out ?_)
     clear x0
     have y1 : w3.cell? ⟨w.heap.size, 1, none⟩ = some (.int .i64 k) := HB3.out.at 1 rfl
     have y2 : w3.cell? ⟨w.heap.size, 2, none⟩ = some (.int .i64 n) := HB3.out.at 2 rfl
     obtain ⟨a4, c4, w4, hrun4, ho4, hg4⟩ := lit8 HG3.out HO3.out [240 + k, n / 256, n % 256] 3 rfl (by intro z hz; simp only [List.mem_cons, List.not_mem_nil, or_false] at hz; rcases hz with rfl | rfl | rfl <;> omega) (by omega) (by omega)
     (try simp only [List.map_cons, List.map_nil, Nat.zero_add] at hrun4)
     have HR4 := zqd hrun4
     have hxs : ([224 + c]) ++ [240 + k, n / 256, n % 256] = encL c k n := by unfold encL; rw [if_pos hc]
     rw [hxs] at ho4
     have HO4 := zqd ho4
     have HG4 := zqd hg4
     have hor2 := or_240 k1 k2
     clear hrun4 ho4 hg4 hxs
     go_upto_region 7 with (at_builtin; refine wpList_app rfl _ _ _ rfl rfl rfl HR4.out ?_)
     obtain ⟨S, hS⟩ : ∃ S, sumV 8 (encL c k n) = S := ⟨_, rfl⟩
     have hsr := sum8_rng (encL c k n)
     rw [hS] at hsr
     obtain ⟨s1, s2⟩ := hsr
     have HS := zqd hS
     have hem : S % 256 = S := by omega
     clear hS
     go_wp2_with fail
     refine (sum_is HS.out (show sumE 8 = 0 by decide) _ _ _ w4 (laid_gr HLA.out (HG2.out.trans HG4.out)) (by constructor <;> omega) HO4.out.rd).mono ?_
     rintro e w5 ⟨rfl, hg5⟩
     obtain ⟨a6, c6, w6, hrun6, ho6, hg6⟩ := lit8 (HG4.out.trans hg5) (HO4.out.stay hg5) [S] 1 rfl (by intro z hz; simp only [List.mem_singleton] at hz; subst hz; omega) (by omega) (by omega)
     simp only [List.map_cons, List.map_nil] at hrun6
     have HR6 := zqd hrun6
     have HO6 := zqd ho6
     have HG6 := zqd hg6
     clear hrun6 ho6 hg6 hg5
     go_wp2_with (at_builtin; refine wpList_app rfl _ _ _ rfl rfl rfl HR6.out ?_)
     go_ret2
     rw [← HF.out, encF, HV.out, if_pos rfl, HS.out]
     exact ⟨a6, _, c6, rfl, HO6.out.weak HG2.out.size, HG2.out.trans HG6.out⟩
   · have y1 : w2.cell? ⟨w.heap.size, 1, none⟩ = some (.int .i64 k) := HB2.out.at 1 rfl
     have y2 : w2.cell? ⟨w.heap.size, 2, none⟩ = some (.int .i64 n) := HB2.out.at 2 rfl
     obtain ⟨a4, c4, w4, hrun4, ho4, hg4⟩ := lit8 (Gr.refl w2) (OwnI.nil w2.heap.size 5 .u8 w2) [240 + k, n / 256, n % 256] 3 rfl (by intro z hz; simp only [List.mem_cons, List.not_mem_nil, or_false] at hz; rcases hz with rfl | rfl | rfl <;> omega) (by omega) (by omega)
     (try simp only [List.map_cons, List.map_nil, Nat.zero_add] at hrun4)
     have HR4 := zqd hrun4
     have hxs : ([] : List Int) ++ [240 + k, n / 256, n % 256] = encL c k n := by unfold encL; rw [if_neg hc]
     rw [hxs] at ho4
     have HO4 := zqd ho4
     have HG4 := zqd hg4
     have hor2 := or_240 k1 k2
     clear hrun4 ho4 hg4 hxs
     go_upto_region 7 with (at_builtin; refine wpList_app rfl _ _ _ rfl rfl rfl HR4.out ?_)
     obtain ⟨S, hS⟩ : ∃ S, sumV 8 (encL c k n) = S := ⟨_, rfl⟩
     have hsr := sum8_rng (encL c k n)
     rw [hS] at hsr
     obtain ⟨s1, s2⟩ := hsr
     have HS := zqd hS
     have hem : S % 256 = S := by omega
     clear hS
     go_wp2_with fail
     refine (sum_is HS.out (show sumE 8 = 0 by decide) _ _ _ w4 (laid_gr HLA.out (HG2.out.trans HG4.out)) (by constructor <;> omega) HO4.out.rd).mono ?_
     rintro e w5 ⟨rfl, hg5⟩
     obtain ⟨a6, c6, w6, hrun6, ho6, hg6⟩ := lit8 (HG4.out.trans hg5) (HO4.out.stay hg5) [S] 1 rfl (by intro z hz; simp only [List.mem_singleton] at hz; subst hz; omega) (by omega) (by omega)
     simp only [List.map_cons, List.map_nil] at hrun6
     have HR6 := zqd hrun6
     have HO6 := zqd ho6
     have HG6 := zqd hg6
     clear hrun6 ho6 hg6 hg5
     go_wp2_with (at_builtin; refine wpList_app rfl _ _ _ rfl rfl rfl HR6.out ?_)
     go_ret2
     rw [← HF.out, encF, HV.out, if_pos rfl, HS.out]
     exact ⟨a6, _, c6, rfl, HO6.out.weak HG2.out.size, HG2.out.trans HG6.out⟩
end Go.Proofs.YtlnkofpcidngoaaDoor
namespace Go.Proofs.YtlnkofpcidngoaaDoor
open Go.ChangeShapes Go.WideShapes Go.ChangeAt Go.RowKit
theorem OwnI.le_cap {B : Nat} {e : TypeId} {k : IntKind} {w : World} {a : Option Addr} {n cap : Nat} {xs : List Int} (h : OwnI B e k w a n cap xs) : n ≤ cap := by
 rcases h.row.2 with ⟨hv, h0⟩ | ⟨g, cap', cur, hv, _, _, hn, _⟩
 · omega
 · injection hv with _ _ e3; omega
def BytI (w0 : World) (a : Option Addr) (n cap : Nat) (xs : List Int) (wn : World) : Prop := OwnI w0.heap.size 5 .u8 wn a n cap xs ∧ Gr w0 wn
theorem BytI.turn {w0 wn w' : World} {a a' : Option Addr} {n n' cap cap' : Nat} {xs ys : List Int} (hI : BytI w0 a n cap xs wn) (ho : OwnI w0.heap.size 5 .u8 w' a' n' cap' ys) (hg : wn.grownBy w' (Value.slice a n cap).ownBlock) : BytI w0 a' n' cap' ys w' :=
 ⟨ho, grown_own hI.2 hI.1 (Nat.le_refl _) hg⟩
theorem BytI.gr {w0 wn w' : World} {a : Option Addr} {n cap : Nat} {xs : List Int} (hI : BytI w0 a n cap xs wn) (hg : Gr wn w') : BytI w0 a n cap xs w' := ⟨hI.1.stay hg, hI.2.trans hg⟩
theorem BytI.app {w0 wn : World} {a : Option Addr} {n cap : Nat} {xs : List Int} (hI : BytI w0 a n cap xs wn) (b : Option Addr) (m c : Nat) (ys : List Int) (N : Nat) (hN : N = n + m) (hr : Rd .u8 wn b m ys) (hm : n + m ≤ 140737488355328) :
   ∃ a' cap' w', (Builtin.append_ #[39, 39] 39 #[.slice a n cap, .slice b m c]).run Tryd.prog wn = .ok (.slice a' N cap') w' ∧ BytI w0 a' N cap' (xs ++ ys) w' := by
 subst hN
 obtain ⟨a', cap', w', h1, h2, h3, _⟩ := app_u8 _ wn a n cap xs hI.1 b m c ys hr hm hI.2.size
 exact ⟨a', cap', w', h1, hI.turn h2 h3⟩
set_option maxRecDepth 20000 in
set_option maxHeartbeats 2000000 in
theorem set_any (B g N C : Nat) (xs : List Int) (o : Nat) (O v : Int) (w : World) (hO : O = o) (hown : OwnI B 5 .u8 w (some ⟨g, 0, none⟩) N C xs) (h1 : o + 2 ≤ N) (h3 : N ≤ 100000) (h0 : 0 ≤ v) (hv : v ≤ 65535) :
   Calls Tryd.prog 83 #[.slice (some ⟨g, 0, none⟩) N C, .int .i64 O, .int .i64 v] w fun e w' => e = .returned (.tuple #[]) ∧ OwnI B 5 .u8 w' (some ⟨g, 0, none⟩) N C (setM xs o (putR v 2)) ∧ w.grownBy w' (some g) := by
 subst hO
 obtain ⟨c1, f1⟩ := hown.at o (by omega)
 have hs := hown.set o (v / 256) (WalkArith.wf_u8 (by omega))
 obtain ⟨c2, f2⟩ := hs.at (o + 1) (by omega)
 have hs2 := hs.set (o + 1) (v % 256) (WalkArith.wf_u8 (by omega))
 have e : setM xs o (putR v 2) = (xs.set o (v / 256)).set (o + 1) (v % 256) := by
   rw [putR2, show v / 256 % 256 = v / 256 by omega]; rfl
 rw [← e] at hs2
 have HS := zqd hs2
 have HG := zqd (grown_trans' (grown_setAt w g o (.int .u8 (v / 256))) (grown_setAt (w.setCell ⟨g, o, none⟩ (.int .u8 (v / 256))) g (o + 1) (.int .u8 (v % 256))))
 clear hs hs2 e hown
 go_enter Tryd.func83, Tryd.ntmps83
 go_wp2_with fail
 first | go_end0 | (go_show; fail)
 exact ⟨rfl, HS.out, HG.out⟩
theorem BytI.set {w0 wn : World} {g n cap : Nat} {xs : List Int} (hI : BytI w0 (some ⟨g, 0, none⟩) n cap xs wn) (o : Nat) (O x : Int) (hO : O = o) (h1 : o + 2 ≤ n) (h3 : n ≤ 100000) (h0 : 0 ≤ x) (hx : x ≤ 65535) :
   Calls Tryd.prog 83 #[.slice (some ⟨g, 0, none⟩) n cap, .int .i64 O, .int .i64 x] wn fun e w' => e = .returned (.tuple #[]) ∧ BytI w0 (some ⟨g, 0, none⟩) n cap (setM xs o (putR x 2)) w' := by
 refine (set_any _ g n cap xs o O x wn hO hI.1 h1 h3 h0 hx).mono ?_
 rintro e w' ⟨rfl, ho, hg⟩
 exact ⟨rfl, hI.turn ho hg⟩
def BuildPost (R : Int × List Int) (w : World) (e : Ending) (w' : World) : Prop :=
 ∃ a n cap, e = .returned (.tuple #[.slice a n cap, .int .i64 R.1]) ∧ n = R.2.length ∧ BytI w a n cap R.2 w'
theorem buildF_no {h : Hdr} (hv : validH h = false) (ys : List Int) : buildF h ys = (1, []) := by rw [buildF, hv]; rfl
theorem buildF_big {h : Hdr} (hv : validH h = true) {ys : List Int} (hl : 1500 < (headL h ++ ys).length) : buildF h ys = (2, []) := by
 rw [buildF, if_pos hv, if_pos hl]
theorem BytI.nil (w0 wn : World) (hg : Gr w0 wn) : BytI w0 none 0 0 [] wn := ⟨OwnI.nil _ _ _ _, hg⟩
set_option maxRecDepth 100000 in
set_option maxHeartbeats 2000000 in
theorem rbuild_any (h : Hdr) (a : Option Addr) (m c : Nat) (ys : List Int) (w : World) (hr : Rd .u8 w a m ys) (hm : m ≤ 140737488351232) : Calls Tryd.prog 57 #[HVal h, .slice a m c] w (BuildPost (buildF h ys) w) := by
 obtain ⟨R, hR⟩ : ∃ R, buildF h ys = R := ⟨_, rfl⟩
 have HRF := zqd hR
 rw [hR]
 have HR := zqd hr
 have HL := zqd hr.len
 obtain ⟨V, hV⟩ : ∃ V, validH h = V := ⟨_, rfl⟩
 have HV := zqd hV
 clear hR hr hV
 go_enter Tryd.func57, Tryd.ntmps57
 go_upto_region 1 with (fail)
 obtain ⟨w1, hw1⟩ : ∃ y, y = w.alloc (.cells (HCells h).toArray 49) := ⟨_, rfl⟩
 have hb1 : HBlk w.heap.size h w1 := by rw [hw1]; exact heap_alloc_new _ _
 have hg1 : Gr w w1 := by rw [hw1]; exact Gr.alloc _ _
 simp only [HCells] at hw1
 rw [← hw1]
 have hb1' := hb1
 unfold HBlk at hb1'
 have HB1' := zqd hb1'
 have HB1 := zqd hb1
 have HG1 := zqd hg1
 clear hw1 hb1 hb1' hg1
 go_wp2_with (first | (refine wpList_load_row rfl 49 _ rfl w.heap.size rfl 49 _ _ _ HB1'.out Tryd.underlying49 rfl (by kernel_rfl) ?_))
 refine (rvalid_is HV.out w1).mono ?_
 rintro e wv ⟨rfl, hgv⟩
 have hbv := HB1.out.kept hgv
 unfold HBlk at hbv
 have HBV := zqd hbv
 have HGV := zqd (HG1.out.trans hgv)
 clear hgv hbv HB1 HB1' HG1
 cases V
 · go_wp2_with fail
   go_ret2
   have e := HRF.out
   rw [buildF_no HV.out] at e
   subst e
   exact ⟨none, 0, 0, rfl, rfl, BytI.nil _ _ HGV.out⟩
 · go_wp2_with (first | (refine wpList_load_row rfl 49 _ rfl w.heap.size rfl 49 _ _ _ HBV.out Tryd.underlying49 rfl (by kernel_rfl) ?_))
   refine (rhead_yes h wv HV.out).mono ?_
   rintro e w2 ⟨a2, n, cap2, rfl, hn, ho2, hg2⟩
   have HN := zqd hn
   have hn28 : n = 28 ∨ n = 40 := by rw [hn, headL_len]; split <;> omega
   have hnb : 28 ≤ n ∧ n ≤ 40 := by omega
   obtain ⟨n1, n2⟩ := hnb
   have H2 := zqd (show BytI w a2 n cap2 (headL h) w2 from ⟨ho2.weak HGV.out.size, HGV.out.trans hg2⟩)
   clear ho2 hg2 HGV HBV hn hn28
   obtain ⟨N, hN⟩ : ∃ N, N = n + m := ⟨_, rfl⟩
   obtain ⟨a3, cap3, w3, hrun, hb3⟩ := H2.out.app a m c ys N hN (HR.out.kept H2.out.2) (by omega)
   obtain ⟨g3, hg3, _⟩ := hb3.1.some (by omega)
   subst hg3
   have hcap : N ≤ cap3 := hb3.1.le_cap
   have H3 := zqd hb3
   have HRUN := zqd hrun
   have HNN := zqd hN
   have hN1 : 28 ≤ N := by omega
   have hN0 : N ≤ 140737488355328 := by omega
   have hXL := zqd (show (headL h ++ ys).length = N by rw [List.length_append, ← HN.out, HL.out, hN])
   clear hb3 hrun hN
   by_cases hbig : 1500 < N
   · go_wp2_with (at_builtin; refine wpList_app rfl _ _ _ rfl rfl rfl HRUN.out ?_)
     go_ret2
     have e := HRF.out
     rw [buildF_big HV.out (by rw [hXL.out]; exact hbig)] at e
     subst e
     exact ⟨none, 0, 0, rfl, rfl, BytI.nil _ _ H3.out.2⟩
   · have hN2 : N ≤ 1500 := by omega
     go_wp2_with (at_builtin; refine wpList_app rfl _ _ _ rfl rfl rfl HRUN.out ?_)
     clear HRUN H2 hbig
     refine (H3.out.set 2 2 _ rfl (by omega) (by omega) (by omega) (by omega)).mono ?_
     rintro e w4 ⟨rfl, hb4⟩
     have H4 := zqd hb4
     clear hb4 H3
     go_wp2_with fail
     refine (H4.out.set 24 24 _ rfl (by omega) (by omega) (by omega) (by omega)).mono ?_
     rintro e w5 ⟨rfl, hb5⟩
     have H5 := zqd (show BytI w (some ⟨g3, 0, none⟩) N cap3 (put2 (headL h ++ ys)) w5 by unfold put2; rw [hXL.out]; exact hb5)
     clear hb5 H4
     go_wp2_with fail
     have hcut := (H5.out.1.cut 20 (by omega)).rd
     refine (rsum_any _ 20 cap3 _ w5 hcut (by omega)).mono ?_
     rintro e w' ⟨rfl, rfl⟩
     have hfr := foldS_rng (foldS 0 + words ((put2 (headL h ++ ys)).take 20))
     have hsr : 0 ≤ addS 0 ((put2 (headL h ++ ys)).take 20) ∧ addS 0 ((put2 (headL h ++ ys)).take 20) ≤ 65535 := hfr
     obtain ⟨s, hs⟩ : ∃ s, addS 0 ((put2 (headL h ++ ys)).take 20) = s := ⟨_, rfl⟩
     rw [hs] at hsr ⊢
     obtain ⟨s1, s2⟩ := hsr
     have HS := zqd hs
     clear hs hfr hcut
     go_wp2_with fail
     refine (H5.out.set 10 10 _ rfl (by omega) (by omega) (by omega) (by omega)).mono ?_
     rintro e w6 ⟨rfl, hb6⟩
     have H6 := zqd (show BytI w (some ⟨g3, 0, none⟩) N cap3 (bldL (headL h ++ ys)) w6 by unfold bldL; rw [HS.out]; exact hb6)
     clear hb6 H5
     go_wp2_with fail
     go_ret2
     have e := HRF.out
     rw [buildF_yes HV.out (by rw [hXL.out]; exact hN2)] at e
     subst e
     exact ⟨_, N, cap3, rfl, by show N = (bldL _).length; rw [bldL_len, hXL.out], H6.out⟩
theorem conv_rd {P : Program} {w : World} {a : Option Addr} {len : Nat} {xs : List Int} (h : Rd .u8 w a len xs) (cap : Nat) (src e dst : TypeId) (hs : P.underlying src = some (.slice e)) (he : P.underlying e = some (.int .u8)) (hd : P.underlying dst = some .string) :
   (convert src dst (.slice a len cap)).run P w = .ok (.string (strOfNums xs)) w := by
 obtain ⟨h1, _, _, h4⟩ := h
 rcases h4 with h0 | ⟨b, off, rfl, hb, hc⟩
 · subst h0
   have : xs = [] := List.eq_nil_of_length_eq_zero h1
   subst this
   rw [run_convert_bytes_string w src dst e _ 0 cap hs he hd]
   cases a <;> simp [Conv.bytesToString, loadCells]
   all_goals rfl
 · exact run_convert_bytes_arg w src e hs he b off len cap xs h1 (fun i hi => by rw [hc i hi]; simp [List.getD]) dst hd
theorem byte_inj {x y : Int} (hx : 0 ≤ x ∧ x ≤ 255) (hy : 0 ≤ y ∧ y ≤ 255) (h : UInt8.ofNat x.toNat = UInt8.ofNat y.toNat) : x = y := by
 have := congrArg UInt8.toNat h
 simp at this
 omega
theorem nums_inj : ∀ (xs ys : List Int), (∀ x ∈ xs, 0 ≤ x ∧ x ≤ 255) → (∀ x ∈ ys, 0 ≤ x ∧ x ≤ 255) → (xs.map fun n => UInt8.ofNat n.toNat) = (ys.map fun n => UInt8.ofNat n.toNat) → xs = ys
 | [], [], _, _, _ => rfl
 | [], _ :: _, _, _, h => by simp at h
 | _ :: _, [], _, _, h => by simp at h
 | x :: xs, y :: ys, hx, hy, h => by
   simp only [List.map_cons, List.cons.injEq] at h
   rw [byte_inj (hx x (by simp)) (hy y (by simp)) h.1, nums_inj xs ys (fun z hz => hx z (by simp [hz])) (fun z hz => hy z (by simp [hz])) h.2]
theorem str_inj {xs ys : List Int} (hx : ∀ x ∈ xs, 0 ≤ x ∧ x ≤ 255) (hy : ∀ x ∈ ys, 0 ≤ x ∧ x ≤ 255) : strOfNums xs = strOfNums ys ↔ xs = ys := by
 constructor
 · intro h
   refine nums_inj xs ys hx hy ?_
   rw [← strOfNums_data, ← strOfNums_data, h]
 · rintro rfl; rfl
theorem rd_bytes {w : World} {a : Option Addr} {len : Nat} {xs : List Int} (h : Rd .u8 w a len xs) : ∀ x ∈ xs, 0 ≤ x ∧ x ≤ 255 := fun x hx => bounds_u8 (h.2.1 x hx)
theorem ret_bool' {a b : Bool} (h : a = b) : Ending.returned (.bool a) = .returned (.bool b) := by rw [h]
set_option maxRecDepth 20000 in
set_option maxHeartbeats 2000000 in
theorem bsame_any (a b : Option Addr) (l c l' c' : Nat) (xs ys : List Int) (w : World) (hx : Rd .u8 w a l xs) (hy : Rd .u8 w b l' ys) :
   Calls Tryd.prog 26 #[.slice a l c, .slice b l' c'] w fun e w' => e = .returned (.bool (decide (xs = ys))) ∧ w = w' := by
 have k1 := conv_rd (P := Tryd.prog) hx c 39 5 9 Tryd.underlying39 Tryd.underlying5 Tryd.underlying9
 have k2 := conv_rd (P := Tryd.prog) hy c' 39 5 9 Tryd.underlying39 Tryd.underlying5 Tryd.underlying9
 have hi := str_inj (rd_bytes hx) (rd_bytes hy)
 have HI := zqd hi
 clear hi hx hy
 go_enter Tryd.func26, Tryd.ntmps26
 go_wp2_with fail
 go_ret
 refine ⟨ret_bool' ?_, rfl⟩
 have hi := HI.out
 rw [ByteArray.toList_eq, ByteArray.toList_eq, Bool.eq_iff_iff, beq_iff_eq, decide_eq_true_eq, ← hi]
 exact ⟨fun h => bytes_inj h, fun h => by rw [h]⟩
end Go.Proofs.YtlnkofpcidngoaaDoor
