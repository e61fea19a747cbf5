/- The law HarqSilence: its walk. -/
import Derived.Test.YtcleegibdcphiaaDoorHarR
import Derived.Test.YtcleegibdcphiaaDoorSchedD
import Derived.Test.YtcleegibdcphiaaDoorHarT

/- Layer 29 (harq), plain: soft bits 0 lead to no block. -/
namespace Go.Proofs.YtcleegibdcphiaaDoor
open Go.ChangeShapes Go.WideShapes Go.ChangeAt Go.RowKit
open Cod
theorem rep2 (k : Nat) : List.replicate (2 * (k + 1)) (0 : Int) = 0 :: 0 :: List.replicate (2 * k) 0 := by
  rw [show 2 * (k + 1) = 2 * k + 1 + 1 by omega, List.replicate_succ, List.replicate_succ]
theorem lik0 (s x : Int) : lik 0 0 s x = 0 := by unfold lik; omega
theorem best_le0 : ∀ (k d : Nat) (s : Int), best d (List.replicate (2 * k) 0) s ≤ 0
  | 0, d, s => by
    show best d [] s ≤ 0
    unfold best
    split
    · omega
    · unfold never; omega
  | k + 1, 0, s => by
    have h := best_le0 k 0 (nx s 0)
    rw [rep2, best_zero, lik0]
    have : never ≤ 0 := by unfold never; omega
    omega
  | k + 1, d + 1, s => by
    have h := best_le0 k d (nx s 0)
    have h2 := best_le0 k d (nx s 1)
    rw [rep2, best_succ, lik0, lik0]
    have : never ≤ 0 := by unfold never; omega
    omega
theorem nx00 : nx 0 0 = 0 := by decide
theorem best_0 : ∀ (k d : Nat), best d (List.replicate (2 * k) 0) 0 = 0
  | 0, d => by
    show best d [] 0 = 0
    unfold best
    rfl
  | k + 1, 0 => by
    have h := best_0 k 0
    rw [rep2, best_zero, lik0, nx00, h]
    unfold never; omega
  | k + 1, d + 1 => by
    have h := best_0 k d
    have h2 := best_le0 k d (nx 0 1)
    rw [rep2, best_succ, lik0, lik0, nx00, h]
    unfold never; omega
theorem dec_0 : ∀ (k d : Nat), d ≤ k → dec d (List.replicate (2 * k) 0) 0 = List.replicate d 0
  | _, 0, _ => by unfold dec; rfl
  | k + 1, d + 1, h => by
    have h1 := dec_0 k d (by omega)
    have h2 := best_0 k d
    have h3 := best_0 (k + 1) (d + 1)
    rw [rep2] at h3 ⊢
    unfold dec
    rw [h3, nx00, h2, lik0, if_neg (by omega), h1]
    rfl
theorem zero_word : ∀ n : Fin 20, wordL (packL (List.replicate (8 * (n.val + 1)) 0) (n.val + 1)) ≠ List.replicate (8 * (n.val + 1) + 16) 0 := by decide +kernel
theorem zero_no (n : Nat) (h1 : 1 ≤ n) (h2 : n ≤ 20) : decOk (List.replicate (totN n) 0) n = false := by
  have e : dec (8 * n + 16) (List.replicate (totN n) 0) 0 = List.replicate (8 * n + 16) 0 := by
    rw [show totN n = 2 * (8 * n + 18) by rfl]
    exact dec_0 _ _ (by omega)
  have hz := zero_word ⟨n - 1, by omega⟩
  dsimp only at hz
  rw [show n - 1 + 1 = n by omega] at hz
  unfold decOk decB
  rw [e, List.take_replicate, show min (8 * n) (8 * n + 16) = 8 * n by omega]
  exact decide_eq_false hz
theorem col_0 (T v c : Nat) : ∀ k, colL (List.replicate T 0) (List.replicate c 0) T v k = List.replicate T 0
  | 0 => rfl
  | k + 1 => by
    unfold colL
    rw [col_0 T v c k]
    have e1 : (List.replicate T (0 : Int))[plc T v k]?.getD 0 = 0 := by
      rw [List.getElem?_replicate]; split <;> rfl
    have e2 : (List.replicate c (0 : Int))[k]?.getD 0 = 0 := by
      rw [List.getElem?_replicate]; split <;> rfl
    rw [e1, e2, show clipI (0 + 0) = 0 by decide, List.set_replicate_self]
theorem soft_0 (n : Nat) : softB (List.replicate n 0) = true := (softB_iff _).2 (fun x hx => by rw [List.eq_of_mem_replicate hx]; omega)
/-- What is received where the announcement is new and all soft bits are 0. -/
theorem rec_0 {c : Cl} {ss : List Int} {A : An} {n N : Nat} (hA : anB A = true) (hn : newB c A = true) (h1 : A.size = n) (h2 : 1 ≤ n ∧ n ≤ 20) (h3 : A.coded = N) :
    recF c ss A (List.replicate N 0) = ⟨0, ⟨A.fresh, A.size, none, totN n, 0, true, false⟩, List.replicate (totN n) 0, false, []⟩ := by
  have hb : baseC c A = ⟨A.fresh, A.size, none, totN n, 0, true, false⟩ := by unfold baseC; rw [if_pos hn, h1]; rfl
  have hs : baseS c ss A = List.replicate (totN n) 0 := by unfold baseS; rw [if_pos hn, h1]; rfl
  have hg : goS c ss A (List.replicate N 0) = List.replicate (totN n) 0 := by
    unfold goS; rw [hs, h1, Int.toNat_natCast]; exact col_0 _ _ _ _
  unfold recF
  rw [if_neg (by rw [hA, soft_0]; simp), if_neg (by rw [List.length_replicate, h3]; simp), if_neg (by rw [hb, hs, soft_0, h1]; simp), if_neg (by rw [hb]; simp), hg, h1, Int.toNat_natCast, if_neg (by rw [zero_no n h2.1 h2.2]; simp), hb, h1]
end Go.Proofs.YtcleegibdcphiaaDoor

/- Regions that draw their order, walked once (beside SchedD): a late operation, too, may look at new values. -/
namespace Go.Proofs.YtcleegibdcphiaaDoor
open Go.ChangeShapes Go.WideShapes Go.ChangeAt Go.RowKit

namespace SchedL
open SchedD (depOf nsel DepN depN_inst putL putL_size putL_get)
open Sched (gq nq tq Stable NPred Walk2 EndN dstOf bef chk1 lst Closed newsL newsL_congr put_size put_defers put_get look_same gq_wp gq_late nq_wp tq_wp uniq dst_lt lst_set closed_set acts_reg Inv1 inv1_fix inv1_new putNews endN_inst putNews_reg Inv2 inv2_next cnt cnt_set cnt_zero all_of_ready chk_edge chk_pair listed_of_bef)
variable (P : Program) (ops : Array Oper) (W : World)

/-- As DepN, of whatever world. -/
def DepL (N : Nat → NPred) (K : Act → Prop) : List (Nat × Tmp) → Act → Prop
  | [], a => K a
  | (k, t) :: ks, a => ∀ lo hi u w, N k lo hi u w → DepL N K ks (a.put (some t) u)
theorem depL_depN {N : Nat → NPred} {K : Act → Prop} (w : World) : ∀ (l : List (Nat × Tmp)) (a : Act), DepL N K l a → DepN N w K l a
  | [], _, h => h
  | (_, _) :: ks, _, h => fun lo hi u hu => depL_depN w ks _ (h lo hi u w hu)
def FixQ (W : World) (late : List Nat) (N : Nat → NPred) (deps : List (Nat × List (Nat × Tmp))) (K : World → Act → Prop) (i : Nat) (a : Act) : Prop :=
  (late.contains i = true → ∀ w, DepL N (K w) (depOf deps i) a) ∧ (late.contains i = false → ∀ w, Gr W w → DepN N w (K w) (depOf deps i) a)
theorem fixq_dep {W w : World} {late : List Nat} {N : Nat → NPred} {deps : List (Nat × List (Nat × Tmp))} {K : World → Act → Prop} {i : Nat} {a : Act} (h : FixQ W late N deps K i a) (hg : Gr W w) : DepN N w (K w) (depOf deps i) a := by
  cases hl : late.contains i
  · exact h.2 hl w hg
  · exact depL_depN w _ _ (h.1 hl w)
/-- The head, in the order of the text. -/
def Walk1 (late news : List Nat) (N : Nat → NPred) (deps : List (Nat × List (Nat × Tmp))) (Q : Act → List (Option Tmp × NPred) → Prop) : List Oper → Nat → Act → List (Option Tmp × NPred) → Prop
  | [], _, a, L => Q a L
  | o :: r, k, a, L =>
    if news.contains k then
      Stable (N k) ∧ (∀ w, Gr W w → DepN N w (fun a' => Region.wanted o (yielded ops a'.tmps) = true ∧ nq P o a' w (N k)) (depOf deps k) a) ∧ Walk1 late news N deps Q r (k + 1) a (L ++ [(o.dst, N k)])
    else
      (∃ v, FixQ W late N deps (fun w a' => Region.wanted o (yielded ops a'.tmps) = true ∧ gq P o a' w v (late.contains k)) k a ∧ Walk1 late news N deps Q r (k + 1) (a.put o.dst v) L) ∨
      (FixQ W late N deps (fun _ a' => Region.wanted o (yielded ops a'.tmps) = false) k a ∧ Walk1 late news N deps Q r (k + 1) (a.put o.dst undef) L)
def chk2 (B : Array Nat) (m : Nat) (late news : List Nat) (deps : List (Nat × List (Nat × Tmp))) : Bool :=
  decide (m ≤ ops.size) && (news.all fun k => decide (k < m)) && (late.all fun k => decide (k < m) && !news.contains k) &&
  (decide (m = ops.size) || (List.range m).all fun j => late.contains j || bef B m j) &&
  ((List.range ops.size).all fun i => decide (i ≤ m) || bef B i (i - 1)) &&
  ((List.range m).all fun i => match ops[i]? with
    | none => false
    | some o => (news.all fun k => match dstOf ops k with | some t => !(o.looksAt ops).contains t || (depOf deps i).contains (k, t) | none => true) &&
      ((depOf deps i).all fun p => decide (p.1 < i) && news.contains p.1 && bef B i p.1 && (dstOf ops p.1 == some p.2)))

variable {P ops W}
variable {B : Array Nat} {m : Nat} {late news : List Nat} {N : Nat → NPred} {deps : List (Nat × List (Nat × Tmp))}
theorem chk2_parts (h : chk2 ops B m late news deps = true) : m ≤ ops.size ∧ (∀ j, news.contains j = true → j < m) ∧ (∀ j, late.contains j = true → news.contains j = false) ∧
    (m = ops.size ∨ ∀ j, j < m → late.contains j = true ∨ bef B m j = true) ∧ (∀ i, i < ops.size → i ≤ m ∨ bef B i (i - 1) = true) ∧
    (∀ i o, i < m → ops[i]? = some o → (∀ j t, news.contains j = true → dstOf ops j = some t → t ∈ o.looksAt ops → (j, t) ∈ depOf deps i) ∧ ∀ p ∈ depOf deps i, p.1 < i ∧ news.contains p.1 = true ∧ bef B i p.1 = true ∧ dstOf ops p.1 = some p.2) := by
  simp only [chk2, Bool.and_eq_true, decide_eq_true_eq] at h
  obtain ⟨⟨⟨⟨⟨h1, h2⟩, h3⟩, h4⟩, h5⟩, h6⟩ := h
  refine ⟨h1, fun j hj => ?_, fun j hj => ?_, ?_, fun i hi => ?_, fun i o hi ho => ?_⟩
  · have := List.all_eq_true.1 h2 j (by simpa using hj); simpa using this
  · have := List.all_eq_true.1 h3 j (by simpa using hj)
    simp only [Bool.and_eq_true, Bool.not_eq_true'] at this
    exact this.2
  · rcases Bool.or_eq_true _ _ ▸ h4 with h | h
    · exact .inl (by simpa using h)
    · exact .inr fun j hj => by
        have := List.all_eq_true.1 h j (List.mem_range.2 hj)
        rwa [Bool.or_eq_true] at this
  · have := List.all_eq_true.1 h5 i (List.mem_range.2 hi)
    simpa using this
  · have h7 := List.all_eq_true.1 h6 i (List.mem_range.2 hi)
    simp only [ho, Bool.and_eq_true] at h7
    refine ⟨fun j t hj hd ht => ?_, fun p hp => ?_⟩
    · have h8 := List.all_eq_true.1 h7.1 j (by simpa using hj)
      rw [hd] at h8
      simp only [Bool.or_eq_true, Bool.not_eq_true', List.contains_eq_mem, decide_eq_false_iff_not, decide_eq_true_eq] at h8
      rcases h8 with h8 | h8
      · exact absurd ht h8
      · exact h8
    · have h8 := List.all_eq_true.1 h7.2 p hp
      simp only [Bool.and_eq_true, decide_eq_true_eq, beq_iff_eq] at h8
      exact ⟨h8.1.1.1, h8.1.1.2, h8.1.2, h8.2⟩
def FixOK (P : Program) (ops : Array Oper) (W : World) (late : List Nat) (N : Nat → NPred) (deps : List (Nat × List (Nat × Tmp))) (i : Nat) (a : Act) (v : Value) : Prop := ∃ o, ops[i]? = some o ∧
  (FixQ W late N deps (fun w a' => Region.wanted o (yielded ops a'.tmps) = true ∧ gq P o a' w v (late.contains i)) i a ∨
    (FixQ W late N deps (fun _ a' => Region.wanted o (yielded ops a'.tmps) = false) i a ∧ v = undef))
def NewOK (P : Program) (ops : Array Oper) (W : World) (N : Nat → NPred) (deps : List (Nat × List (Nat × Tmp))) (i : Nat) (a : Act) : Prop := ∃ o, ops[i]? = some o ∧ Stable (N i) ∧
  ∀ w, Gr W w → DepN N w (fun a' => Region.wanted o (yielded ops a'.tmps) = true ∧ nq P o a' w (N i)) (depOf deps i) a
theorem walk1_ext {Q : Act → List (Option Tmp × NPred) → Prop} : ∀ (l : List Oper) (k : Nat) (a : Act) (L : List (Option Tmp × NPred)), (∀ j, j < l.length → l[j]? = ops[k + j]?) → Walk1 P ops W late news N deps Q l k a L →
    ∃ (A : Nat → Act) (v : Nat → Value), A k = a ∧
      (∀ i, k ≤ i → i < k + l.length → (news.contains i = true → A (i + 1) = A i ∧ NewOK P ops W N deps i (A i)) ∧ (news.contains i = false → A (i + 1) = (A i).put (dstOf ops i) (v i) ∧ FixOK P ops W late N deps i (A i) (v i))) ∧
      Q (A (k + l.length)) (L ++ newsL ops news N l.length k)
  | [], k, a, L, _, h => ⟨fun _ => a, fun _ => undef, rfl, fun i h1 h2 => by simp at h2; omega, by simpa [newsL, Walk1] using h⟩
  | o :: r, k, a, L, hl, h => by
    have ho : ops[k]? = some o := by simpa using (hl 0 (by simp)).symm
    have hl' : ∀ j, j < r.length → r[j]? = ops[k + 1 + j]? := fun j hj => by
      have := hl (j + 1) (by simpa using hj)
      simpa [Nat.add_assoc, Nat.add_comm 1 j] using this
    have hd : dstOf ops k = o.dst := by simp [dstOf, ho]
    have hlen : k + (o :: r).length = k + 1 + r.length := by simp; omega
    have join : ∀ (a1 : Act) (L1 : List (Option Tmp × NPred)) (v0 : Value), Walk1 P ops W late news N deps Q r (k + 1) a1 L1 →
        ((news.contains k = true → a1 = a ∧ NewOK P ops W N deps k a) ∧ (news.contains k = false → a1 = a.put (dstOf ops k) v0 ∧ FixOK P ops W late N deps k a v0)) →
        (L1 = L ++ (if news.contains k then [(dstOf ops k, N k)] else [])) → ∃ (A : Nat → Act) (v : Nat → Value), A k = a ∧
      (∀ i, k ≤ i → i < k + (o :: r).length → (news.contains i = true → A (i + 1) = A i ∧ NewOK P ops W N deps i (A i)) ∧ (news.contains i = false → A (i + 1) = (A i).put (dstOf ops i) (v i) ∧ FixOK P ops W late N deps i (A i) (v i))) ∧
      Q (A (k + (o :: r).length)) (L ++ newsL ops news N (o :: r).length k) := by
      intro a1 L1 v0 hw hk hL
      obtain ⟨A, v, hA, hstep, hQ⟩ := walk1_ext r (k + 1) a1 L1 hl' hw
      refine ⟨fun i => if i = k then a else A i, fun i => if i = k then v0 else v i, by simp, ?_, ?_⟩
      · intro i h1 h2
        by_cases hik : i = k
        · subst hik
          simp only [if_true, show ¬ i + 1 = i from by omega, if_false, hA]
          exact hk
        · have := hstep i (by omega) (by omega)
          simp only [hik, if_false, show ¬ i + 1 = k from by omega]
          exact this
      · have e1 : ¬ k + (o :: r).length = k := by simp
        show Q (if k + (o :: r).length = k then a else A (k + (o :: r).length)) _
        rw [if_neg e1, hlen]
        rw [hL] at hQ
        simp only [List.length_cons, newsL]
        simpa [List.append_assoc] using hQ
    unfold Walk1 at h
    by_cases hn : news.contains k = true
    · rw [if_pos hn] at h
      obtain ⟨hs, hq, hr⟩ := h
      exact join a _ undef hr ⟨fun _ => ⟨rfl, o, ho, hs, hq⟩, fun e => (by rw [hn] at e; cases e)⟩ (by rw [if_pos hn, hd])
    · have hnf : news.contains k = false := by simpa using hn
      rw [if_neg hn] at h
      rcases h with ⟨v0, hq, hr⟩ | ⟨hw, hr⟩
      · exact join _ L v0 hr ⟨fun e => (by rw [hnf] at e; cases e), fun _ => ⟨by rw [hd], o, ho, .inl hq⟩⟩ (by rw [if_neg hn]; simp)
      · exact join _ L undef hr ⟨fun e => (by rw [hnf] at e; cases e), fun _ => ⟨by rw [hd], o, ho, .inr ⟨hw, rfl⟩⟩⟩ (by rw [if_neg hn]; simp)

theorem depL_inst {nv : Nat → Value} {K : Act → Prop} : ∀ (l : List (Nat × Tmp)) (a : Act), (∀ p ∈ l, ∃ lo hi w', N p.1 lo hi (nv p.1) w') → DepL N K l a → K (putL nv l a)
  | [], _, _, h => h
  | (k, t) :: ks, _, hf, h => by
    obtain ⟨lo, hi, w', h1⟩ := hf (k, t) (by simp)
    exact depL_inst ks _ (fun p hp => hf p (by simp [hp])) (h lo hi _ w' h1)
/-- The new values lie in their slots. -/
def NewsP (ops : Array Oper) (news : List Nat) (N : Nat → NPred) (a0 a : Act) : Prop :=
  ∃ nv : Nat → Value, ∀ j, news.contains j = true → (∃ lo hi w', N j lo hi (nv j) w') ∧ ∀ t, dstOf ops j = some t → t < a0.tmps.size → a.tmps[t]? = some (nv j)
theorem NewsP.put (hch : chk1 ops B = true) {a0 a : Act} (h : NewsP ops news N a0 a) (hsz : a.tmps.size = a0.tmps.size) {i : Nat} (hi : news.contains i = false) (x : Value) : NewsP ops news N a0 (a.put (dstOf ops i) x) := by
  obtain ⟨nv, h⟩ := h
  refine ⟨nv, fun j hj => ⟨(h j hj).1, fun t hd ht => ?_⟩⟩
  rw [put_get _ _ _ _ (by rw [hsz]; exact ht), if_neg (fun e => by have := uniq hch e hd; rw [this, hj] at hi; cases hi)]
  exact (h j hj).2 t hd ht
section
variable {a0 : Act} {v : Nat → Value} {listed : Array Bool} {a : Act} {w w' : World}
theorem look1 (hch : chk1 ops B = true) (hc2 : chk2 ops B m late news deps = true) {A : Nat → Act} (hA0 : A 0 = a0)
    (hstep : ∀ i, i < m → (news.contains i = true → A (i + 1) = A i) ∧ (news.contains i = false → A (i + 1) = (A i).put (dstOf ops i) (v i)))
    (inv : Inv1 ops W m news a0 v N listed a w) {i : Nat} {o : Oper} (hi : i < m) (ho : ops[i]? = some o) (hr : ∀ e ∈ o.after, Region.binds .any e = true → lst listed e.on = true) (hun : lst listed i = false) :
    ∃ (nv : Nat → Value) (lo hi' : Nat → Nat), (∀ p ∈ depOf deps i, N p.1 (lo p.1) (hi' p.1) (nv p.1) w) ∧ ∀ t ∈ o.looksAt ops, a.tmps[t]? = (putL nv (depOf deps i) (A i)).tmps[t]? := by
  obtain ⟨h1, h2, h3⟩ := acts_reg hch hstep i (Nat.le_of_lt hi)
  rw [hA0] at h1 h2 h3
  obtain ⟨nv, lo, hi', r1, r2, r3, _⟩ := inv.regs
  obtain ⟨_, _, _, _, _, hlk⟩ := chk2_parts hc2
  obtain ⟨k1, k2⟩ := hlk i o hi ho
  refine ⟨nv, lo, hi', fun p hp => ?_, fun t ht => ?_⟩
  · obtain ⟨q1, q2, q3, q4⟩ := k2 p hp
    exact (r3 p.1 q2 (listed_of_bef hch inv.closed i o ho hr p.1 q3 (dst_lt q4))).1
  · rcases Nat.lt_or_ge t a0.tmps.size with hlt | hge
    · obtain ⟨g1, g2⟩ := putL_get hch nv (depOf deps i) (A i) (fun p hp => (k2 p hp).2.2.2) t (by rw [h2]; exact hlt)
      by_cases hex : ∃ j, dstOf ops j = some t
      · obtain ⟨j, hj⟩ := hex
        cases hnj : news.contains j
        · rw [g2 (fun j' hj' => by
            obtain ⟨_, q2, _, q4⟩ := k2 _ hj'
            rw [uniq hch q4 hj, hnj] at q2; cases q2)]
          rcases ((chk_pair hch ho (dst_lt hj)).2 t hj).2 ht with ⟨hji, hb⟩ | ⟨hij, hb⟩
          · have hl := listed_of_bef hch inv.closed i o ho hr j hb (dst_lt hj)
            rw [r1 t hlt j hj hl, (h3 t hlt).1 j hji hnj hj, hnj]; rfl
          · have hl : lst listed j = false := by
              cases hlj : lst listed j
              · rfl
              · obtain ⟨oj, hoj⟩ : ∃ oj, ops[j]? = some oj := ⟨ops[j]'(dst_lt hj), Array.getElem?_eq_getElem _⟩
                have := listed_of_bef hch inv.closed j oj hoj (fun e he hbb => inv.closed j oj hoj hlj e he hbb) i hb (Array.getElem?_eq_some_iff.1 ho).1
                rw [hun] at this; cases this
            rw [r2 t hlt (fun j' hj' => by rw [uniq hch hj' hj]; exact hl), (h3 t hlt).2 (fun j' hj' _ hd => by rw [uniq hch hd hj] at hj'; omega)]
        · have hdp := k1 j t hnj hj ht
          obtain ⟨_, _, q3, _⟩ := k2 _ hdp
          have hl := listed_of_bef hch inv.closed i o ho hr j q3 (dst_lt hj)
          rw [r1 t hlt j hj hl, hnj, g1 j hdp]; rfl
      · rw [g2 (fun j' hj' => hex ⟨j', (k2 _ hj').2.2.2⟩), r2 t hlt (fun j hj => absurd ⟨j, hj⟩ hex), (h3 t hlt).2 (fun j _ _ hd => hex ⟨j, hd⟩)]
    · rw [Array.getElem?_eq_none (by rw [inv.sz]; exact hge), Array.getElem?_eq_none (by rw [putL_size, h2]; exact hge)]
theorem newsP_start (inv : Inv1 ops W m news a0 v N listed a w) (hall : ∀ j, news.contains j = true → lst listed j = true) : NewsP ops news N a0 a := by
  obtain ⟨nv, lo, hi', r1, _, r3, _⟩ := inv.regs
  refine ⟨nv, fun j hj => ⟨⟨lo j, hi' j, w, (r3 j hj (hall j hj)).1⟩, fun t hd ht => ?_⟩⟩
  rw [r1 t ht j hd (hall j hj), hj]; rfl
variable {Q' : Act → World → Prop}
theorem inv2_start (hch : chk1 ops B = true) (hc2 : chk2 ops B m late news deps = true) {A : Nat → Act} (hA0 : A 0 = a0)
    (hstep : ∀ i, i < m → (news.contains i = true → A (i + 1) = A i) ∧ (news.contains i = false → A (i + 1) = (A i).put (dstOf ops i) (v i)))
    (inv : Inv1 ops W m news a0 v N listed a w) (hall : ∀ j, j < m → late.contains j = false → lst listed j = true)
    (H : EndN W w (fun a' => Walk2 P ops Q' (ops.toList.drop m) a' w) (newsL ops news N m 0) [] (A m)) : Inv2 P ops Q' m late news a0 v m listed a w := by
  obtain ⟨hmn, hnm, hlp, _, _, _⟩ := chk2_parts hc2
  have hln : ∀ j, late.contains j = true → news.contains j = false := hlp
  have hnl : ∀ j, news.contains j = true → lst listed j = true := fun j hj => by
    refine hall j (hnm j hj) ?_
    cases h : late.contains j
    · rfl
    · rw [hln j h] at hj; cases hj
  obtain ⟨nv, lo, hi', r1, r2, r3, r4⟩ := inv.regs
  have hk := endN_inst (nv := nv) (lo := lo) (hi := hi') (fun i j hij hi hj => r4 i j hij hi hj (hnl i hi) (hnl j hj)) m 0 [] (A m) (fun j _ _ hj => r3 j hj (hnl j hj)) (fun _ _ _ _ p hp => by cases hp) H
  obtain ⟨g1, g2, g3⟩ := acts_reg hch hstep m (Nat.le_refl _)
  rw [hA0] at g1 g2 g3
  obtain ⟨f1, f2, f3⟩ := putNews_reg hch (news := news) (nv := nv) m 0 (A m)
  refine ⟨inv.size, inv.closed, Nat.le_refl _, hmn, fun i h1 h2 => by omega, inv.later, hall, inv.dfs, inv.sz, putNews ops news nv m 0 (A m), hk, by rw [f1, g1], by rw [f2, g2], fun t ht => ?_⟩
  obtain ⟨f4, f5⟩ := f3 t (by rw [g2]; exact ht)
  obtain ⟨g4, g5⟩ := g3 t ht
  have hfix : ∀ j, j < m → news.contains j = false → dstOf ops j = some t → (putNews ops news nv m 0 (A m)).tmps[t]? = some (v j) := fun j hj hnj hd => by
    rw [f5 (fun j' _ _ hn' hd' => by have := uniq hch hd' hd; rw [this, hnj] at hn'; cases hn'), g4 j hj hnj hd]
  have hnone : (∀ j, j < m → dstOf ops j ≠ some t) → (putNews ops news nv m 0 (A m)).tmps[t]? = a0.tmps[t]? := fun hno => by
    rw [f5 (fun j' _ h2 _ => hno j' (by omega)), g5 fun j hj _ => hno j hj]
  refine ⟨fun j hj hl hun hd => ?_, fun hno => ?_, hfix, hnone⟩
  · exact r2 t ht fun j' hj' => by rw [uniq hch hj' hd]; exact hun
  · by_cases hex : ∃ j, j < m ∧ dstOf ops j = some t
    · obtain ⟨j, hj, hd⟩ := hex
      have hl : lst listed j = true := by
        cases h : late.contains j
        · exact hall j hj h
        · cases h2 : lst listed j
          · exact absurd hd (hno j hj h h2)
          · rfl
      rw [r1 t ht j hd hl]
      cases hnj : news.contains j
      · rw [hfix j hj hnj hd]; rfl
      · rw [f4 j (by omega) (by omega) hnj hd]; rfl
    · rw [hnone (fun j hj hd => hex ⟨j, hj, hd⟩)]
      refine r2 t ht fun j hd => ?_
      exact inv.later j (by
        rcases Nat.lt_or_ge j m with h | h
        · exact absurd ⟨j, h, hd⟩ hex
        · exact h)

theorem inv2_late (hch : chk1 ops B = true) (hc2 : chk2 ops B m late news deps = true) {p : Nat} (inv : Inv2 P ops Q' m late news a0 v p listed a w) {i : Nat} {o : Oper} (hi : i < m) (hl : late.contains i = true) (ho : ops[i]? = some o)
    (hr : ∀ e ∈ o.after, Region.binds .any e = true → lst listed e.on = true) : Inv2 P ops Q' m late news a0 v p (listed.setIfInBounds i true) (a.put o.dst (v i)) w := by
  have hin : i < listed.size := by rw [inv.size]; exact (Array.getElem?_eq_some_iff.1 ho).1
  have hd : dstOf ops i = o.dst := by simp [dstOf, ho]
  have hln : news.contains i = false := (chk2_parts hc2).2.2.1 i hl
  obtain ⟨A, h1, h2, h3, h4⟩ := inv.ideal
  have up : ∀ j, lst listed j = true → lst (listed.setIfInBounds i true) j = true := fun j h => by rw [lst_set hin]; split <;> simp [h]
  refine ⟨by simp [inv.size], closed_set hin ho inv.closed hr, inv.mp, inv.pn, fun k hk1 hk2 => up k (inv.done k hk1 hk2), fun k hk => ?_, fun j hj1 hj2 => up j (inv.head j hj1 hj2), by rw [put_defers, inv.dfs], by rw [put_size, inv.sz],
    A, h1, h2, h3, fun t ht => ?_⟩
  · rw [lst_set hin, if_neg (by have := inv.mp; omega)]; exact inv.todo k hk
  · obtain ⟨c1, c2, c3, c4⟩ := h4 t ht
    rw [put_get _ _ _ _ (by rw [inv.sz]; exact ht)]
    refine ⟨fun j hj hlj hun hdj => ?_, fun hno => ?_, c3, c4⟩
    · rw [lst_set hin] at hun
      by_cases hij : i = j
      · subst hij; simp at hun
      · rw [if_neg hij] at hun
        rw [if_neg (fun e => hij (uniq hch (by rw [hd]; exact e) hdj))]
        exact c1 j hj hlj hun hdj
    · by_cases hdi : o.dst = some t
      · rw [if_pos hdi, c3 i hi hln (by rw [hd]; exact hdi)]
      · rw [if_neg hdi]
        refine c2 fun j hj hlj hun hdj => ?_
        by_cases hij : i = j
        · subst hij; exact hdi (by rw [← hd]; exact hdj)
        · exact hno j hj hlj (by rw [lst_set hin, if_neg hij]; exact hun) hdj
theorem sched_any (hch : chk1 ops B = true) (hc2 : chk2 ops B m late news deps = true) (hsel : Region.noSelect ops = true) {Q : Exit → Act → World → Prop} {A : Nat → Act} (hA0 : A 0 = a0)
    (hstep : ∀ i, i < m → (news.contains i = true → A (i + 1) = A i ∧ NewOK P ops W N deps i (A i)) ∧ (news.contains i = false → A (i + 1) = (A i).put (dstOf ops i) (v i) ∧ FixOK P ops W late N deps i (A i) (v i)))
    (hend : ∀ w', Gr W w' → EndN W w' (fun a' => Walk2 P ops (Q .normal) (ops.toList.drop m) a' w') (newsL ops news N m 0) [] (A m)) :
    ∀ (fuel : Nat) (listed : Array Bool) (a : Act) (w : World), cnt listed ops.size = fuel → (Inv1 ops W m news a0 v N listed a w ∨ ∃ p, Inv2 P ops (Q .normal) m late news a0 v p listed a w ∧ NewsP ops news N a0 a) → wpAny P .any ops Q fuel listed a w := by
  have hst1 : ∀ i, i < m → (news.contains i = true → A (i + 1) = A i) ∧ (news.contains i = false → A (i + 1) = (A i).put (dstOf ops i) (v i)) := fun i hi => ⟨fun h => ((hstep i hi).1 h).1, fun h => ((hstep i hi).2 h).1⟩
  obtain ⟨hmn, hnm, hlp, hcm, hchain', hlk⟩ := chk2_parts hc2
  have hstable : ∀ j, news.contains j = true → Stable (N j) := fun j hj => by
    obtain ⟨_, _, _, h, _⟩ := (hstep j (hnm j hj)).1 hj
    exact h
  -- at the end
  have fin : ∀ (listed : Array Bool) (a : Act) (w : World), (∀ i, i < ops.size → lst listed i = true) → (Inv1 ops W m news a0 v N listed a w ∨ ∃ p, Inv2 P ops (Q .normal) m late news a0 v p listed a w ∧ NewsP ops news N a0 a) → Q .normal a w := by
    intro listed a w hall inv
    have h2 : ∃ p, Inv2 P ops (Q .normal) m late news a0 v p listed a w := by
      rcases inv with inv | ⟨p, h, _⟩
      · have hm : m = ops.size := by
          rcases Nat.lt_or_ge m ops.size with h | h
          · have := inv.later m (Nat.le_refl _); rw [hall m h] at this; cases this
          · omega
        exact ⟨m, inv2_start hch hc2 hA0 hst1 inv (fun j hj _ => hall j (by omega)) (hend w inv.gr)⟩
      · exact ⟨p, h⟩
    obtain ⟨p, inv⟩ := h2
    have hp : p = ops.size := by
      rcases Nat.lt_or_ge p ops.size with h | h
      · have := inv.todo p (Nat.le_refl _); rw [hall p h] at this; cases this
      · have := inv.pn; omega
    obtain ⟨A', h1, h2, h3, h4⟩ := inv.ideal
    rw [List.drop_eq_nil_of_le (by rw [hp]; simp)] at h1
    have e : a = A' := by
      have ht : a.tmps = A'.tmps := by
        apply Array.ext_getElem?
        intro t
        rcases Nat.lt_or_ge t a0.tmps.size with h | h
        · exact (h4 t h).2.1 fun j hj _ hun _ => by rw [hall j (by omega)] at hun; cases hun
        · rw [Array.getElem?_eq_none (by rw [inv.sz]; exact h), Array.getElem?_eq_none (by rw [h3]; exact h)]
      have hd : a.defers = A'.defers := by rw [inv.dfs, h2]
      cases a; cases A'; simp_all
    rw [e]; exact h1
  -- one operation of the chain
  have chain : ∀ (fuel : Nat) (listed : Array Bool) (a : Act) (w : World) (p : Nat) (o : Oper), (∀ a' w', (∃ q, Inv2 P ops (Q .normal) m late news a0 v q (listed.setIfInBounds p true) a' w' ∧ NewsP ops news N a0 a') → wpAny P .any ops Q fuel (listed.setIfInBounds p true) a' w') →
      Inv2 P ops (Q .normal) m late news a0 v p listed a w → NewsP ops news N a0 a → ops[p]? = some o → (∀ e ∈ o.after, Region.binds .any e = true → lst listed e.on = true) → wpOp P ops Q p (wpAny P .any ops Q fuel (listed.setIfInBounds p true)) a w := by
    intro fuel listed a w p o ih inv hnp ho hr
    have hpd : dstOf ops p = o.dst := by simp [dstOf, ho]
    have hpn' : news.contains p = false := by
      cases h : news.contains p
      · rfl
      · have := hnm p h; have := inv.mp; omega
    have hput : ∀ x, NewsP ops news N a0 (a.put o.dst x) := fun x => by rw [← hpd]; exact hnp.put hch inv.sz hpn' x
    obtain ⟨A', h1, h2, h3, h4⟩ := inv.ideal
    have hpn := (Array.getElem?_eq_some_iff.1 ho).1
    have hdrop : ops.toList.drop p = o :: ops.toList.drop (p + 1) := by
      rw [List.drop_eq_getElem_cons (by simpa using hpn)]
      congr 1
      have := (Array.getElem?_eq_some_iff.1 ho).2
      simpa using this
    rw [hdrop] at h1
    have look := look_same (ops := ops) (o := o) (a := a) (a' := A') (fun cs b => Region.noSelect_spec hsel p o cs b ho) (fun t ht => by
      rcases Nat.lt_or_ge t a0.tmps.size with h | h
      · refine (h4 t h).2.1 fun j hj _ hun hd => ?_
        rcases ((chk_pair hch ho (dst_lt hd)).2 t hd).2 ht with ⟨_, hb⟩ | ⟨h5, _⟩
        · have := listed_of_bef hch inv.closed p o ho hr j hb (dst_lt hd)
          rw [hun] at this; cases this
        · have := inv.mp; omega
      · rw [Array.getElem?_eq_none (by rw [inv.sz]; exact h), Array.getElem?_eq_none (by rw [h3]; exact h)])
    unfold wpOp
    rw [ho]
    simp only
    rw [look.2]
    unfold Walk2 at h1
    by_cases hw : Region.wanted o (yielded ops A'.tmps) = true
    · rw [if_pos hw] at h1 ⊢
      exact .inl (tq_wp look.1 h1 fun x w' hK => ih _ _ ⟨p + 1, inv2_next hch inv ho hr hK h2 h3 h4, hput _⟩)
    · rw [if_neg hw] at h1 ⊢
      exact ih _ _ ⟨p + 1, inv2_next hch inv ho hr h1 h2 h3 h4, hput _⟩
  intro fuel
  induction fuel with
  | zero =>
    intro listed a w hc inv
    have hall := cnt_zero ops.size hc
    refine ⟨?_, fin listed a w hall inv⟩
    rw [List.eq_nil_iff_forall_not_mem]
    intro i hi
    obtain ⟨h0, o, ho, _⟩ := mem_ready.1 hi
    have hin := (Array.getElem?_eq_some_iff.1 ho).1
    have hs : listed.size = ops.size := by rcases inv with inv | ⟨_, inv, _⟩ <;> exact inv.size
    have h1 := hall i hin
    unfold lst at h1
    have hsz : i < listed.size := by omega
    simp only [Array.getD_eq_getD_getElem?, Array.getElem?_eq_getElem hsz, Option.getD_some] at h0 h1
    rw [h1] at h0; cases h0
  | succ fuel ih =>
    intro listed a w hc inv
    have hs : listed.size = ops.size := by rcases inv with inv | ⟨_, inv, _⟩ <;> exact inv.size
    refine ⟨fun h => fin listed a w (all_of_ready hch hs h) inv, fun i hi => ?_⟩
    obtain ⟨h0, o, ho, hr⟩ := mem_ready.1 hi
    have hin := (Array.getElem?_eq_some_iff.1 ho).1
    have hun : lst listed i = false := by
      have hsz : i < listed.size := by omega
      unfold lst
      simp only [Array.getD_eq_getD_getElem?, Array.getElem?_eq_getElem hsz, Option.getD_some] at h0 ⊢
      exact h0
    have hcnt : cnt (listed.setIfInBounds i true) ops.size = fuel := by
      have := cnt_set (listed := listed) (by omega) hun ops.size
      rw [if_pos hin] at this; omega
    have ih2 : ∀ a' w', (∃ q, Inv2 P ops (Q .normal) m late news a0 v q (listed.setIfInBounds i true) a' w' ∧ NewsP ops news N a0 a') → wpAny P .any ops Q fuel (listed.setIfInBounds i true) a' w' := fun a' w' h => ih _ _ _ hcnt (.inr h)
    rcases inv with inv | ⟨p, inv, hnp⟩
    · rcases Nat.lt_or_ge i m with him | him
      · obtain ⟨nv, lo, hi', hdn, hl⟩ := look1 hch hc2 hA0 hst1 inv him ho hr hun
        have look := look_same (ops := ops) (o := o) (a := a) (a' := putL nv (depOf deps i) (A i)) (fun cs b => Region.noSelect_spec hsel i o cs b ho) hl
        have hd : dstOf ops i = o.dst := by simp [dstOf, ho]
        unfold wpOp
        rw [ho]
        simp only
        rw [look.2]
        cases hn : news.contains i
        · obtain ⟨_, o', ho', hfix⟩ := (hstep i him).2 hn
          rw [ho] at ho'; cases ho'
          rcases hfix with hq | ⟨hw, hv⟩
          · obtain ⟨hw, hq⟩ := depN_inst _ _ hdn (fixq_dep hq inv.gr)
            rw [if_pos hw]
            exact .inl (gq_wp look.1 hq fun w' hg => ih _ _ _ hcnt (.inl (inv1_fix hch hstable inv him ho hr hn hg)))
          · have hw := depN_inst _ _ hdn (fixq_dep hw inv.gr)
            rw [if_neg (by rw [hw]; simp), ← hv]
            exact ih _ _ _ hcnt (.inl (inv1_fix hch hstable inv him ho hr hn (Gr.refl w)))
        · obtain ⟨_, o', ho', _, hq⟩ := (hstep i him).1 hn
          rw [ho] at ho'; cases ho'
          obtain ⟨hw, hq⟩ := depN_inst _ _ hdn (hq w inv.gr)
          rw [if_pos hw]
          exact .inl (nq_wp look.1 hq fun x w' hg hN => ih _ _ _ hcnt (.inl (inv1_new hch hstable inv him ho hr hun hn hg hN)))
      · have him2 : i = m := by
          rcases hchain' i hin with h | h
          · omega
          · by_cases hne : i = m
            · exact hne
            · have := listed_of_bef hch inv.closed i o ho hr (i - 1) h (by omega)
              rw [inv.later (i - 1) (by omega)] at this; cases this
        subst him2
        have hall : ∀ j, j < i → late.contains j = false → lst listed j = true := fun j hj hlj => by
          rcases hcm with h | h
          · omega
          · rcases h j hj with h | h
            · rw [hlj] at h; cases h
            · exact listed_of_bef hch inv.closed i o ho hr j h (by omega)
        have hnl : ∀ j, news.contains j = true → lst listed j = true := fun j hj => by
          refine hall j (hnm j hj) ?_
          cases h : late.contains j
          · rfl
          · rw [hlp j h] at hj; cases hj
        exact chain fuel listed a w i o ih2 (inv2_start hch hc2 hA0 hst1 inv hall (hend w inv.gr)) (newsP_start inv hnl) ho hr
    · rcases Nat.lt_or_ge i m with him | him
      · have hl : late.contains i = true := by
          cases h : late.contains i
          · rw [inv.head i him h] at hun; cases hun
          · rfl
        have hn := hlp i hl
        obtain ⟨nv, hnv⟩ := hnp
        have hd : dstOf ops i = o.dst := by simp [dstOf, ho]
        obtain ⟨A', h1, h2, h3, h4⟩ := inv.ideal
        obtain ⟨g1, g2, g3⟩ := acts_reg hch hst1 i (Nat.le_of_lt him)
        rw [hA0] at g1 g2 g3
        obtain ⟨kk1, kk2⟩ := hlk i o him ho
        have hl1 : ∀ t ∈ o.looksAt ops, a.tmps[t]? = (putL nv (depOf deps i) (A i)).tmps[t]? := by
          intro t ht
          rcases Nat.lt_or_ge t a0.tmps.size with h | h
          · obtain ⟨c1, c2, c3, c4⟩ := h4 t h
            obtain ⟨y1, y2⟩ := putL_get hch nv (depOf deps i) (A i) (fun p hp => (kk2 p hp).2.2.2) t (by rw [g2]; exact h)
            by_cases hex : ∃ j, dstOf ops j = some t
            · obtain ⟨j, hj⟩ := hex
              cases hnj : news.contains j
              case true => rw [y1 j (kk1 j t hnj hj ht)]; exact (hnv j hnj).2 t hj h
              rw [y2 (fun j' hj' => by
                obtain ⟨_, q2, _, q4⟩ := kk2 _ hj'
                rw [uniq hch q4 hj, hnj] at q2; cases q2)]
              rcases ((chk_pair hch ho (dst_lt hj)).2 t hj).2 ht with ⟨hji, hb⟩ | ⟨hij, hb⟩
              · have hlj := listed_of_bef hch inv.closed i o ho hr j hb (dst_lt hj)
                rw [c2 (fun j' _ _ hun' hd' => by rw [uniq hch hd' hj, hlj] at hun'; cases hun'), c3 j (by omega) hnj hj, (g3 t h).1 j hji hnj hj]
              · have hlj : lst listed j = false := by
                  cases hlj : lst listed j
                  · rfl
                  · obtain ⟨oj, hoj⟩ : ∃ oj, ops[j]? = some oj := ⟨ops[j]'(dst_lt hj), Array.getElem?_eq_getElem _⟩
                    have := listed_of_bef hch inv.closed j oj hoj (fun e he hbb => inv.closed j oj hoj hlj e he hbb) i hb hin
                    rw [hun] at this; cases this
                have hA : (A i).tmps[t]? = a0.tmps[t]? := (g3 t h).2 fun j' hj' _ hd' => by rw [uniq hch hd' hj] at hj'; omega
                rw [hA]
                rcases Nat.lt_or_ge j m with hjm | hjm
                · have hlate2 : late.contains j = true := by
                    cases h6 : late.contains j
                    · rw [inv.head j hjm h6] at hlj; cases hlj
                    · rfl
                  exact c1 j hjm hlate2 hlj hj
                · have hjp : p ≤ j := by
                    rcases Nat.lt_or_ge j p with h6 | h6
                    · rw [inv.done j hjm h6] at hlj; cases hlj
                    · exact h6
                  rw [c2 (fun j' hj' _ _ hd' => by have := uniq hch hd' hj; omega), c4 fun j' hj' hd' => by have := uniq hch hd' hj; omega]
            · rw [y2 (fun j' hj' => hex ⟨j', (kk2 _ hj').2.2.2⟩), c2 (fun j' _ _ _ hd' => hex ⟨j', hd'⟩), c4 (fun j' _ hd' => hex ⟨j', hd'⟩), (g3 t h).2 fun j' _ _ hd' => hex ⟨j', hd'⟩]
          · rw [Array.getElem?_eq_none (by rw [inv.sz]; exact h), Array.getElem?_eq_none (by rw [putL_size, g2]; exact h)]
        have look := look_same (ops := ops) (o := o) (a := a) (a' := putL nv (depOf deps i) (A i)) (fun cs b => Region.noSelect_spec hsel i o cs b ho) hl1
        have hput : ∀ x, NewsP ops news N a0 (a.put o.dst x) := fun x => by rw [← hd]; exact NewsP.put hch ⟨nv, hnv⟩ inv.sz hn x
        obtain ⟨_, o', ho', hfix⟩ := (hstep i him).2 hn
        rw [ho] at ho'; cases ho'
        unfold wpOp
        rw [ho]
        simp only
        rw [look.2]
        rcases hfix with hq | ⟨hw, hv⟩
        · have hq1 := depL_inst (nv := nv) _ _ (fun p hp => (hnv p.1 (kk2 p hp).2.1).1) (hq.1 hl w)
          obtain ⟨hw, hq'⟩ := hq1
          rw [if_pos hw]
          rw [hl] at hq'
          exact .inl (gq_late look.1 hq' (ih2 _ _ ⟨p, inv2_late hch hc2 inv him hl ho hr, hput _⟩))
        · have hw2 := depL_inst (nv := nv) _ _ (fun p hp => (hnv p.1 (kk2 p hp).2.1).1) (hw.1 hl w)
          rw [if_neg (by rw [hw2]; simp), ← hv]
          exact ih2 _ _ ⟨p, inv2_late hch hc2 inv him hl ho hr, hput _⟩
      · have hip : i = p := by
          rcases Nat.lt_or_ge i p with h | h
          · rw [inv.done i him h] at hun; cases hun
          · by_cases hne : i = p
            · exact hne
            · have hmp := inv.mp
              rcases hchain' i hin with h5 | h5
              · omega
              · have := listed_of_bef hch inv.closed i o ho hr (i - 1) h5 (by omega)
                rw [inv.todo (i - 1) (by omega)] at this; cases this
        subst hip
        exact chain fuel listed a w i o ih2 inv hnp ho hr
end

variable {Q : Act → List (Option Tmp × NPred) → Prop} {o : Oper} {r : List Oper} {k : Nat} {a : Act} {L : List (Option Tmp × NPred)}
theorem walk1_nil (h : Q a L) : Walk1 P ops W late news N deps Q [] k a L := h
theorem fixq_nil {K : World → Act → Prop} (hd : depOf deps k = []) (h : ∀ w, late.contains k = true ∨ Gr W w → K w a) : FixQ W late N deps K k a := by
  unfold FixQ; rw [hd]; exact ⟨fun hl w => h w (.inl hl), fun _ w hw => h w (.inr hw)⟩
theorem walk1_no (hn : news.contains k = false) (hd : depOf deps k = []) (hw : Region.wanted o (yielded ops a.tmps) = false)
    (h : ∀ K : Act → Prop, (∀ a', Walk1 P ops W late news N deps Q r (k + 1) a' L → K a') → K (a.put o.dst undef)) : Walk1 P ops W late news N deps Q (o :: r) k a L := by
  have h := h _ (fun _ h => h)
  unfold Walk1; rw [if_neg (by rw [hn]; simp)]; exact .inr ⟨fixq_nil hd fun _ _ => hw, h⟩
theorem walk1_gr (hn : news.contains k = false) (hl : late.contains k = false) (hd : depOf deps k = []) (hw : Region.wanted o (yielded ops a.tmps) = true)
    (h : ∀ K : Act → Prop, (∀ a', Walk1 P ops W late news N deps Q r (k + 1) a' L → K a') → ∃ v, (∀ w, Gr W w → gq P o a w v false) ∧ K (a.put o.dst v)) : Walk1 P ops W late news N deps Q (o :: r) k a L := by
  obtain ⟨v, hq, h⟩ := h _ (fun _ h => h)
  unfold Walk1; rw [if_neg (by rw [hn]; simp)]; exact .inl ⟨v, fixq_nil hd fun w hw' => ⟨hw, by rw [hl]; exact hq w (hw'.resolve_left (by rw [hl]; simp))⟩, h⟩
theorem walk1_pure (hn : news.contains k = false) (hl : late.contains k = true) (hd : depOf deps k = []) (hw : Region.wanted o (yielded ops a.tmps) = true)
    (h : ∀ K : Act → Prop, (∀ a', Walk1 P ops W late news N deps Q r (k + 1) a' L → K a') → ∃ v, (∀ w, gq P o a w v true) ∧ K (a.put o.dst v)) : Walk1 P ops W late news N deps Q (o :: r) k a L := by
  obtain ⟨v, hq, h⟩ := h _ (fun _ h => h)
  unfold Walk1; rw [if_neg (by rw [hn]; simp)]; exact .inl ⟨v, fixq_nil hd fun w _ => ⟨hw, by rw [hl]; exact hq w⟩, h⟩
/-- A fixed value, out of one new value, whenever. -/
theorem walk1_late1 (v : Value) (N1 : NPred) (k1 : Nat) (t1 : Tmp) (hn : news.contains k = false) (hl : late.contains k = true) (hd : depOf deps k = [(k1, t1)]) (h1 : N k1 = N1)
    (hq : ∀ w w1 lo1 hi1 u1, N1 lo1 hi1 u1 w1 → Region.wanted o (yielded ops (a.put (some t1) u1).tmps) = true ∧ gq P o (a.put (some t1) u1) w v true)
    (h : Walk1 P ops W late news N deps Q r (k + 1) (a.put o.dst v) L) : Walk1 P ops W late news N deps Q (o :: r) k a L := by
  subst h1
  unfold Walk1; rw [if_neg (by rw [hn]; simp)]
  refine .inl ⟨v, ?_, h⟩
  unfold FixQ; rw [hd, hl]
  exact ⟨fun _ w lo hi u w1 hu => hq w w1 lo hi u hu, fun e => by cases e⟩
/-- A fixed value, out of new ones. -/
theorem walk1_dep (v : Value) (hn : news.contains k = false) (hl : late.contains k = false)
    (hq : ∀ w, Gr W w → DepN N w (fun a' => Region.wanted o (yielded ops a'.tmps) = true ∧ gq P o a' w v false) (depOf deps k) a)
    (h : Walk1 P ops W late news N deps Q r (k + 1) (a.put o.dst v) L) : Walk1 P ops W late news N deps Q (o :: r) k a L := by
  unfold Walk1; rw [if_neg (by rw [hn]; simp)]
  refine .inl ⟨v, ?_, h⟩
  unfold FixQ; rw [hl]
  exact ⟨fun e => (by cases e), fun _ w hw' => hq w hw'⟩
theorem walk1_new (hn : news.contains k = true) (hs : Stable (N k))
    (hq : ∀ w, Gr W w → DepN N w (fun a' => Region.wanted o (yielded ops a'.tmps) = true ∧ nq P o a' w (N k)) (depOf deps k) a)
    (h : Walk1 P ops W late news N deps Q r (k + 1) a (L ++ [(o.dst, N k)])) : Walk1 P ops W late news N deps Q (o :: r) k a L := by
  unfold Walk1; rw [if_pos hn]; exact ⟨hs, hq, h⟩

/-- A new value, nothing new looked at. -/
theorem walk1_new0 (N' : NPred) (hn : news.contains k = true) (hN : N k = N') (hd : depOf deps k = []) (hw : Region.wanted o (yielded ops a.tmps) = true) (hs : Stable N') (hq : ∀ w, Gr W w → nq P o a w N')
    (h : Walk1 P ops W late news N deps Q r (k + 1) a (L ++ [(o.dst, N')])) : Walk1 P ops W late news N deps Q (o :: r) k a L := by
  subst hN
  refine walk1_new hn hs (fun w hw' => ?_) h
  rw [hd]; exact ⟨hw, hq w hw'⟩
/-- A new value, made of one new value. -/
theorem walk1_new1 (N' N1 : NPred) (k1 : Nat) (t1 : Tmp) (hn : news.contains k = true) (hN : N k = N') (hd : depOf deps k = [(k1, t1)]) (h1 : N k1 = N1) (hs : Stable N')
    (hq : ∀ w, Gr W w → ∀ lo1 hi1 u1, N1 lo1 hi1 u1 w → Region.wanted o (yielded ops (a.put (some t1) u1).tmps) = true ∧ nq P o (a.put (some t1) u1) w N')
    (h : Walk1 P ops W late news N deps Q r (k + 1) a (L ++ [(o.dst, N')])) : Walk1 P ops W late news N deps Q (o :: r) k a L := by
  subst hN
  subst h1
  refine walk1_new hn hs (fun w hw' => ?_) h
  rw [hd]; exact fun lo hi u hu => hq w hw' lo hi u hu
/-- A new value, made of two new values. -/
theorem walk1_new2 (N' N1 N2 : NPred) (k1 : Nat) (t1 : Tmp) (k2 : Nat) (t2 : Tmp) (hn : news.contains k = true) (hN : N k = N') (hd : depOf deps k = [(k1, t1), (k2, t2)]) (h1 : N k1 = N1) (h2 : N k2 = N2) (hs : Stable N')
    (hq : ∀ w, Gr W w → ∀ lo1 hi1 u1, N1 lo1 hi1 u1 w → ∀ lo2 hi2 u2, N2 lo2 hi2 u2 w → Region.wanted o (yielded ops ((a.put (some t1) u1).put (some t2) u2).tmps) = true ∧ nq P o ((a.put (some t1) u1).put (some t2) u2) w N')
    (h : Walk1 P ops W late news N deps Q r (k + 1) a (L ++ [(o.dst, N')])) : Walk1 P ops W late news N deps Q (o :: r) k a L := by
  subst hN
  subst h1
  subst h2
  refine walk1_new hn hs (fun w hw' => ?_) h
  rw [hd]; exact fun lo hi u hu lo2 hi2 u2 hu2 => hq w hw' lo hi u hu lo2 hi2 u2 hu2
theorem walk1_dep1 (v : Value) (N1 : NPred) (k1 : Nat) (t1 : Tmp) (hn : news.contains k = false) (hl : late.contains k = false) (hd : depOf deps k = [(k1, t1)]) (h1 : N k1 = N1)
    (hq : ∀ w, Gr W w → ∀ lo1 hi1 u1, N1 lo1 hi1 u1 w → Region.wanted o (yielded ops (a.put (some t1) u1).tmps) = true ∧ gq P o (a.put (some t1) u1) w v false)
    (h : Walk1 P ops W late news N deps Q r (k + 1) (a.put o.dst v) L) : Walk1 P ops W late news N deps Q (o :: r) k a L := by
  subst h1
  refine walk1_dep v hn hl (fun w hw' => ?_) h
  rw [hd]; exact fun lo hi u hu => hq w hw' lo hi u hu
theorem walk1_dep2 (v : Value) (N1 N2 : NPred) (k1 : Nat) (t1 : Tmp) (k2 : Nat) (t2 : Tmp) (hn : news.contains k = false) (hl : late.contains k = false) (hd : depOf deps k = [(k1, t1), (k2, t2)]) (h1 : N k1 = N1) (h2 : N k2 = N2)
    (hq : ∀ w, Gr W w → ∀ lo1 hi1 u1, N1 lo1 hi1 u1 w → ∀ lo2 hi2 u2, N2 lo2 hi2 u2 w → Region.wanted o (yielded ops ((a.put (some t1) u1).put (some t2) u2).tmps) = true ∧ gq P o ((a.put (some t1) u1).put (some t2) u2) w v false)
    (h : Walk1 P ops W late news N deps Q r (k + 1) (a.put o.dst v) L) : Walk1 P ops W late news N deps Q (o :: r) k a L := by
  subst h1
  subst h2
  refine walk1_dep v hn hl (fun w hw' => ?_) h
  rw [hd]; exact fun lo hi u hu lo2 hi2 u2 hu2 => hq w hw' lo hi u hu lo2 hi2 u2 hu2
/-- **A region that draws its order, walked once.** -/
theorem wp_region_schedd {id : Nat} {Q : Exit → Act → World → Prop} {a : Act} {W : World} {l : List Oper} (m : Nat) (late news : List Nat) (N : Nat → NPred) (deps : List (Nat × List (Nat × Tmp))) (hm : P.follows .mixedOrders = true)
    (hchk : (Region.noSelect l.toArray && chk1 l.toArray (Region.before l.toArray) && chk2 l.toArray (Region.before l.toArray) m late news deps) = true)
    (h : Walk1 P l.toArray W late news N deps (fun a' L => ∀ w', Gr W w' → EndN W w' (fun a'' => Walk2 P l.toArray (Q .normal) (l.drop m) a'' w') L [] a') (l.take m) 0 a []) :
    (Code.region id l.toArray true).wp P Q a W := by
  simp only [Bool.and_eq_true] at hchk
  obtain ⟨⟨hsel, hch⟩, hc2⟩ := hchk
  have hmn : m ≤ l.length := by
    have := (chk2_parts hc2).1
    simpa using this
  have hlen : (l.take m).length = m := by simp; omega
  obtain ⟨A, v, hA0, hstep, hend⟩ := walk1_ext (l.take m) 0 a [] (fun j hj => by
    rw [hlen] at hj
    simp [hj]) h
  rw [hlen] at hstep hend
  refine wp_region_any hm (sched_any hch hc2 hsel (A := A) (v := v) (N := N) hA0 (fun i hi => hstep i (Nat.zero_le _) (by omega)) (fun w' hw' => ?_) _ _ _ _ ?_ (.inl ?_))
  · simpa using hend w' hw'
  · have : ∀ k, k ≤ l.toArray.size → cnt (Array.replicate l.toArray.size false) k = k := by
      intro k
      induction k with
      | zero => intro _; rfl
      | succ k ih =>
        intro hk
        have e : lst (Array.replicate l.toArray.size false) k = false := by
          unfold lst; simp only [Array.getD_eq_getD_getElem?]; rw [Array.getElem?_eq_getElem (by simp only [Array.size_replicate]; omega)]; simp
        simp only [cnt, e, ih (by omega)]; simp
    exact this _ (Nat.le_refl _)
  · have e : ∀ k, lst (Array.replicate l.toArray.size false) k = false := by
      intro k
      unfold lst
      simp only [Array.getD_eq_getD_getElem?, Array.getElem?_replicate]
      split <;> rfl
    have no : ∀ {k : Nat} {p : Prop}, lst (Array.replicate l.toArray.size false) k = true → p := fun {k p} h => by rw [e k] at h; cases h
    exact ⟨by simp, fun i o ho hl => no hl, fun i _ => e i, ⟨rfl, rfl, rfl, Nat.le_refl _, fun _ _ _ => rfl⟩, rfl, rfl,
      fun _ => undef, fun _ => 0, fun _ => 0, fun t ht j hj hl => no hl, fun t ht _ => rfl, fun j hj hl => no hl, fun i j _ _ _ hl _ => no hl⟩
end SchedL
end Go.Proofs.YtcleegibdcphiaaDoor

namespace Go.Proofs.YtcleegibdcphiaaDoor
open Go.ChangeShapes Go.WideShapes Go.ChangeAt Go.RowKit
open Cod
theorem anew_facts {W V WN : World} {A : An} (hv : V = W.alloc (.cells #[.int .i64 0, .int .i64 0, .int .i64 0, .int .i64 0, .int .i64 0] 29)) (hw : WN = V.setCells W.heap.size 0 (AList A)) : V.there W.heap.size 0 5 ∧ ABlk W.heap.size A WN ∧ Gr W WN := by
  have h1 : ABlk W.heap.size zeroA V := by rw [hv]; exact heap_alloc_new _ _
  refine ⟨ablk_there h1, by rw [hw]; exact ablk_put h1 A, ?_⟩
  rw [hw]
  exact grown_setCells_new (by rw [hv]; exact Gr.alloc _ _) (Nat.le_refl _) _ _
theorem CBlk.load {g : Nat} {p : Cl} {w : World} (hb : CBlk g p w) {o : Oper} {a : Act} {late : Bool} (x : Operand) (ho : o.op = .load 27 x) (hx : a.eval x = .pointer (some ⟨g, 0, none⟩)) : Sched.gq Tryd.prog o a w (CVal p) late :=
  Sched.pq_load_row 27 x ho g hx _ _ _ _ hb Tryd.underlying27 rfl (by kernel_rfl)
def NRcT (B : Nat) (R : Cl) (S : List Int) : Sched.NPred := fun _ _ v w => ∃ r : Cl, v = .tuple #[CVal r, .slice none 0 0, .bool false, .int .i64 0] ∧ r.Like R ∧ OwnI B 3 .i64 w r.a r.len r.cap S
theorem NRcT.stable (B : Nat) (R : Cl) (S : List Int) : Sched.Stable (NRcT B R S) := by
  rintro lo hi v w w' ⟨r, h1, h2, h3⟩ hg
  exact ⟨r, h1, h2, h3.stay hg⟩
def NRcC (B : Nat) (R : Cl) (S : List Int) : Sched.NPred := fun _ _ v w => ∃ r : Cl, v = CVal r ∧ r.Like R ∧ OwnI B 3 .i64 w r.a r.len r.cap S
theorem NRcC.stable (B : Nat) (R : Cl) (S : List Int) : Sched.Stable (NRcC B R S) := by
  rintro lo hi v w w' ⟨r, h1, h2, h3⟩ hg
  exact ⟨r, h1, h2, h3.stay hg⟩
def SilRel (g5 len : Nat) (w : World) (t : Value) (wr : World) : Prop := ∃ (i : Nat) (c : Cl) (ss : List Int), i ≤ len ∧ i ≤ 8 ∧ t = .int .i64 i ∧ CBlk g5 c wr ∧ Rd .i64 wr c.a c.len ss ∧ c.len ≤ 5000 ∧
  (c.some = false ∨ c.fresh = (((i + 1) % 2 : Nat) : Int)) ∧ (∀ b off, 0 < c.len → c.a = some ⟨b, off, none⟩ → b ≠ g5) ∧ Gr w wr
set_option maxRecDepth 20000 in
set_option maxHeartbeats 1000000 in
theorem silence_walk (a : Option Addr) (len cap : Nat) (xs : List Int) (N : Nat) (w : World) (hl : LaidIn w) (hr : Rd .u8 w a len xs) (hm : len ≤ 4611686018427387904) (hN : N ≤ 255) :
    Calls Tryd.prog 7 #[.slice a len cap, .int .u8 (N : Int)] w fun e w' => e = .returned (.bool true) ∧ Gr w w' := by
  have HL := Lib.hid hl
  have HR := Lib.hid hr
  clear hl hr
  go_enter Tryd.func7, Tryd.ntmps7
  obtain ⟨v1, hv⟩ : ∃ y, y = (w).alloc (.cells #[.int .i64 0, .int .i64 0, .slice none 0 0, .bool false, .bool false] 27) := ⟨_, rfl⟩
  obtain ⟨w1, hw⟩ : ∃ y, y = v1.setCells (w).heap.size 0 (CList zeroC) := ⟨_, rfl⟩
  obtain ⟨hf1, hf2, hf3⟩ := cnew_facts hv hw
  have HV1 := Lib.hid hv
  have HW1 := Lib.hid hw
  have HTH1 := Lib.hid hf1
  have HPB1 := Lib.hid hf2
  have HGR1 := Lib.hid hf3
  clear hv hw hf1 hf2 hf3
  go_upto_region 2 with (rw [← HV1.out]; refine wpList_store_mid rfl 27 _ _ rfl w.heap.size 0 (CList zeroC).toArray rfl rfl HTH1.out (by kernel_rfl) (clist_one _) ?_; rw [← HW1.out])
  clear HV1 HW1 HTH1
  obtain ⟨g5, h5⟩ : ∃ y, w.heap.size = y := ⟨_, rfl⟩
  have hcb := HPB1.out
  rw [h5] at hcb
  rw [h5]
  have HCB := Lib.hid hcb
  have HG5 := Lib.hid (show w.heap.size ≤ g5 by omega)
  clear h5 hcb HPB1
  go_wp2_with fail
  go_loopw [6] (fun t wr => SilRel g5 len w t wr) (fun t _ => 8 - (intOf t).toNat)
  case atStart => exact ⟨0, zeroC, [], by omega, by omega, rfl, HCB.out, ⟨rfl, by simp, by simp [zeroC], .inl rfl⟩, by decide, .inl rfl, (fun b off h0 => by cases h0), HGR1.out⟩
  case round =>
    clear HCB HGR1
    obtain ⟨i, c, ss, hi1, hi2, rfl, hcb, hrc, hcl, hnew, hfar, hg⟩ := hrel
    have HCB := Lib.hid hcb
    have HRC := Lib.hid hrc
    have HCL := Lib.hid hcl
    have HNEW := Lib.hid hnew
    have HFAR := Lib.hid hfar
    have HG := Lib.hid hg
    clear hcb hrc hcl hnew hfar hg
    by_cases hlt : i < len
    · by_cases hlt8 : i < 8
      · obtain ⟨bb, off, hab, hb, hcell⟩ := HR.out.some (by omega)
        have hrx := bounds_u8 (HR.out.2.1 (xs[i]?.getD 0) (by
          rw [List.getElem?_eq_getElem (by rw [HR.out.1]; exact hlt)]; exact List.getElem_mem _))
        obtain ⟨x, hx⟩ : ∃ x, xs[i]?.getD 0 = x := ⟨_, rfl⟩
        have ck := HG.out.cell (hcell i hlt)
        rw [hx] at ck hrx
        subst hab
        obtain ⟨n, hn⟩ : ∃ n : Nat, 1 + x % 20 = n := ⟨(1 + x % 20).toNat, by omega⟩
        have hn1 : 1 ≤ n ∧ n ≤ 20 := by omega
        obtain ⟨M, hM⟩ : ∃ M : Nat, 1 + (N : Int) = M := ⟨1 + N, by omega⟩
        have hM1 : 1 ≤ M ∧ M ≤ 256 := by omega
        clear hx hb hcell
        obtain ⟨A, hA⟩ : ∃ A : An, A = ⟨0, (i : Int) % 2, (i : Int) % 4, n, M⟩ := ⟨_, rfl⟩
        obtain ⟨v2, hv2⟩ : ∃ y, y = wr.alloc (.cells #[.int .i64 0, .int .i64 0, .int .i64 0, .int .i64 0, .int .i64 0] 29) := ⟨_, rfl⟩
        obtain ⟨w2, hw2⟩ : ∃ y, y = v2.setCells wr.heap.size 0 (AList A) := ⟨_, rfl⟩
        obtain ⟨t1, t2, t3⟩ := anew_facts hv2 hw2
        have HT1 := Lib.hid t1
        have HAB := Lib.hid t2
        have HG2 := Lib.hid t3
        have HV2 := Lib.hid hv2
        have HW2 := Lib.hid hw2
        have HA := Lib.hid hA
        clear t1 t2 t3 hv2 hw2 hA
        go_upto_region 6 with (rw [← HV2.out]; refine wpList_store_mid rfl 29 _ _ rfl wr.heap.size 0 (AList A).toArray rfl (by rw [HA.out]; rfl) HT1.out (by kernel_rfl) (alist_one _) ?_; rw [← HW2.out])
        clear HV2 HW2 HT1 ck hn hrx hM
        have hAB : anB A = true := by rw [HA.out]; unfold anB sizedB codedB; rw [decide_eq_true (by dsimp only; omega), decide_eq_true (by dsimp only; omega), decide_eq_true (by dsimp only; omega)]; rfl
        have hNB : newB c A = true := by
          unfold newB
          rcases HNEW.out with h | h
          · rw [h]; rfl
          · have h2 : c.fresh ≠ A.fresh := by rw [h, HA.out]; dsimp only; omega
            rw [decide_eq_true h2]; simp
        have hrec := rec_0 (c := c) (ss := ss) (A := A) (n := n) (N := M) hAB hNB (by rw [HA.out]) hn1 (by rw [HA.out])
        obtain ⟨R, hR⟩ : ∃ R : Cl, R = ⟨A.fresh, A.size, none, totN n, 0, true, false⟩ := ⟨_, rfl⟩
        rw [← hR] at hrec
        have hRl : R.len ≤ 5000 := by rw [hR]; show totN n ≤ 5000; unfold totN; omega
        have hRf : R.fresh = (i : Int) % 2 := by rw [hR, HA.out]
        have hRd : R.done = false := by rw [hR]
        have hRl2 : R.len = totN n := by rw [hR]
        have HREC := Lib.hid hrec
        have HRF := Lib.hid (And.intro hRf (And.intro hRd hRl))
        have HTL := Lib.hid hRl2
        clear hAB hNB hrec hR hRl hRf hRd hRl2 hn1
        have HC2 := Lib.hid (HCB.out.kept HG2.out)
        have HGw := Lib.hid (HG.out.trans HG2.out)
        have HRC2 := Lib.hid (rd_gr HRC.out HG2.out)
        have HS2 := Lib.hid (heap_lt HC2.out)
        have hco : A.coded = (M : Int) := by rw [HA.out]
        have cco := ablk_at HAB.out 4 (v := .int .i64 (M : Int)) (by rw [← hco]; rfl)
        have cc4 : ∀ u, Gr w2 u → u.cell? ⟨wr.heap.size, 4, none⟩ = some (.int .i64 (M : Int)) := fun u hu => hu.cell cco
        have hmk := fun u => make_ints M (by omega) u
        obtain ⟨B, hB⟩ : ∃ B, w2.heap.size = B := ⟨_, rfl⟩
        have hS2 := HS2.out
        rw [hB] at hS2
        have HS2B := Lib.hid hS2
        have HB := Lib.hid hB
        clear hB hS2 hco cco HCB HG HRC
        refine SchedL.wp_region_schedd 12 [8, 9, 10] [4, 5, 6, 7, 11] (SchedD.nsel [(4, NOwnI B M (List.replicate M 0)), (5, NRcT B R (List.replicate (totN n) 0)), (6, NRcT B R (List.replicate (totN n) 0)), (7, NRcC B R (List.replicate (totN n) 0)), (11, Sched.NBlock (.cells #[.int .i64 0, .int .i64 0, .slice none 0 0, .bool false, .bool false] 27))]) [(5, [(4, 43)]), (6, [(5, 44)]), (7, [(6, 38)]), (8, [(6, 38)]), (9, [(6, 38)]), (10, [(6, 38)])] (by kernel_rfl) (by kernel_rfl) ?_
        simp only [List.take_succ_cons, List.take_zero, List.drop_succ_cons, List.drop_zero]
        refine SchedL.walk1_gr rfl rfl rfl rfl (fun K hK => ?_)
        refine ⟨CVal c, fun w1 hw1 => (HC2.out.kept hw1).load _ rfl rfl, ?_⟩
        simp only [Act.put, List.setIfInBounds_toArray, List.set_cons_zero, List.set_cons_succ]
        refine hK _ ?_
        clear hK K
        refine SchedL.walk1_gr rfl rfl rfl rfl (fun K hK => ?_)
        refine ⟨AVal A, fun w1 hw1 => (HAB.out.kept hw1).load _ rfl rfl, ?_⟩
        simp only [Act.put, List.setIfInBounds_toArray, List.set_cons_zero, List.set_cons_succ]
        refine hK _ ?_
        clear hK K
        repeat (first | ((with_reducible refine SchedL.walk1_no ?_ ?_ ?_ (fun K hK => ?_)); (focus rfl); (focus rfl); (focus rfl); simp only [Act.put, List.setIfInBounds_toArray, List.set_cons_zero, List.set_cons_succ]; refine hK _ ?_; clear hK K) | ((with_reducible refine SchedL.walk1_gr ?_ ?_ ?_ ?_ (fun K hK => ?_)); (focus rfl); (focus rfl); (focus rfl); (focus rfl); apply Exists.intro; refine ⟨fun w1 hw1 => ?_, ?_⟩; (focus (go_simp; (try go_ints); (try (simp only [IntWalk.iteOmega]; go_simp)); first | done | fail | (with_reducible rfl) | (with_reducible exact ⟨rfl, rfl⟩))); simp only [Act.put, List.setIfInBounds_toArray, List.set_cons_zero, List.set_cons_succ]; refine hK _ ?_; clear hK K) | ((with_reducible refine SchedL.walk1_pure ?_ ?_ ?_ ?_ (fun K hK => ?_)); (focus rfl); (focus rfl); (focus rfl); (focus rfl); apply Exists.intro; refine ⟨fun w1 => ?_, ?_⟩; (focus (go_simp; (try go_ints); (try (simp only [IntWalk.iteOmega]; go_simp)); first | done | (with_reducible rfl) | (with_reducible exact ⟨rfl, rfl⟩))); simp only [Act.put, List.setIfInBounds_toArray, List.set_cons_zero, List.set_cons_succ]; refine hK _ ?_; clear hK K))
        refine SchedL.walk1_new0 (NOwnI B M (List.replicate M 0)) rfl rfl rfl rfl (NOwnI.stable _ _ _) (fun u hu => ?_) ?_
        · go_simp
          exact ⟨Gr.alloc _ _, _, _, rfl, own_made B M u (by have := hu.size; have := HB.out; omega) (by simp only [maxLen]; omega)⟩
        refine SchedL.walk1_new1 (NRcT B R (List.replicate (totN n) 0)) (NOwnI B M (List.replicate M 0)) 4 43 rfl rfl rfl rfl (NRcT.stable _ _ _) (fun u hu lo1 hi1 u1 q1 => ?_) ?_
        · obtain ⟨a8, c8, rfl, ho8⟩ := q1
          refine ⟨rfl, ?_⟩
          go_simp
          go_at_call 22
          refine (receive_all c ss A a8 M c8 (List.replicate M 0) u (HL.out.kept (HGw.out.trans hu)) (rd_gr HRC2.out hu) (by have := HCL.out; omega) ho8.rd).mono ?_
          rw [HREC.out]
          rintro e w9 ⟨a9, c9, ab, cb, rfl, ho9, -, hgr, hnil⟩
          obtain ⟨rfl, rfl⟩ := hnil rfl
          exact ⟨_, rfl, hgr, { R with a := a9, cap := c9 }, rfl, ⟨rfl, rfl, rfl, rfl, rfl⟩, ho9.weak29 (by have := hu.size; have := HB.out; omega)⟩
        refine SchedL.walk1_new1 (NRcT B R (List.replicate (totN n) 0)) (NRcT B R (List.replicate (totN n) 0)) 5 44 rfl rfl rfl rfl (NRcT.stable _ _ _) (fun u hu lo1 hi1 u1 q1 => ?_) ?_
        · obtain ⟨r, rfl, q2, q3⟩ := q1
          refine ⟨rfl, ?_⟩
          go_simp
          exact ⟨Gr.refl _, r, rfl, q2, q3⟩
        refine SchedL.walk1_new1 (NRcC B R (List.replicate (totN n) 0)) (NRcT B R (List.replicate (totN n) 0)) 6 38 rfl rfl rfl rfl (NRcC.stable _ _ _) (fun u hu lo1 hi1 u1 q1 => ?_) ?_
        · obtain ⟨r, rfl, q2, q3⟩ := q1
          refine ⟨rfl, ?_⟩
          go_simp
          exact ⟨Gr.refl _, r, rfl, q2, q3⟩
        refine SchedL.walk1_late1 (.slice none 0 0) (NRcT B R (List.replicate (totN n) 0)) 6 38 rfl rfl rfl rfl (fun u u' lo1 hi1 u1 q1 => ?_) ?_
        · obtain ⟨r, rfl, q2, q3⟩ := q1
          refine ⟨rfl, ?_⟩
          go_simp
          first | done | exact ⟨rfl, rfl⟩
        refine SchedL.walk1_late1 (.bool false) (NRcT B R (List.replicate (totN n) 0)) 6 38 rfl rfl rfl rfl (fun u u' lo1 hi1 u1 q1 => ?_) ?_
        · obtain ⟨r, rfl, q2, q3⟩ := q1
          refine ⟨rfl, ?_⟩
          go_simp
          first | done | exact ⟨rfl, rfl⟩
        refine SchedL.walk1_late1 (.int .i64 0) (NRcT B R (List.replicate (totN n) 0)) 6 38 rfl rfl rfl rfl (fun u u' lo1 hi1 u1 q1 => ?_) ?_
        · obtain ⟨r, rfl, q2, q3⟩ := q1
          refine ⟨rfl, ?_⟩
          go_simp
          first | done | exact ⟨rfl, rfl⟩
        refine SchedL.walk1_new0 (Sched.NBlock (.cells #[.int .i64 0, .int .i64 0, .slice none 0 0, .bool false, .bool false] 27)) rfl rfl rfl rfl (Sched.NBlock.stable _) (fun u hu => ?_) ?_
        · go_simp
          exact ⟨Gr.alloc _ _, rfl, by simp, heap_alloc_new _ _⟩
        (with_reducible refine SchedL.walk1_nil ?_)
        intro wq hwq
        dsimp only [Sched.EndN, List.nil_append, List.cons_append, Act.put]
        rintro - - v4 ⟨a4, c4, rfl, -⟩ - - - - - - v5 ⟨r5, rfl, -, -⟩ - - - - - - v6 ⟨r6, rfl, -, -⟩ - - - - - - v7 ⟨r7, rfl, hr7, ho7⟩ - - - - lo8 hi8 v8 ⟨rfl, hlt8', hblk8⟩ hlo8 hle8 hhi8 -
        (try simp only [List.setIfInBounds_toArray, List.set_cons_zero, List.set_cons_succ])
        have hcb8 : CBlk lo8 zeroC wq := hblk8
        have hsq := HC2.out.kept hwq
        have hlo : B ≤ lo8 := by rw [← HB.out]; exact hlo8
        have hgb := HS2B.out
        obtain ⟨x1, hx1⟩ : ∃ y, y = wq.setCells lo8 0 (CList r7) := ⟨_, rfl⟩
        have hb8 : CBlk lo8 r7 x1 := by rw [hx1]; exact cblk_put hcb8 r7
        have hb5 : CBlk g5 c x1 := by rw [hx1]; exact cblk_other hsq _ (by omega)
        have hg5' := HG5.out
        have hgx : Gr w x1 := by rw [hx1]; exact grown_setCells_new (HGw.out.trans hwq) (by omega) _ _
        have hrd7 : Rd .i64 x1 r7.a r7.len (List.replicate (totN n) 0) ∧ ∀ b off, 0 < r7.len → r7.a = some ⟨b, off, none⟩ → b ≠ g5 := by
          refine ⟨?_, fun b off h0 he => ?_⟩
          · rw [hx1]
            refine rd_keptBut ho7.rd (grown_setCells lo8 (CList r7) 0 wq) (fun b off h0 he h3 => ?_)
            have hbl : b = lo8 := by injection h3
            subst hbl
            obtain ⟨b', off', e', _, hc'⟩ := ho7.rd.some h0
            rw [he] at e'
            injection e' with e'
            injection e' with e1 e2
            subst e1 e2
            have h1 := hc' 0 h0
            rw [cell_of_block hcb8] at h1
            have h2 := hc' 2
            have hoff : off = 0 := by
              have h9 := ho7.row.2
              rcases h9 with ⟨_, h0'⟩ | ⟨g, cap', cur, hv, _⟩
              · omega
              · rw [he] at hv; injection hv with hv; injection hv with hv; injection hv
            subst hoff
            have h2 := hc' 2 (by rw [hr7.len, HTL.out]; unfold totN; omega)
            rw [cell_of_block hcb8] at h2
            simp [CCells, zeroC] at h2
          · have h3 := (ho7.below b (by rw [he]; rfl)).1
            omega
        have HT8 := Lib.hid (cblk_there hcb8)
        have HX1 := Lib.hid hx1
        have HB8 := Lib.hid hb8
        have HB5 := Lib.hid hb5
        have HGX := Lib.hid hgx
        have HR7 := Lib.hid hr7
        have HRD7 := Lib.hid hrd7
        have HL58 := Lib.hid (show g5 ≠ lo8 by omega)
        clear hcb8 hsq hlo hgb hx1 hb8 hb5 hg5' hgx hr7 hrd7 hwq ho7 hblk8 hlt8' hlo8 hle8 hhi8 HC2 HAB HRC2 HGw cc4 hmk
        refine Sched.walk2_go rfl (fun K hK => ?_)
        refine tq_storeH 27 _ _ rfl lo8 0 (CList r7).toArray rfl rfl HT8.out (by kernel_rfl) (clist_one _) ?_
        rw [← HX1.out]
        dsimp only [Act.put]
        try simp only [List.setIfInBounds_toArray, List.set_cons_zero, List.set_cons_succ]
        refine hK _ _ ?_
        clear hK K HT8 HX1
        repeat (first | (refine Sched.walk2_no rfl (fun K hK => ?_); simp only [Act.put, List.setIfInBounds_toArray, List.set_cons_zero, List.set_cons_succ]; refine hK _ ?_; clear hK K) | (refine Sched.walk2_go rfl (fun K hK => ?_); go_simp; (try go_ints); (try (simp only [IntWalk.iteOmega]; go_simp)); first | (refine hK _ _ ?_; clear hK K) | fail))
        refine Sched.walk2_nil ?_
        have c84 := cblk_at HB8.out 4 (v := .bool false) (by show some (Value.bool r7.done) = _; rw [HR7.out.done, HRF.out.2.1])
        have hbu := HB8.out
        unfold CBlk CCells at hbu
        have HBU := Lib.hid hbu
        obtain ⟨x2, hx2⟩ : ∃ y, y = x1.setCells g5 0 (CList r7) := ⟨_, rfl⟩
        have hq5 : CBlk g5 r7 x2 := by rw [hx2]; exact cblk_put HB5.out r7
        have hg5' := HG5.out
        have hgx2 : Gr w x2 := by rw [hx2]; exact grown_setCells_new HGX.out hg5' _ _
        have hrd2 : Rd .i64 x2 r7.a r7.len (List.replicate (totN n) 0) := by
          rw [hx2]
          exact rd_keptBut HRD7.out.1 (grown_setCells g5 (CList r7) 0 x1) (fun b off h0 he h3 => HRD7.out.2 b off h0 he (by injection h3))
        have HT5 := Lib.hid (cblk_there HB5.out)
        have HX2 := Lib.hid hx2
        have HQ5 := Lib.hid hq5
        have HGX2 := Lib.hid hgx2
        have HRD2 := Lib.hid hrd2
        clear hbu hx2 hq5 hg5' hgx2 hrd2 HB5 HB8 HGX
        go_wp2_with (first | (refine wpList_load_w rfl 27 _ rfl lo8 rfl 27 _ _ _ HBU.out Tryd.underlying27 rfl (by kernel_rfl) ?_) | (refine wpList_store_mid rfl 27 _ _ rfl g5 0 (CList r7).toArray rfl rfl HT5.out (by kernel_rfl) (clist_one _) ?_; rw [← HX2.out]))
        go_roundw
        case rel =>
          refine ⟨i + 1, r7, _, by omega, by omega, by go_num, HQ5.out, HRD2.out, ?_, .inr ?_, HRD7.out.2, HGX2.out⟩
          · rw [HR7.out.len]; exact HRF.out.2.2
          · rw [HR7.out.fresh, HRF.out.1]; omega
        case measure => (simp [intOf] <;> omega)
      · obtain rfl : i = 8 := by omega
        go_wp2_with fail
        refine (awake29 wr (HL.out.kept HG.out)).mono ?_
        rintro e w40 ⟨rfl, hg40⟩
        have HG40 := Lib.hid (HG.out.trans hg40)
        clear hg40
        go_wp2_with fail
        go_ret
        exact ⟨rfl, HG40.out⟩
    · obtain rfl : i = len := by omega
      go_wp2_with fail
      refine (awake29 wr (HL.out.kept HG.out)).mono ?_
      rintro e w40 ⟨rfl, hg40⟩
      have HG40 := Lib.hid (HG.out.trans hg40)
      clear hg40
      go_wp2_with fail
      go_ret
      exact ⟨rfl, HG40.out⟩
set_option maxRecDepth 20000 in
theorem silence_fit (a : Option Addr) (len cap : Nat) (xs : List Int) (N : Int) (w : World) (hl : LaidIn w) (hr : Rd .u8 w a len xs) (_h1 : len ≤ cap) (_h2 : len ≤ 140737488351232) (hN : 0 ≤ N ∧ N ≤ 255) :
    Calls Tryd.prog 7 #[.slice a len cap, .int .u8 N] w fun e w' => e = .returned (.bool true) ∧ Below w.heap.size w w' := by
  obtain ⟨M, rfl⟩ : ∃ M : Nat, N = M := ⟨N.toNat, by omega⟩
  exact (silence_walk a len cap xs M w hl hr (by omega) (by omega)).mono fun _ _ ⟨he, hg⟩ => ⟨he, Below.of_none hg⟩
end Go.Proofs.YtcleegibdcphiaaDoor
