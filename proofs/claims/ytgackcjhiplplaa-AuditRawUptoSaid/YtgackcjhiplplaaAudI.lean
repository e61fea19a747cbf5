/- Layer 44 (audit): logs that are made; the plain law of AuditImplies. -/
import Derived.Test.YtgackcjhiplplaaAudG
namespace Go.Proofs.Ytgackcjhiplplaa
open Go.ChangeShapes Go.WideShapes Go.ChangeAt Go.RowKit

theorem getD_byte44 {l : List Int} (h : ∀ x ∈ l, 0 ≤ x ∧ x ≤ 255) (i : Nat) : 0 ≤ l[i]?.getD 0 ∧ l[i]?.getD 0 ≤ 255 := by
  rcases Nat.lt_or_ge i l.length with hi | hi
  · simp only [List.getElem?_eq_getElem hi, Option.getD_some]; exact h _ (List.getElem_mem hi)
  · simp [List.getElem?_eq_none hi]
theorem Rd.bytes {w : World} {a : Option Addr} {len : Nat} {xs : List Int} (h : Rd .u8 w a len xs) : ∀ x ∈ xs, 0 ≤ x ∧ x ≤ 255 := fun x hx => bounds_u8 (h.2.1 x hx)
/-! ### owned logs -/
theorem info_rec2 : (Try.prog.info? 27).map (fun i => (i.zero, i.size, i.bytes)) = some (some (.agg #[.int .i64 0, .int .i64 0, .int .i64 0, .int .i64 0, .int .i64 0, .int .i64 0, .slice none 0 0]), 7, 72) := by kernel_rfl
def OwnL (B : Nat) (w : World) (a : Option Addr) (n cap : Nat) (L : List Rec) : Prop :=
  w.ownsRow B 27 7 (.slice a n cap) n (L.flatMap RCells) ∧ (∀ r ∈ L, Rd .u8 w r.a r.n r.xs) ∧ ∀ r ∈ L, ∀ b off, 0 < r.n → r.a = some ⟨b, off, none⟩ → (Value.slice a n cap).ownBlock ≠ some b
theorem OwnL.nil (B : Nat) (w : World) : OwnL B w none 0 0 [] := ⟨World.ownsRow_nil w B _ 7, by simp, by simp⟩
theorem OwnL.stay {B : Nat} {w w' : World} {a : Option Addr} {n cap : Nat} {L : List Rec} (h : OwnL B w a n cap L) (hg : Gr w w') : OwnL B w' a n cap L :=
  ⟨h.1.kept hg (by cases hv : (Value.slice a n cap).ownBlock <;> simp), fun r hr => (h.2.1 r hr).kept hg, h.2.2⟩
theorem OwnL.len {B : Nat} {w : World} {a : Option Addr} {n cap : Nat} {L : List Rec} (h : OwnL B w a n cap L) : L.length = n := by
  have h1 := h.1.1
  rw [flat_len RCells 7 L (fun _ _ => rfl)] at h1
  omega
theorem OwnL.le_cap {B : Nat} {w : World} {a : Option Addr} {n cap : Nat} {L : List Rec} (h : OwnL B w a n cap L) : n ≤ cap := by
  rcases h.1.2 with ⟨hv, h0⟩ | ⟨g, cap', cur, hv, _, _, hn, _⟩
  · omega
  · injection hv with _ _ e3; omega
theorem own_segL {w : World} {B : Nat} {e : TypeId} {size : Nat} {a : Option Addr} {n cap : Nat} {vs : List Value} (h : w.ownsRow B e size (.slice a n cap) n vs) : Seg w a vs := by
  have hl := h.1
  rcases h.2 with ⟨hv, h0⟩ | ⟨g, cap', cur, hv, hb, hg, hn, hm, hs, ht⟩
  · left
    rw [h0, Nat.zero_mul] at hl
    exact List.eq_nil_of_length_eq_zero hl
  · injection hv with e1 e2 e3
    subst e1
    right
    refine ⟨g, 0, rfl, ?_, fun i hi => ?_⟩
    · rcases Nat.lt_or_ge g w.heap.size with h1 | h1
      · exact h1
      · rw [Array.getElem?_eq_none h1] at hg; cases hg
    · have hc := h.cells (g := g) rfl i vs[i] (by simp [hi])
      rw [addr_add] at hc
      rw [hc]; simp [hi]
theorem OwnL.rd {B : Nat} {w : World} {a : Option Addr} {n cap : Nat} {L : List Rec} (h : OwnL B w a n cap L) (hn : n ≤ 1000000) : RdL w a n L :=
  ⟨h.len, hn, own_segL h.1, h.2.1⟩
/-- New records are put behind. -/
theorem OwnL.app {B : Nat} {w : World} {a : Option Addr} {n cap : Nat} {L : List Rec} (h : OwnL B w a n cap L) (R : List Rec) (m : Nat) (hR : R.length = m) (hd : ∀ r ∈ R, Rd .u8 w r.a r.n r.xs) (hne : ∀ r ∈ R, ∀ b off, 0 < r.n → r.a = some ⟨b, off, none⟩ → (Value.slice a n cap).ownBlock ≠ some b)
    (q : Addr) (hq : Seg w (some q) (R.flatMap RCells)) (hn : n + m ≤ 1000000) (hB : B ≤ w.heap.size) (N : Nat) (hN : N = n + m) (hm : 0 < m) :
    ∃ a' cap' w', (Builtin.append_ #[25, 25] 25 #[.slice a n cap, .slice (some q) m m]).run Try.prog w = .ok (.slice a' N cap') w' ∧ OwnL B w' a' N cap' (L ++ R) ∧ w.grownBy w' (Value.slice a n cap).ownBlock := by
  subst hN
  obtain ⟨h1, h2, h3⟩ := h
  obtain ⟨i0, hi, hz0, hz1, hz2⟩ := info_parts info_rec2
  obtain ⟨v', w', hr, ho, hg, hf, -⟩ := run_app (P := Try.prog) B 25 25 27 i0 _ 7 72 Try.underlying25 hi hz0 hz1 hz2 rfl (by omega) w _ n _ h1 (some q) m m (R.flatMap RCells) (by rw [flat_len RCells 7 R (fun _ _ => rfl), hR]) hq (by
    intro u hu
    obtain ⟨r, _, hu⟩ := List.mem_flatMap.1 hu
    simp only [RCells, List.mem_cons, List.not_mem_nil, or_false] at hu
    rcases hu with rfl | rfl | rfl | rfl | rfl | rfl | rfl <;> rfl) (by simp) (by simp only [maxLen]; omega) (by omega) hB
  have hv : ∃ a' cap', v' = .slice a' (n + m) cap' := by
    rcases ho.2 with ⟨_, h0⟩ | ⟨g, cap', cur, rfl, _⟩
    · omega
    · exact ⟨_, _, rfl⟩
  obtain ⟨a', cap', rfl⟩ := hv
  have hall : ∀ r ∈ L ++ R, Rd .u8 w r.a r.n r.xs := fun r hr => by
    rcases List.mem_append.1 hr with h | h
    · exact h2 r h
    · exact hd r h
  have hlt : ∀ r ∈ L ++ R, ∀ b off, 0 < r.n → r.a = some ⟨b, off, none⟩ → b < w.heap.size := by
    intro r hr b off h0 he
    obtain ⟨b', off', e, hb, _⟩ := (hall r hr).some h0
    rw [he] at e; injection e with e; injection e with e1 e2; omega
  have hne2 : ∀ r ∈ L ++ R, ∀ b off, 0 < r.n → r.a = some ⟨b, off, none⟩ → (Value.slice a n cap).ownBlock ≠ some b := by
    intro r hr
    rcases List.mem_append.1 hr with hr | hr
    · exact h3 r hr
    · exact hne r hr
  refine ⟨a', cap', w', hr, ⟨by rw [List.flatMap_append]; exact ho, fun r hr => rd_keptBut (hall r hr) hg (fun b off h0 he => fun e => hne2 r hr b off h0 he e.symm), ?_⟩, hg⟩
  intro r hr b off h0 he
  rcases hf with e | ⟨g, e, hg2⟩
  · rw [e]; exact hne2 r hr b off h0 he
  · rw [e]; intro h; injection h with h; have := hlt r hr b off h0 he; omega
theorem OwnL.grown {B : Nat} {w0 w1 w2 : World} {a : Option Addr} {n cap : Nat} {L : List Rec} (h : Gr w0 w1) (ho : OwnL B w1 a n cap L) (hB : w0.heap.size ≤ B) (hg : w1.grownBy w2 (Value.slice a n cap).ownBlock) : Gr w0 w2 := by
  refine grownBy_trans h hg ?_
  cases hv : (Value.slice a n cap).ownBlock with
  | none => exact .inr (.inl rfl)
  | some g => exact .inr (.inr ⟨g, rfl, by have := (ho.1.lt g hv).1; omega⟩)
theorem RdL.take {w : World} {a : Option Addr} {len : Nat} {L : List Rec} (h : RdL w a len L) (m : Nat) (hm : m ≤ len) : RdL w a m (L.take m) := by
  obtain ⟨h1, h2, h3, h4⟩ := h
  refine ⟨by simp; omega, by omega, ?_, fun r hr => h4 r (List.mem_of_mem_take hr)⟩
  have e : (L.take m).flatMap RCells = (L.flatMap RCells).take (m * 7) := by
    have hs := List.take_append_drop m L
    have h5 : (L.take m).flatMap RCells ++ (L.drop m).flatMap RCells = L.flatMap RCells := by rw [← List.flatMap_append, hs]
    have h6 : ((L.take m).flatMap RCells).length = m * 7 := by rw [flat_len RCells 7 _ (fun _ _ => rfl)]; simp; omega
    rw [← h5, ← h6, List.take_left]
  rw [e]
  rcases h3 with h0 | ⟨b, off, e2, hb, hc⟩
  · left; rw [h0]; simp
  · right
    refine ⟨b, off, e2, hb, fun i hi => ?_⟩
    have hi2 : i < m * 7 ∧ i < (L.flatMap RCells).length := by rw [List.length_take] at hi; omega
    rw [hc i hi2.2, List.getElem?_take_of_lt hi2.1]
/-! ### plain -/
theorem idxF_append (f : Rec → Bool) : ∀ (l r : List Rec) (i : Nat), idxF f i (l ++ r) = idxF f i l ++ idxF f (i + l.length) r
  | [], r, i => by simp [idxF]
  | x :: l, r, i => by
    simp only [List.cons_append, idxF, idxF_append f l r (i + 1), List.length_cons]
    rw [show i + 1 + l.length = i + (l.length + 1) by omega]
    split <;> simp
theorem idxF_ge (f : Rec → Bool) : ∀ (l : List Rec) (i : Nat), ∀ x ∈ idxF f i l, (i : Int) ≤ x
  | [], _, x, h => by simp [idxF] at h
  | r :: l, i, x, h => by
    simp only [idxF] at h
    have ih := idxF_ge f l (i + 1)
    split at h
    · rcases List.mem_cons.1 h with rfl | h
      · omega
      · have := ih x h; omega
    · have := ih x h; omega
theorem dat_left {L R : List Rec} {x : Int} (h0 : 0 ≤ x) (h : x < L.length) : dat (L ++ R) x = dat L x := by
  unfold dat
  rw [List.getElem?_append_left (by omega)]
theorem getD_mem {P : List Int} {k : Nat} (h : k < P.length) : P[k]?.getD 0 ∈ P := by
  simp only [List.getElem?_eq_getElem h, Option.getD_some]; exact List.getElem_mem h
theorem idx_rng {f : Rec → Bool} {L : List Rec} {k : Nat} (h : k < (idxF f 0 L).length) : 0 ≤ (idxF f 0 L)[k]?.getD 0 ∧ (idxF f 0 L)[k]?.getD 0 < L.length := by
  obtain ⟨j, h1, h2⟩ := idxF_inL f L _ (getD_mem h)
  omega
theorem getD_append_left {P R : List Int} {k : Nat} (h : k < P.length) : (P ++ R)[k]?.getD 0 = P[k]?.getD 0 := by rw [List.getElem?_append_left h]
theorem mat_parts {L : List Rec} {i o : Int} (h : mat L i o = true) : i < o ∧ dat L i = dat L o := by
  unfold mat at h
  rw [Bool.and_eq_true, decide_eq_true_eq, decide_eq_true_eq] at h
  exact h
theorem mat_mk {L : List Rec} {i o : Int} (h1 : i < o) (h2 : dat L i = dat L o) : mat L i o = true := by
  unfold mat; rw [decide_eq_true h1, decide_eq_true h2]; rfl
/-- A log without its last records keeps the order. -/
theorem ord_take {L : List Rec} {f g : Rec → Bool} (h : ordB L (idxF f 0 L) (idxF g 0 L) = true) (m : Nat) : ordB (L.take m) (idxF f 0 (L.take m)) (idxF g 0 (L.take m)) = true := by
  obtain ⟨_, hk⟩ := ordB_parts h
  have hs := List.take_append_drop m L
  have e1 := idxF_append f (L.take m) (L.drop m) 0
  have e2 := idxF_append g (L.take m) (L.drop m) 0
  rw [hs, Nat.zero_add] at e1 e2
  have key : ∀ k, k < (idxF g 0 (L.take m)).length → k < (idxF f 0 (L.take m)).length ∧ matB (L.take m) (idxF f 0 (L.take m)) (idxF g 0 (L.take m)) k = true := by
    intro k hkl
    have h1 := hk k (by rw [e2, List.length_append]; omega)
    have hq := idx_rng hkl
    unfold matB at h1
    rw [e2, getD_append_left hkl] at h1
    obtain ⟨m1, m2⟩ := mat_parts h1
    have hkp : k < (idxF f 0 (L.take m)).length := by
      rcases Nat.lt_or_ge k (idxF f 0 (L.take m)).length with h2 | h2
      · exact h2
      · exfalso
        by_cases h3 : k < (idxF f 0 L).length
        · have h4 : (idxF f 0 L)[k]?.getD 0 ∈ idxF f (L.take m).length (L.drop m) := by
            rw [e1, List.getElem?_append_right h2]
            rw [e1, List.length_append] at h3
            exact getD_mem (by omega)
          have h5 := idxF_ge f _ _ _ h4
          omega
        · have := (ordB_parts h).1
          rw [e2, List.length_append] at this
          omega
    refine ⟨hkp, ?_⟩
    have hp := idx_rng hkp
    rw [e1, getD_append_left hkp] at m1 m2
    unfold matB
    refine mat_mk m1 ?_
    have hd : ∀ x, 0 ≤ x → x < ((L.take m).length : Int) → dat L x = dat (L.take m) x := fun x h0 h1 => by
      have := dat_left (R := L.drop m) h0 h1
      rwa [hs] at this
    rw [hd _ hp.1 hp.2, hd _ hq.1 hq.2] at m2
    exact m2
  refine ordB_yes ?_ (fun k hkl => (key k hkl).2)
  rcases Nat.lt_or_ge (idxF f 0 (L.take m)).length (idxF g 0 (L.take m)).length with h1 | h1
  · have := (key _ h1).1; omega
  · exact h1
/-- What is in order is among what entered. -/
theorem ord_among {L : List Rec} {P Q : List Int} (h : ordB L P Q = true) : amo L Q 0 P = Q.length := by
  obtain ⟨hl, hk⟩ := ordB_parts h
  have key : ∀ j, j ≤ P.length → amo L Q 0 (P.take j) = min j Q.length := by
    intro j
    induction j with
    | zero => intro _; simp [amo]
    | succ j ih =>
      intro hj
      have hjl : j < P.length := by omega
      rw [take_snocI (List.getElem?_eq_getElem hjl), amo_snoc, ih (by omega)]
      unfold amoS
      by_cases hq : j < Q.length
      · have h1 := hk j hq
        unfold matB at h1
        rw [List.getElem?_eq_getElem hjl, Option.getD_some] at h1
        rw [Nat.min_eq_left (by omega), if_pos ⟨hq, h1⟩]; omega
      · rw [Nat.min_eq_right (by omega), if_neg (fun h => by omega)]; omega
  have := key P.length (Nat.le_refl _)
  rw [List.take_length] at this
  rw [this]; omega
structure LogI (ins : List Int) (j k : Nat) (L : List Rec) : Prop where
  hP : (idxF (sel 1 0 0 0) 0 L).length = j
  hQ : (idxF (sel 2 0 0 0) 0 L).length = k
  hk : k ≤ j
  dP : ∀ q, q < j → dat L ((idxF (sel 1 0 0 0) 0 L)[q]?.getD 0) = [ins[q]?.getD 0 % 3]
  dQ : ∀ q, q < k → dat L ((idxF (sel 2 0 0 0) 0 L)[q]?.getD 0) = [ins[q]?.getD 0 % 3] ∧ (idxF (sel 1 0 0 0) 0 L)[q]?.getD 0 < (idxF (sel 2 0 0 0) 0 L)[q]?.getD 0
theorem LogI.start (ins : List Int) : LogI ins 0 0 [] := ⟨rfl, rfl, Nat.le_refl _, fun q h => by omega, fun q h => by omega⟩
theorem dat_end {L : List Rec} (r : Rec) : dat (L ++ [r]) (L.length : Int) = r.xs := dat_at (by simp)
theorem LogI.entered {ins : List Int} {j k : Nat} {L : List Rec} (h : LogI ins j k L) (r : Rec) (hr : sel 1 0 0 0 r = true) (h2 : sel 2 0 0 0 r = false) (hx : r.xs = [ins[j]?.getD 0 % 3]) : LogI ins (j + 1) k (L ++ [r]) := by
  have e1 := idxF_snoc (sel 1 0 0 0) L 0 r
  have e2 := idxF_snoc (sel 2 0 0 0) L 0 r
  rw [hr, if_pos rfl, Nat.zero_add] at e1
  rw [h2, if_neg (by simp), List.append_nil] at e2
  refine ⟨by rw [e1]; simp [h.hP], by rw [e2]; exact h.hQ, by have := h.hk; omega, fun q hq => ?_, fun q hq => ?_⟩
  · rw [e1]
    by_cases hqj : q < j
    · have hql : q < (idxF (sel 1 0 0 0) 0 L).length := by rw [h.hP]; exact hqj
      have hr := idx_rng hql
      rw [getD_append_left hql, dat_left hr.1 hr.2]
      exact h.dP q hqj
    · obtain rfl : q = j := by omega
      rw [List.getElem?_append_right (by rw [h.hP]; omega), h.hP, Nat.sub_self]
      show dat (L ++ [r]) (L.length : Int) = _
      rw [dat_end, hx]
  · have hql : q < (idxF (sel 1 0 0 0) 0 L).length := by rw [h.hP]; have := h.hk; omega
    have hqq : q < (idxF (sel 2 0 0 0) 0 L).length := by rw [h.hQ]; exact hq
    have hr := idx_rng hqq
    rw [e1, e2, getD_append_left hql, dat_left hr.1 hr.2]
    exact h.dQ q hq
theorem LogI.out {ins : List Int} {j k : Nat} {L : List Rec} (h : LogI ins j k L) (r : Rec) (hr : sel 2 0 0 0 r = true) (h2 : sel 1 0 0 0 r = false) (hkj : k < j) (hx : r.xs = [ins[k]?.getD 0 % 3]) : LogI ins j (k + 1) (L ++ [r]) := by
  have e1 := idxF_snoc (sel 1 0 0 0) L 0 r
  have e2 := idxF_snoc (sel 2 0 0 0) L 0 r
  rw [hr, if_pos rfl, Nat.zero_add] at e2
  rw [h2, if_neg (by simp), List.append_nil] at e1
  refine ⟨by rw [e1]; exact h.hP, by rw [e2]; simp [h.hQ], by omega, fun q hq => ?_, fun q hq => ?_⟩
  · have hql : q < (idxF (sel 1 0 0 0) 0 L).length := by rw [h.hP]; exact hq
    have hr := idx_rng hql
    rw [e1, dat_left hr.1 hr.2]
    exact h.dP q hq
  · have hql : q < (idxF (sel 1 0 0 0) 0 L).length := by rw [h.hP]; omega
    have hr1 := idx_rng hql
    by_cases hqk : q < k
    · have hqq : q < (idxF (sel 2 0 0 0) 0 L).length := by rw [h.hQ]; exact hqk
      have hr := idx_rng hqq
      rw [e1, e2, getD_append_left hqq, dat_left hr.1 hr.2]
      exact h.dQ q hqk
    · obtain rfl : q = k := by omega
      rw [e1, e2, List.getElem?_append_right (by rw [h.hQ]; omega), h.hQ, Nat.sub_self]
      refine ⟨?_, ?_⟩
      · show dat (L ++ [r]) (L.length : Int) = _
        rw [dat_end, hx]
      · exact hr1.2
theorem LogI.ord {ins : List Int} {j k : Nat} {L : List Rec} (h : LogI ins j k L) : ordB L (idxF (sel 1 0 0 0) 0 L) (idxF (sel 2 0 0 0) 0 L) = true :=
  ordB_yes (by rw [h.hP, h.hQ]; exact h.hk) (fun q hq => by
    rw [h.hQ] at hq
    obtain ⟨h1, h2⟩ := h.dQ q hq
    exact mat_mk h2 (by rw [h.dP q (by have := h.hk; omega), h1]))
theorem map_get {P : List Int} {f : Int → List Int} {q : Nat} (h : q < P.length) : (P.map f)[q]? = some (f (P[q]?.getD 0)) := by
  rw [List.getElem?_map, List.getElem?_eq_getElem h]; rfl
theorem LogI.begins {ins : List Int} {j k : Nat} {L : List Rec} (h : LogI ins j k L) : (idxF (sel 2 0 0 0) 0 L).map (dat L) = ((idxF (sel 1 0 0 0) 0 L).map (dat L)).take k := by
  apply List.ext_getElem?
  intro q
  by_cases hq : q < k
  · rw [List.getElem?_take_of_lt hq, map_get (by rw [h.hQ]; exact hq), map_get (by rw [h.hP]; have := h.hk; omega), (h.dQ q hq).1, h.dP q (by have := h.hk; omega)]
  · rw [List.getElem?_eq_none (by simp [h.hQ]; omega), List.getElem?_eq_none (by simp; omega)]
end Go.Proofs.Ytgackcjhiplplaa
