/- Several texts in one. -/
import Derived.Test.YtlnkofpcidngoaaDoorK0
import Derived.Test.YtlnkofpcidngoaaDoorK11
import Derived.Test.YtlnkofpcidngoaaDoorK2
import Derived.Test.YtlnkofpcidngoaaDoorK1
namespace Go.Proofs.YtlnkofpcidngoaaDoor
open Go.ChangeShapes Go.WideShapes Go.ChangeAt Go.RowKit
open Crc
end Go.Proofs.YtlnkofpcidngoaaDoor
namespace Go.Proofs.YtlnkofpcidngoaaDoor
open Go.ChangeShapes Go.WideShapes Go.ChangeAt Go.RowKit
section
variable {α : Type} {f : α → List Value} {k : Nat}
theorem flat_lenG (hk : ∀ x, (f x).length = k) : ∀ l : List α, (l.flatMap f).length = l.length * k
 | [] => by simp
 | y :: l => by rw [List.flatMap_cons, List.length_append, hk y, flat_lenG hk l, List.length_cons, Nat.add_mul]; omega
theorem flat_atG (hk : ∀ x, (f x).length = k) : ∀ (l : List α) (i j : Nat) (x : α), l[i]? = some x → j < k → (l.flatMap f)[i * k + j]? = (f x)[j]?
 | [], i, j, x, h, _ => by simp at h
 | y :: l, 0, j, x, h, hj => by
   simp at h; subst h
   rw [List.flatMap_cons, Nat.zero_mul, Nat.zero_add, List.getElem?_append_left (by rw [hk y]; exact hj)]
 | y :: l, i + 1, j, x, h, hj => by
   have ih := flat_atG hk l i j x (by simpa using h) hj
   rw [List.flatMap_cons, List.getElem?_append_right (by rw [hk y, Nat.add_mul]; omega), hk y, ← ih]
   congr 1
   rw [Nat.add_mul]; omega
theorem flat_take (hk : ∀ x, (f x).length = k) (l : List α) (m : Nat) (hm : m ≤ l.length) : (l.take m).flatMap f = (l.flatMap f).take (m * k) := by
 have h5 : (l.take m).flatMap f ++ (l.drop m).flatMap f = l.flatMap f := by rw [← List.flatMap_append, List.take_append_drop]
 have h6 : ((l.take m).flatMap f).length = m * k := by rw [flat_lenG hk]; simp; rw [Nat.min_eq_left hm]
 rw [← h5, ← h6, List.take_left]
theorem flat_drop (hk : ∀ x, (f x).length = k) (l : List α) (m : Nat) (hm : m ≤ l.length) : (l.drop m).flatMap f = (l.flatMap f).drop (m * k) := by
 have h5 : (l.take m).flatMap f ++ (l.drop m).flatMap f = l.flatMap f := by rw [← List.flatMap_append, List.take_append_drop]
 have h6 : ((l.take m).flatMap f).length = m * k := by rw [flat_lenG hk]; simp; rw [Nat.min_eq_left hm]
 rw [← h5, ← h6, List.drop_left]
theorem lt_someG {l : List α} {i : Nat} {x : α} (h : l[i]? = some x) : i < l.length := by
 rcases Nat.lt_or_ge i l.length with h1 | h1
 · exact h1
 · rw [List.getElem?_eq_none h1] at h; cases h
theorem seg_row (hk : ∀ x, (f x).length = k) (h0 : 0 < k) {w : World} {a : Option Addr} {l : List α} (h : Seg w a (l.flatMap f)) (hn : 0 < l.length) :
   ∃ b off, a = some ⟨b, off, none⟩ ∧ b < w.heap.size ∧ ∀ i x, l[i]? = some x → w.rangeAt b (off + i * k) (f x) := by
 rcases h with h1 | ⟨b, off, e, hb, hc⟩
 · exfalso
   have h2 := flat_lenG hk l
   rw [h1, List.length_nil] at h2
   have := Nat.mul_pos hn h0
   omega
 · refine ⟨b, off, e, hb, fun i x hi j v hv => ?_⟩
   have hj : j < k := by rw [← hk x]; exact lt_someG hv
   have hil := lt_someG hi
   have h1 := flat_atG hk l i j x hi hj
   rw [Nat.add_assoc, hc (i * k + j) (by rw [flat_lenG hk]; have := Nat.mul_le_mul_right k hil; rw [Nat.succ_mul] at this; omega), h1]
   exact hv
theorem seg_kept {w w' : World} {a : Option Addr} {vs : List Value} (h : Seg w a vs) (hg : Gr w w') : Seg w' a vs := by
 rcases h with h | ⟨b, off, e, hb, hc⟩
 · exact .inl h
 · refine .inr ⟨b, off, e, Nat.lt_of_lt_of_le hb hg.size, fun i hi => ?_⟩
   have h1 := hc i hi
   rw [List.getElem?_eq_getElem hi] at h1 ⊢
   exact hg.cell h1
theorem seg_but {w w' : World} {r : Option Nat} {a : Option Addr} {vs : List Value} (h : Seg w a vs) (hg : w.grownBy w' r) (hr : ∀ b off, vs ≠ [] → a = some ⟨b, off, none⟩ → some b ≠ r) : Seg w' a vs := by
 rcases h with h | ⟨b, off, e, hb, hc⟩
 · exact .inl h
 · by_cases hv : vs = []
   · exact .inl hv
   · refine .inr ⟨b, off, e, Nat.lt_of_lt_of_le hb hg.size, fun i hi => ?_⟩
     rw [← hc i hi]
     have hbk := hg.block b hb (hr b off hv e)
     unfold World.cell?
     simp only [hbk]
theorem seg_take (hk : ∀ x, (f x).length = k) {w : World} {a : Option Addr} {l : List α} (h : Seg w a (l.flatMap f)) (m : Nat) (hm : m ≤ l.length) : Seg w a ((l.take m).flatMap f) := by
 rw [flat_take hk l m hm]
 rcases h with h0 | ⟨b, off, e2, hb, hc⟩
 · left; rw [h0]; simp
 · right
   refine ⟨b, off, e2, hb, fun i hi => ?_⟩
   have hi2 : i < m * k ∧ i < (l.flatMap f).length := by rw [List.length_take] at hi; omega
   rw [hc i hi2.2, List.getElem?_take_of_lt hi2.1]
theorem seg_drop (hk : ∀ x, (f x).length = k) {w : World} {b off : Nat} {l : List α} (h : Seg w (some ⟨b, off, none⟩) (l.flatMap f)) (m : Nat) (hm : m ≤ l.length) : Seg w (some ⟨b, off + m * k, none⟩) ((l.drop m).flatMap f) := by
 rw [flat_drop hk l m hm]
 rcases h with h0 | ⟨b', off', e2, hb, hc⟩
 · left; rw [h0]; simp
 · right
   injection e2 with e2
   injection e2 with e3 e4
   subst e3 e4
   refine ⟨b, off + m * k, rfl, hb, fun i hi => ?_⟩
   rw [List.length_drop] at hi
   rw [Nat.add_assoc, hc (m * k + i) (by omega), List.getElem?_drop]
theorem own_segG {w : World} {B : Nat} {e : TypeId} {size : Nat} {a : Option Addr} {n cap : Nat} {vs : List Value} (h : w.ownsRow B e size (.slice a n cap) n vs) : Seg w a vs := by
 have hl := h.1
 rcases h.2 with ⟨hv, h0⟩ | ⟨g, cap', cur, hv, hb, hg, hn, hm, hs, ht⟩
 · left
   rw [h0, Nat.zero_mul] at hl
   exact List.eq_nil_of_length_eq_zero hl
 · injection hv with e1 e2 e3
   subst e1
   right
   refine ⟨g, 0, rfl, ?_, fun i hi => ?_⟩
   · rcases Nat.lt_or_ge g w.heap.size with h1 | h1
     · exact h1
     · rw [Array.getElem?_eq_none h1] at hg; cases hg
   · have hc := h.cells (g := g) rfl i vs[i] (by simp [hi])
     rw [addr_add] at hc
     rw [hc]; simp [hi]
theorem own_capG {w : World} {B : Nat} {e : TypeId} {size : Nat} {a : Option Addr} {n cap : Nat} {vs : List Value} (h : w.ownsRow B e size (.slice a n cap) n vs) : n ≤ cap ∧ cap ≤ maxLen ∧ (a = none → n = 0 ∧ cap = 0) := by
 rcases h.2 with ⟨hv, h0⟩ | ⟨g, cap', cur, hv, _, _, hn, hm, _⟩
 · injection hv with e1 e2 e3; subst h0 e3; exact ⟨Nat.le_refl _, by simp [maxLen], fun _ => ⟨rfl, rfl⟩⟩
 · injection hv with e1 e2 e3
   subst e1 e3
   exact ⟨hn, hm, fun h => by cases h⟩
theorem own_blockG {w : World} {B : Nat} {e : TypeId} {size : Nat} {a : Option Addr} {n cap : Nat} {vs : List Value} (h : w.ownsRow B e size (.slice a n cap) n vs) {b off : Nat} (ha : a = some ⟨b, off, none⟩) : off = 0 ∧ (Value.slice a n cap).ownBlock = some b ∧ B ≤ b ∧ b < w.heap.size := by
 rcases h.2 with ⟨hv, h0⟩ | ⟨g, cap', cur, hv, hb, hg, _⟩
 · injection hv with e1 e2 e3; rw [ha] at e1; cases e1
 · injection hv with e1 e2 e3
   subst e1
   injection ha with ha
   injection ha with h1 h2
   subst h1 h2
   refine ⟨rfl, rfl, hb, ?_⟩
   rcases Nat.lt_or_ge g w.heap.size with h1 | h1
   · exact h1
   · rw [Array.getElem?_eq_none h1] at hg; cases hg
theorem own_weakG {w : World} {B B' : Nat} {e : TypeId} {size : Nat} {a : Option Addr} {n cap : Nat} {vs : List Value} (h : w.ownsRow B e size (.slice a n cap) n vs) (hB : B' ≤ B) : w.ownsRow B' e size (.slice a n cap) n vs := by
 refine ⟨h.1, ?_⟩
 rcases h.2 with h0 | ⟨g, cap', cur, hv, hb, hr⟩
 · exact .inl h0
 · exact .inr ⟨g, cap', cur, hv, by omega, hr⟩
theorem own_stayG {w w' : World} {B : Nat} {e : TypeId} {size : Nat} {a : Option Addr} {n cap : Nat} {vs : List Value} (h : w.ownsRow B e size (.slice a n cap) n vs) (hg : Gr w w') : w'.ownsRow B e size (.slice a n cap) n vs :=
 h.kept hg (by cases hv : (Value.slice a n cap).ownBlock <;> simp)
theorem grown_ownG {w0 w1 w2 : World} {B : Nat} {e : TypeId} {size : Nat} {a : Option Addr} {n cap : Nat} {vs : List Value} (h : Gr w0 w1) (ho : w1.ownsRow B e size (.slice a n cap) n vs) (hB : w0.heap.size ≤ B) (hg : w1.grownBy w2 (Value.slice a n cap).ownBlock) : Gr w0 w2 := by
 refine grownBy_trans h hg ?_
 cases hv : (Value.slice a n cap).ownBlock with
 | none => exact .inr (.inl rfl)
 | some g => exact .inr (.inr ⟨g, rfl, by have := (ho.lt g hv).1; omega⟩)
theorem setM_left {β : Type} : ∀ (vs A B : List β) (j : Nat), j + vs.length ≤ A.length → setM (A ++ B) j vs = setM A j vs ++ B
 | [], A, B, j, _ => rfl
 | v :: r, A, B, j, h => by
   simp only [List.length_cons] at h
   unfold setM
   rw [List.set_append_left _ _ (by omega), setM_left r (A.set j v) B (j + 1) (by simp; omega)]
theorem setM_right {β : Type} : ∀ (vs A B : List β) (j : Nat), setM (A ++ B) (A.length + j) vs = A ++ setM B j vs
 | [], A, B, j => rfl
 | v :: r, A, B, j => by
   unfold setM
   rw [List.set_append_right _ _ (by omega), show A.length + j - A.length = j by omega, show A.length + j + 1 = A.length + (j + 1) by omega, setM_right r A (B.set j v) (j + 1)]
theorem setM_flat (hk : ∀ x, (f x).length = k) : ∀ (l : List α) (i j : Nat) (x y : α) (vs : List Value), l[i]? = some x → j + vs.length ≤ k → setM (f x) j vs = f y → setM (l.flatMap f) (i * k + j) vs = (l.set i y).flatMap f
 | [], i, j, x, y, vs, h, _, _ => by simp at h
 | z :: l, 0, j, x, y, vs, h, hj, hs => by
   simp at h; subst h
   rw [List.flatMap_cons, Nat.zero_mul, Nat.zero_add, setM_left _ _ _ _ (by rw [hk z]; exact hj), hs]
   simp
 | z :: l, i + 1, j, x, y, vs, h, hj, hs => by
   have ih := setM_flat hk l i j x y vs (by simpa using h) hj hs
   rw [List.flatMap_cons, show (i + 1) * k + j = (f z).length + (i * k + j) by rw [hk z, Nat.add_mul]; omega, setM_right, ih]
   simp
theorem own_set (hk : ∀ x, (f x).length = k) {w : World} {B : Nat} {e : TypeId} {g n cap : Nat} {l : List α} (h : w.ownsRow B e k (.slice (some ⟨g, 0, none⟩) n cap) n (l.flatMap f)) (i j : Nat) (x y : α) (vs : List Value) (hi : l[i]? = some x) (hj : j + vs.length ≤ k) (hs : setM (f x) j vs = f y) :
   (w.setCells g (i * k + j) vs).ownsRow B e k (.slice (some ⟨g, 0, none⟩) n cap) n ((l.set i y).flatMap f) := by
 have := own_setCells vs (i * k + j) w _ h
 rw [setM_flat hk l i j x y vs hi hj hs] at this
 exact this
theorem own_thereG (hk : ∀ x, (f x).length = k) {w : World} {B : Nat} {e : TypeId} {g n cap : Nat} {l : List α} (h : w.ownsRow B e k (.slice (some ⟨g, 0, none⟩) n cap) n (l.flatMap f)) (i : Nat) (hi : i < l.length) (j m : Nat) (hj : j + m ≤ k) : w.there g (i * k + j) m := by
 refine there_own h ?_
 rw [flat_lenG hk]
 have := Nat.mul_le_mul_right k hi
 rw [Nat.succ_mul] at this
 omega
theorem app_rowG {P : Program} (hk : ∀ x, (f x).length = k) (h1 : ∀ x, ∀ v ∈ f x, v.oneCell' = true) (B : Nat) (t ty e : TypeId) (i : TypeInfo) (z : Value) (bytes : Nat) (ht : P.underlying t = some (.slice e)) (hi : P.info? e = some i) (hz : i.zero = some z)
   (hsize : i.size = k) (hby : i.bytes = bytes) (hzs : z.cells.size = k) (hsz : 0 < k) (w : World) (a : Option Addr) (n cap : Nat) (l : List α) (hown : w.ownsRow B e k (.slice a n cap) n (l.flatMap f))
   (b : Option Addr) (m c : Nat) (r : List α) (hr : r.length = m) (hseg : Seg w b (r.flatMap f)) (hnil : b = none → m = 0 ∧ c = 0) (h63 : n + m ≤ maxLen) (hbytes : (n + m) * bytes ≤ 140737488355328) (hB : B ≤ w.heap.size) :
   ∃ a' cap' w', (Builtin.append_ #[t, t] ty #[.slice a n cap, .slice b m c]).run P w = .ok (.slice a' (n + m) cap') w' ∧ w'.ownsRow B e k (.slice a' (n + m) cap') (n + m) ((l ++ r).flatMap f) ∧ w.grownBy w' (Value.slice a n cap).ownBlock ∧ Follows w (.slice a n cap) (.slice a' (n + m) cap') := by
 obtain ⟨v', w', hr', ho, hg, hf, -⟩ := run_app (P := P) B t ty e i z k bytes ht hi hz hsize hby hzs hsz w _ n _ hown b m c (r.flatMap f) (by rw [flat_lenG hk, hr]) hseg (by
   intro u hu
   obtain ⟨x, _, hu⟩ := List.mem_flatMap.1 hu
   exact h1 x u hu) hnil h63 hbytes hB
 have hv : ∃ a' cap', v' = .slice a' (n + m) cap' := by
   rcases ho.2 with ⟨hv, h0⟩ | ⟨g, cap', cur, rfl, _⟩
   · exact ⟨none, 0, by rw [hv, h0]⟩
   · exact ⟨_, _, rfl⟩
 obtain ⟨a', cap', rfl⟩ := hv
 exact ⟨a', cap', w', hr', by rw [List.flatMap_append]; exact ho, hg, hf⟩
end
theorem wpList_load_w {P : Program} {ops : Array Oper} {rest : List Oper} {o : Oper} {a : Act} {w : World} {Q : Exit → Act → World → Prop} (hw : Region.wanted o (yielded ops a.tmps) = true) (ty : TypeId) (x : Operand) (ho : o.op = .load ty x)
   (g : Nat) (hx : a.eval x = .pointer (some ⟨g, 0, none⟩)) (t : TypeId) (cs : Array Value) (fr : Nat × Nat) (d : TypeDesc) (hg : w.heap[g]? = some (.cells cs t fr))
   (hu : P.underlying ty = some d) (hd : (match d with | .struct _ | .array _ _ => true | _ => false) = true) (hi : (P.info? ty).map (·.size) = some cs.size)
   (h : wpList P ops Q rest (a.put o.dst (.agg cs)) w) : wpList P ops Q (o :: rest) a w := by
 unfold wpList
 rw [if_pos hw]
 left
 exact wp_load_row ty x ho g hx t cs fr d hg hu hd hi h
def lrnB (a b : Hdr) : Bool := validH a && (validH b && (a.kind == 2 && sameB a b))
def strS (s t : Int) : Int := if s ≠ 0 ∧ t.tmod s = 0 ∧ 0 ≤ t.tdiv s ∧ t.tdiv s ≤ 65535 then t.tdiv s else 0
def stpH (a b : Hdr) : Int := signedS 16 (numH a) (numH b)
def learnS (a b : Hdr) : Int := if lrnB a b then strS (stpH a b) (signedS 32 a.time b.time) else 0
def learnF (a b : Hdr) : Int := if lrnB a b && (b.id == lowS 16 (a.id + stpH a b)) then 1 else 0
theorem same_is {a b : Hdr} {V : Bool} (hv : sameB a b = V) (w : World) : Calls Tryd.prog 71 #[HVal a, HVal b] w fun e w' => e = .returned (.bool V) ∧ Gr w w' := hv ▸ same_any a b w
def DBlk (g : Nat) (s f : Int) (w : World) : Prop := w.heap[g]? = some (.cells #[.int .i64 s, .int .i64 f] 43 (0, 0))
theorem DBlk.kept {g : Nat} {s f : Int} {w w' : World} (hb : DBlk g s f w) (hg : Gr w w') : DBlk g s f w' := by
 unfold DBlk; rw [hg.block _ (heap_lt hb) (by simp)]; exact hb
theorem DBlk.c0 {g : Nat} {s f : Int} {w : World} (hb : DBlk g s f w) : w.cell? ⟨g, 0, none⟩ = some (.int .i64 s) := by rw [cell_of_block hb]; rfl
theorem DBlk.c1 {g : Nat} {s f : Int} {w : World} (hb : DBlk g s f w) : w.cell? ⟨g, 1, none⟩ = some (.int .i64 f) := by rw [cell_of_block hb]; rfl
theorem DBlk.fz {g : Nat} {s f : Int} {w : World} (hb : DBlk g s f w) (i : Nat) : w.frozen? ⟨g, i, none⟩ = false := frozen_of_block hb i
theorem DBlk.set0 {g : Nat} {s f : Int} {w : World} (hb : DBlk g s f w) (u : Int) : DBlk g u f (w.setCell ⟨g, 0, none⟩ (.int .i64 u)) := by
 unfold DBlk; rw [heap_setCell_eq hb 0]; rfl
theorem DBlk.set1 {g : Nat} {s f : Int} {w : World} (hb : DBlk g s f w) (u : Int) : DBlk g s u (w.setCell ⟨g, 1, none⟩ (.int .i64 u)) := by
 unfold DBlk; rw [heap_setCell_eq hb 1]; rfl
theorem DBlk.other {g p : Nat} {s f : Int} {w : World} (hb : DBlk g s f w) (i : Nat) (v : Value) (hne : g ≠ p) : DBlk g s f (w.setCell ⟨p, i, none⟩ v) := by
 unfold DBlk; rw [heap_setCell_ne _ _ _ _ hne]; exact hb
theorem tdiv_rng {s t : Int} (h1 : -4294967296 ≤ t) (h2 : t ≤ 4294967296) : -4294967296 ≤ t.tdiv s ∧ t.tdiv s ≤ 4294967296 := by
 have h := Int.natAbs_tdiv t s
 have h3 : (t.tdiv s).natAbs ≤ t.natAbs := by rw [h]; exact Nat.div_le_self _ _
 omega
-- the end of a way that says: nothing learnt
theorem rsame_is {a b : Hdr} {V : Bool} (hv : sameB a b = V) (w : World) : Calls Tryd.prog 50 #[HVal a, HVal b] w fun e w' => e = .returned (.bool V) ∧ Gr w w' := hv ▸ rsame_any a b w
theorem rlearn_stride (st q tm : Int) : (if (st != 0 && tm.tmod st == 0 && decide (0 ≤ q) && decide (q ≤ 65535)) = true then q else 0) = if st ≠ 0 ∧ tm.tmod st = 0 ∧ 0 ≤ q ∧ q ≤ 65535 then q else 0 := by
 by_cases h1 : st = 0
 · simp [h1]
 · by_cases h2 : tm.tmod st = 0
   · by_cases h3 : 0 ≤ q <;> by_cases h4 : q ≤ 65535 <;> simp [h1, h2, h3, h4]
   · simp [h1, h2]
-- the end of a way that says: nothing learnt
set_option maxRecDepth 100000 in
set_option maxHeartbeats 4000000 in
theorem rlearn_any (a b : Hdr) (w : World) : Calls Tryd.prog 38 #[HVal a, HVal b] w fun e w' => e = .returned (DVal (learnS a b) (learnF a b)) ∧ Gr w w' := by
 go_enter Tryd.func38, Tryd.ntmps38
 go_upto_region 1 with (fail)
 obtain ⟨w1, hw1⟩ : ∃ y, y = ((w.alloc (.cells (HCells a).toArray 49)).alloc (.cells (HCells b).toArray 49)).alloc (.cells #[.int .i64 0, .int .i64 0] 43) := ⟨_, rfl⟩
 obtain ⟨ha1, hb1, hd1⟩ : HBlk w.heap.size a w1 ∧ HBlk (w.heap.size + 1) b w1 ∧ DBlk (w.heap.size + 1 + 1) 0 0 w1 := by rw [hw1]; exact blocks3 _ _ _ _
 have hg1 : Gr w w1 := by rw [hw1]; exact (Gr.alloc _ _).trans ((Gr.alloc _ _).trans (Gr.alloc _ _))
 simp only [HCells] at hw1
 rw [← hw1]
 have HA1 := zqd ha1
 have HB1 := zqd hb1
 have HD1 := zqd hd1
 have HG1 := zqd hg1
 have ha1' := ha1
 unfold HBlk at ha1'
 have HA1' := zqd ha1'
 clear hw1 ha1 hb1 hd1 hg1 ha1'
 obtain ⟨V1, hV1⟩ : ∃ V, validH a = V := ⟨_, rfl⟩
 obtain ⟨V2, hV2⟩ : ∃ V, validH b = V := ⟨_, rfl⟩
 obtain ⟨V4, hV4⟩ : ∃ V, sameB a b = V := ⟨_, rfl⟩
 have HV1 := zqd hV1
 have HV2 := zqd hV2
 have HV4 := zqd hV4
 clear hV1 hV2 hV4
 go_wp2_with (refine wpList_load_w rfl 49 _ rfl w.heap.size rfl 49 _ _ _ HA1'.out Tryd.underlying49 rfl (by kernel_rfl) ?_)
 refine (rvalid_is HV1.out w1).mono ?_
 rintro e w2 ⟨rfl, hg2⟩
 have HA2 := zqd (HA1.out.kept hg2)
 have HB2 := zqd (HB1.out.kept hg2)
 have HD2 := zqd (HD1.out.kept hg2)
 have HG2 := zqd (HG1.out.trans hg2)
 have hb2' := HB2.out
 unfold HBlk at hb2'
 have HB2' := zqd hb2'
 clear hg2 hb2' HA1 HA1' HB1 HD1 HG1
 cases V1
 · have hl : lrnB a b = false := by unfold lrnB; rw [HV1.out]; rfl
   have HRES := zqd (show Ending.returned (DVal 0 0) = .returned (DVal (learnS a b) (learnF a b)) by unfold learnS learnF; rw [hl]; rfl)
   clear hl
   have hd0 := (HD2.out)
   have HGE := zqd (grown_set (grown_set (HG2.out) (a := ⟨w.heap.size + 1 + 1, 0, none⟩) (show w.heap.size ≤ w.heap.size + 1 + 1 by omega) (.int .i64 0)) (a := ⟨w.heap.size + 1 + 1, 1, none⟩) (show w.heap.size ≤ w.heap.size + 1 + 1 by omega) (.int .i64 0))
   have HBE := zqd ((hd0.set0 0).set1 0)
   have z0 := hd0.c0
   have z1 := hd0.c1
   have g0 := hd0.fz 0
   have g1 := hd0.fz 1
   clear hd0
   go_wp2_with fail
   have hbe := HBE.out
   unfold DBlk at hbe
   exact bodyPost_ret (v := DVal 0 0) (results_cell_row Tryd.results38 _ _ (w.heap.size + 1 + 1) _ _ _ _ rfl hbe Tryd.underlying43 rfl (by kernel_rfl)) rfl ⟨HRES.out, HGE.out⟩
 go_wp2_with (refine wpList_load_w rfl 49 _ rfl (w.heap.size + 1) rfl 49 _ _ _ HB2'.out Tryd.underlying49 rfl (by kernel_rfl) ?_)
 refine (rvalid_is HV2.out w2).mono ?_
 rintro e w3 ⟨rfl, hg3⟩
 have HA3 := zqd (HA2.out.kept hg3)
 have HB3 := zqd (HB2.out.kept hg3)
 have HD3 := zqd (HD2.out.kept hg3)
 have HG3 := zqd (HG2.out.trans hg3)
 clear hg3 HA2 HB2' HB2 HD2 HG2
 cases V2
 · have hl : lrnB a b = false := by unfold lrnB; rw [HV1.out, HV2.out]; rfl
   have HRES := zqd (show Ending.returned (DVal 0 0) = .returned (DVal (learnS a b) (learnF a b)) by unfold learnS learnF; rw [hl]; rfl)
   clear hl
   have hd0 := (HD3.out)
   have HGE := zqd (grown_set (grown_set (HG3.out) (a := ⟨w.heap.size + 1 + 1, 0, none⟩) (show w.heap.size ≤ w.heap.size + 1 + 1 by omega) (.int .i64 0)) (a := ⟨w.heap.size + 1 + 1, 1, none⟩) (show w.heap.size ≤ w.heap.size + 1 + 1 by omega) (.int .i64 0))
   have HBE := zqd ((hd0.set0 0).set1 0)
   have z0 := hd0.c0
   have z1 := hd0.c1
   have g0 := hd0.fz 0
   have g1 := hd0.fz 1
   clear hd0
   go_wp2_with fail
   have hbe := HBE.out
   unfold DBlk at hbe
   exact bodyPost_ret (v := DVal 0 0) (results_cell_row Tryd.results38 _ _ (w.heap.size + 1 + 1) _ _ _ _ rfl hbe Tryd.underlying43 rfl (by kernel_rfl)) rfl ⟨HRES.out, HGE.out⟩
 have k0 : w3.cell? ⟨w.heap.size, 0, none⟩ = some (.int .i64 a.kind) := HA3.out.at 0 rfl
 by_cases hk : a.kind = 2
 rotate_left
 · have hl : lrnB a b = false := by unfold lrnB; rw [HV1.out, HV2.out, show (a.kind == 2) = false by simpa using hk]; rfl
   have HRES := zqd (show Ending.returned (DVal 0 0) = .returned (DVal (learnS a b) (learnF a b)) by unfold learnS learnF; rw [hl]; rfl)
   have hkb : (a.kind != 2) = true := by simpa using hk
   clear hl hk
   have hd0 := (HD3.out)
   have HGE := zqd (grown_set (grown_set (HG3.out) (a := ⟨w.heap.size + 1 + 1, 0, none⟩) (show w.heap.size ≤ w.heap.size + 1 + 1 by omega) (.int .i64 0)) (a := ⟨w.heap.size + 1 + 1, 1, none⟩) (show w.heap.size ≤ w.heap.size + 1 + 1 by omega) (.int .i64 0))
   have HBE := zqd ((hd0.set0 0).set1 0)
   have z0 := hd0.c0
   have z1 := hd0.c1
   have g0 := hd0.fz 0
   have g1 := hd0.fz 1
   clear hd0
   go_wp2_with fail
   have hbe := HBE.out
   unfold DBlk at hbe
   exact bodyPost_ret (v := DVal 0 0) (results_cell_row Tryd.results38 _ _ (w.heap.size + 1 + 1) _ _ _ _ rfl hbe Tryd.underlying43 rfl (by kernel_rfl)) rfl ⟨HRES.out, HGE.out⟩
 have hkb : (a.kind != 2) = false := by simpa using hk
 have HK := zqd hk
 clear hk
 have ha3' := HA3.out
 unfold HBlk at ha3'
 have HA3' := zqd ha3'
 have hb3' := HB3.out
 unfold HBlk at hb3'
 have HB3' := zqd hb3'
 clear ha3' hb3'
 go_wp2_with (first | (refine wpList_load_w rfl 49 _ rfl w.heap.size rfl 49 _ _ _ HA3'.out Tryd.underlying49 rfl (by kernel_rfl) ?_) | (refine wpList_load_w rfl 49 _ rfl (w.heap.size + 1) rfl 49 _ _ _ HB3'.out Tryd.underlying49 rfl (by kernel_rfl) ?_))
 refine (rsame_is HV4.out w3).mono ?_
 rintro e w4 ⟨rfl, hg4⟩
 have HA4 := zqd (HA3.out.kept hg4)
 have HB4 := zqd (HB3.out.kept hg4)
 have HD4 := zqd (HD3.out.kept hg4)
 have HG4 := zqd (HG3.out.trans hg4)
 clear hg4 HA3 HB3' HA3' HB3 HD3 HG3 k0
 cases V4
 · have hl : lrnB a b = false := by unfold lrnB; rw [HV1.out, HV2.out, HV4.out, show (a.kind == 2) = true by simpa using HK.out]; rfl
   have HRES := zqd (show Ending.returned (DVal 0 0) = .returned (DVal (learnS a b) (learnF a b)) by unfold learnS learnF; rw [hl]; rfl)
   clear hl
   have hd0 := (HD4.out)
   have HGE := zqd (grown_set (grown_set (HG4.out) (a := ⟨w.heap.size + 1 + 1, 0, none⟩) (show w.heap.size ≤ w.heap.size + 1 + 1 by omega) (.int .i64 0)) (a := ⟨w.heap.size + 1 + 1, 1, none⟩) (show w.heap.size ≤ w.heap.size + 1 + 1 by omega) (.int .i64 0))
   have HBE := zqd ((hd0.set0 0).set1 0)
   have z0 := hd0.c0
   have z1 := hd0.c1
   have g0 := hd0.fz 0
   have g1 := hd0.fz 1
   clear hd0
   go_wp2_with fail
   have hbe := HBE.out
   unfold DBlk at hbe
   exact bodyPost_ret (v := DVal 0 0) (results_cell_row Tryd.results38 _ _ (w.heap.size + 1 + 1) _ _ _ _ rfl hbe Tryd.underlying43 rfl (by kernel_rfl)) rfl ⟨HRES.out, HGE.out⟩
 have HL := zqd (show lrnB a b = true by unfold lrnB; rw [HV1.out, HV2.out, HV4.out, show (a.kind == 2) = true by simpa using HK.out]; rfl)
 have HAK := zqd (fun u (hu : Gr w4 u) => HA4.out.kept hu)
 have HBK := zqd (fun u (hu : Gr w4 u) => HB4.out.kept hu)
 obtain ⟨N1, hN1⟩ : ∃ N, numH a = N := ⟨_, rfl⟩
 obtain ⟨N2, hN2⟩ : ∃ N, numH b = N := ⟨_, rfl⟩
 obtain ⟨st, hst⟩ : ∃ t, signedS 16 N1 N2 = t := ⟨_, rfl⟩
 obtain ⟨tm, htm⟩ : ∃ t, signedS 32 a.time b.time = t := ⟨_, rfl⟩
 have hr1 := signed_rng 16 N1 N2
 have hr2 := signed_rng 32 a.time b.time
 rw [hst] at hr1
 rw [htm] at hr2
 obtain ⟨s1, s2⟩ := hr1
 obtain ⟨t1, t2⟩ := hr2
 have HN1 := zqd hN1
 have HN2 := zqd hN2
 have HST := zqd hst
 have HTM := zqd htm
 clear hN1 hN2 hst htm
 go_wp2_with fail
 refine Sched.wp_region_sched 5 [] [] (by kernel_rfl) (by kernel_rfl) ?_
 simp only [List.take_succ_cons, List.take_zero, List.drop_succ_cons, List.drop_zero]
 refine Sched.walk1_gr rfl rfl rfl (fun K hK => ?_)
 refine ⟨HVal a, fun w1 hw1 => (HAK.out w1 hw1).load _ rfl rfl, ?_⟩
 simp only [Act.put, zqa, zqb, zqc]
 refine hK _ ?_
 clear hK K
 repeat (first | (refine Sched.walk1_no rfl rfl (fun K hK => ?_); simp only [Act.put, zqa, zqb, zqc]; refine hK _ ?_; clear hK K) | (refine Sched.walk1_gr rfl rfl rfl (fun K hK => ?_); apply Exists.intro; refine ⟨fun w1 hw1 => ?_, ?_⟩; (focus (go_simp; (try go_ints); (try (simp only [IntWalk.iteOmega]; go_simp)); first | done | (go_at_call 15; (with_reducible exact rnum_is HN1.out _)) | (with_reducible rfl) | (with_reducible exact ⟨rfl, rfl⟩))); simp only [Act.put, zqa, zqb, zqc]; refine hK _ ?_; clear hK K) | (refine Sched.walk1_pure rfl rfl rfl (fun K hK => ?_); apply Exists.intro; refine ⟨fun w1 => ?_, ?_⟩; (focus (go_simp; (try go_ints); (try (simp only [IntWalk.iteOmega]; go_simp)); first | done | (with_reducible rfl) | (with_reducible exact ⟨rfl, rfl⟩))); simp only [Act.put, zqa, zqb, zqc]; refine hK _ ?_; clear hK K) | (refine Sched.walk1_box rfl rfl ?_; apply Exists.intro; refine ⟨fun w1 hw1 => ?_, ?_⟩; (focus (go_simp; exact ⟨Gr.alloc _ _, rfl, by simp, heap_alloc_new _ _⟩))))
 refine Sched.walk1_gr rfl rfl rfl (fun K hK => ?_)
 refine ⟨HVal b, fun w1 hw1 => (HBK.out w1 hw1).load _ rfl rfl, ?_⟩
 simp only [Act.put, zqa, zqb, zqc]
 refine hK _ ?_
 clear hK K
 repeat (first | (refine Sched.walk1_no rfl rfl (fun K hK => ?_); simp only [Act.put, zqa, zqb, zqc]; refine hK _ ?_; clear hK K) | (refine Sched.walk1_gr rfl rfl rfl (fun K hK => ?_); apply Exists.intro; refine ⟨fun w1 hw1 => ?_, ?_⟩; (focus (go_simp; (try go_ints); (try (simp only [IntWalk.iteOmega]; go_simp)); first | done | (first | (go_at_call 15; (with_reducible exact rnum_is HN2.out _)) | (go_at_call 36; (with_reducible exact gr_same (rsigned_is HST.out _)))) | (with_reducible rfl) | (with_reducible exact ⟨rfl, rfl⟩))); simp only [Act.put, zqa, zqb, zqc]; refine hK _ ?_; clear hK K) | (refine Sched.walk1_pure rfl rfl rfl (fun K hK => ?_); apply Exists.intro; refine ⟨fun w1 => ?_, ?_⟩; (focus (go_simp; (try go_ints); (try (simp only [IntWalk.iteOmega]; go_simp)); first | done | (with_reducible rfl) | (with_reducible exact ⟨rfl, rfl⟩))); simp only [Act.put, zqa, zqb, zqc]; refine hK _ ?_; clear hK K) | (refine Sched.walk1_box rfl rfl ?_; apply Exists.intro; refine ⟨fun w1 hw1 => ?_, ?_⟩; (focus (go_simp; exact ⟨Gr.alloc _ _, rfl, by simp, heap_alloc_new _ _⟩))))
 refine Sched.walk1_nil ?_
 intro wq hwq
 have HA6 := zqd (HA4.out.kept hwq)
 have HB6 := zqd (HB4.out.kept hwq)
 have HD6 := zqd (HD4.out.kept hwq)
 have HG6 := zqd (HG4.out.trans hwq)
 clear hwq HAK HBK HA4 HB4 HD4 HG4
 dsimp only [Sched.EndN, List.nil_append, List.cons_append, Act.put]
 (try simp only [zqa, zqb, zqc])
 repeat (first | (refine Sched.walk2_no rfl (fun K hK => ?_); simp only [Act.put, zqa, zqb, zqc]; refine hK _ ?_; clear hK K) | (refine Sched.walk2_go rfl (fun K hK => ?_); go_simp; (try go_ints); (try (simp only [IntWalk.iteOmega]; go_simp)); first | (refine hK _ _ ?_; clear hK K) | fail))
 refine Sched.walk2_nil ?_
 have k1 : wq.cell? ⟨w.heap.size, 13, none⟩ = some (.int .i64 a.time) := HA6.out.at 13 rfl
 have k2 : wq.cell? ⟨w.heap.size + 1, 13, none⟩ = some (.int .i64 b.time) := HB6.out.at 13 rfl
 go_upto_region 6 with (go_at_call 36; ((with_reducible refine (rsigned_is HTM.out _).mono ?_)); rintro e w' ⟨rfl, rfl⟩)
 clear k1 k2
 obtain ⟨w7, hw7⟩ : ∃ y, y = wq.alloc (.cells #[.int .i64 0, .int .i64 0] 43) := ⟨_, rfl⟩
 rw [← hw7]
 have hg7 : Gr wq w7 := by rw [hw7]; exact Gr.alloc _ _
 have HE7 := zqd (show DBlk wq.heap.size 0 0 w7 by rw [hw7]; exact heap_alloc_new _ _)
 have HA7 := zqd (HA6.out.kept hg7)
 have HB7 := zqd (HB6.out.kept hg7)
 have HD7 := zqd (HD6.out.kept hg7)
 have HG7 := zqd (HG6.out.trans hg7)
 clear hw7 hg7
 obtain ⟨wo, rfl⟩ : ∃ wo : World, wo = wq := ⟨_, rfl⟩
 obtain ⟨q, hq⟩ : ∃ q, tm.tdiv st = q := ⟨_, rfl⟩
 have hqr := tdiv_rng (s := st) t1 t2
 rw [hq] at hqr
 obtain ⟨q1, q2⟩ := hqr
 have HQ := zqd hq
 clear hq
 obtain ⟨B, hB⟩ : ∃ x, (st != 0 && tm.tmod st == 0 && decide (0 ≤ q) && decide (q ≤ 65535)) = x := ⟨_, rfl⟩
 have HBB := zqd hB
 clear hB
 go_cut [57] from 38 (fun s wc => s = .bool B ∧ w7 = wc)
 case first =>
   by_cases h0 : st = 0
   · have hb0 : (st != 0) = false := by simpa using h0
     have hE : B = false := by rw [← HBB.out, hb0]; rfl
     subst hE
     clear h0
     go_wp2_with fail
     go_meet
     exact ⟨rfl, rfl⟩
   · have hb0 : (st != 0) = true := by simpa using h0
     cases hm : (tm.tmod st == 0)
     · have hE : B = false := by rw [← HBB.out, hm, Bool.and_false]; rfl
       subst hE
       go_wp2_with fail
       go_meet
       exact ⟨rfl, rfl⟩
     · have hq := HQ.out
       by_cases h3 : 0 ≤ q
       · by_cases h4 : q ≤ 65535
         · have hE : B = true := by rw [← HBB.out, hm, hb0, decide_eq_true h3, decide_eq_true h4]; rfl
           subst hE
           go_wp2_with fail
           go_meet
           exact ⟨rfl, rfl⟩
         · have hE : B = false := by rw [← HBB.out, decide_eq_false h4, Bool.and_false]
           subst hE
           have h4' : 65535 < q := by omega
           go_wp2_with fail
           go_meet
           exact ⟨rfl, rfl⟩
       · have hE : B = false := by rw [← HBB.out, decide_eq_false h3, Bool.and_false]; rfl
         subst hE
         have h3' : q < 0 := by omega
         go_wp2_with fail
         go_meet
         exact ⟨rfl, rfl⟩
 case rest =>
   obtain ⟨rfl, rfl⟩ := hcut
   go_upto_if 57 with (fail)
   go_cut [] from 38 (fun wc => DBlk wo.heap.size (if B then q else 0) 0 wc ∧ HBlk w.heap.size a wc ∧ HBlk (w.heap.size + 1) b wc ∧ DBlk (w.heap.size + 1 + 1) 0 0 wc ∧ Gr w wc)
   case first =>
     cases B
     · go_wp2_with fail
       go_meet
       exact ⟨HE7.out, HA7.out, HB7.out, HD7.out, HG7.out⟩
     · have hb1 : ¬ st = 0 := by
         have := HBB.out
         simp only [Bool.and_eq_true, bne_iff_ne] at this
         exact this.1.1.1
       have hq := HQ.out
       have z0 := HE7.out.c0
       have g0 := HE7.out.fz 0
       go_wp2_with fail
       go_meet
       exact ⟨HE7.out.set0 _, HA7.out.other _ _ (by have := heap_lt HA6.out; omega), HB7.out.other _ _ (by have := heap_lt HB6.out; omega), HD7.out.other _ _ (by have := heap_lt HD6.out; omega), grown_set HG7.out (a := ⟨wo.heap.size, 0, none⟩) HG6.out.size _⟩
   case rest =>
     obtain ⟨he9, ha9, hb9, hd9, hg9⟩ := hcut
     have HA9 := zqd ha9
     have HB9 := zqd hb9
     have HD9 := zqd hd9
     have HG9 := zqd hg9
     obtain ⟨S2, hS2⟩ : ∃ x, (if B then q else 0) = x := ⟨_, rfl⟩
     rw [hS2] at he9
     have HE9 := zqd he9
     have HS2 := zqd (show S2 = learnS a b by
       unfold learnS stpH strS
       rw [HL.out, if_pos rfl, HN1.out, HN2.out, HST.out, HTM.out, HQ.out, ← hS2, ← HBB.out]
       exact rlearn_stride st q tm)
     clear he9 ha9 hb9 hd9 hg9 hS2
     obtain ⟨Lw, hLw⟩ : ∃ t, lowS 16 (a.id + st) = t := ⟨_, rfl⟩
     have HLW := zqd hLw
     obtain ⟨v1, v2, _, _⟩ := valid_rng HV1.out
     obtain ⟨F, hF⟩ : ∃ t, (b.id == Lw) = t := ⟨_, rfl⟩
     have HF := zqd hF
     have HFF := zqd (show (if F then (1 : Int) else 0) = learnF a b by
       unfold learnF stpH
       rw [HL.out, HN1.out, HN2.out, HST.out, HLW.out, HF.out, Bool.true_and])
     clear hLw hF
     have x2 : ∀ u, Gr wc u → u.cell? ⟨w.heap.size, 2, none⟩ = some (.int .i64 a.id) := fun u hu => (HA9.out.kept hu).at 2 rfl
     have y2 : ∀ u, Gr wc u → u.cell? ⟨w.heap.size + 1, 2, none⟩ = some (.int .i64 b.id) := fun u hu => (HB9.out.kept hu).at 2 rfl
     have hFF := HF.out
     go_wp2_with fail
     refine Sched.wp_region_sched 7 [] [] (by kernel_rfl) (by kernel_rfl) ?_
     simp only [List.take_succ_cons, List.take_zero, List.drop_succ_cons, List.drop_zero]
     repeat (first | ((with_reducible refine Sched.walk1_no ?_ ?_ (fun K hK => ?_)); (focus rfl); (focus rfl); simp only [Act.put, zqa, zqb, zqc]; refine hK _ ?_; clear hK K) | ((with_reducible refine Sched.walk1_gr ?_ ?_ ?_ (fun K hK => ?_)); (focus rfl); (focus rfl); (focus rfl); apply Exists.intro; refine ⟨fun w1 hw1 => ?_, ?_⟩; (focus (go_simp; (try go_ints); (try (simp only [IntWalk.iteOmega]; go_simp)); first | done | (go_at_call 43; (with_reducible exact gr_same (rlow_is rfl HLW.out _))) | (with_reducible rfl) | (with_reducible exact ⟨rfl, rfl⟩))); simp only [Act.put, zqa, zqb, zqc]; refine hK _ ?_; clear hK K) | ((with_reducible refine Sched.walk1_pure ?_ ?_ ?_ (fun K hK => ?_)); (focus rfl); (focus rfl); (focus rfl); apply Exists.intro; refine ⟨fun w1 => ?_, ?_⟩; (focus (go_simp; (try go_ints); (try (simp only [IntWalk.iteOmega]; go_simp)); first | done | (with_reducible rfl) | (with_reducible exact ⟨rfl, rfl⟩))); simp only [Act.put, zqa, zqb, zqc]; refine hK _ ?_; clear hK K) | (refine Sched.walk1_box rfl rfl ?_; apply Exists.intro; refine ⟨fun w1 hw1 => ?_, ?_⟩; (focus (go_simp; exact ⟨Gr.alloc _ _, rfl, by simp, heap_alloc_new _ _⟩))))
     (with_reducible refine Sched.walk1_nil ?_)
     intro wq hwq
     have HA10 := zqd (HA9.out.kept hwq)
     have HB10 := zqd (HB9.out.kept hwq)
     have HD10 := zqd (HD9.out.kept hwq)
     have HE10 := zqd (HE9.out.kept hwq)
     have HG10 := zqd (HG9.out.trans hwq)
     clear hwq x2 y2
     dsimp only [Sched.EndN, List.nil_append, List.cons_append, Act.put]
     (try simp only [zqa, zqb, zqc])
     repeat (first | (refine Sched.walk2_no rfl (fun K hK => ?_); simp only [Act.put, zqa, zqb, zqc]; refine hK _ ?_; clear hK K) | (refine Sched.walk2_go rfl (fun K hK => ?_); go_simp; (try go_ints); (try (simp only [IntWalk.iteOmega]; go_simp)); first | (refine hK _ _ ?_; clear hK K) | fail))
     refine Sched.walk2_nil ?_
     clear hFF
     have HRES := zqd (show Ending.returned (DVal S2 (if F then 1 else 0)) = .returned (DVal (learnS a b) (learnF a b)) by rw [HS2.out, HFF.out])
     have z0 := HD10.out.c0
     have z1 := HD10.out.c1
     have g0 := HD10.out.fz 0
     have g1 := HD10.out.fz 1
     have e0 := HE10.out.c0
     have e1 := HE10.out.c1
     have f1 := HE10.out.fz 1
     have hne := heap_lt HD6.out
     cases F
     · have HGE := zqd (grown_set (grown_set HG10.out (a := ⟨w.heap.size + 1 + 1, 0, none⟩) (show w.heap.size ≤ w.heap.size + 1 + 1 by omega) (.int .i64 S2)) (a := ⟨w.heap.size + 1 + 1, 1, none⟩) (show w.heap.size ≤ w.heap.size + 1 + 1 by omega) (.int .i64 0))
       have HBE := zqd ((HD10.out.set0 S2).set1 0)
       go_wp2_with fail
       have hbe := HBE.out
       unfold DBlk at hbe
       exact bodyPost_ret (v := DVal S2 0) (results_cell_row Tryd.results38 _ _ (w.heap.size + 1 + 1) _ _ _ _ rfl hbe Tryd.underlying43 rfl (by kernel_rfl)) rfl ⟨HRES.out, HGE.out⟩
     · have HGE := zqd (grown_set (grown_set (grown_set HG10.out (a := ⟨wo.heap.size, 1, none⟩) HG6.out.size (.int .i64 1)) (a := ⟨w.heap.size + 1 + 1, 0, none⟩) (show w.heap.size ≤ w.heap.size + 1 + 1 by omega) (.int .i64 S2)) (a := ⟨w.heap.size + 1 + 1, 1, none⟩) (show w.heap.size ≤ w.heap.size + 1 + 1 by omega) (.int .i64 1))
       have HBE := zqd (((HD10.out.other (p := wo.heap.size) 1 (.int .i64 1) (by omega)).set0 S2).set1 1)
       go_wp2_with fail
       have hbe := HBE.out
       unfold DBlk at hbe
       exact bodyPost_ret (v := DVal S2 1) (results_cell_row Tryd.results38 _ _ (w.heap.size + 1 + 1) _ _ _ _ rfl hbe Tryd.underlying43 rfl (by kernel_rfl)) rfl ⟨HRES.out, HGE.out⟩
end Go.Proofs.YtlnkofpcidngoaaDoor
