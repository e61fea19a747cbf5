/- Layer 44 (audit): records of logs; flow. -/
import Derived.Test.YtgackcjhiplplaaBase
import Derived.Test.YtgackcjhiplplaaMem2
import Derived.Test.YtgackcjhiplplaaMemC
import Derived.Test.YtgackcjhiplplaaTypes
import Derived.Test.YtgackcjhiplplaaNews
import Derived.Test.YtgackcjhiplplaaSched2
import Derived.Test.YtgackcjhiplplaaSchedD
import Derived.Deep.Cut
import Derived.Laws.OwnMore
namespace Go.Proofs.Ytgackcjhiplplaa
open Go.ChangeShapes Go.WideShapes Go.ChangeAt Go.RowKit

theorem OwnI.weak {B B' : Nat} {e : TypeId} {k : IntKind} {w : World} {a : Option Addr} {n cap : Nat} {xs : List Int} (h : OwnI B e k w a n cap xs) (hB : B' ≤ B) : OwnI B' e k w a n cap xs := by
  refine ⟨⟨h.row.1, ?_⟩, h.wf⟩
  rcases h.row.2 with ⟨hv, h0⟩ | ⟨g, cap', cur, hv, hb, hr⟩
  · exact .inl ⟨hv, h0⟩
  · exact .inr ⟨g, cap', cur, hv, by omega, hr⟩
structure Rec where
  tick : Int
  kind : Int
  term : Int
  bear : Int
  cell : Int
  num : Int
  a : Option Addr
  n : Nat
  c : Nat
  xs : List Int
abbrev RCells (r : Rec) : List Value := [.int .i64 r.tick, .int .i64 r.kind, .int .i64 r.term, .int .i64 r.bear, .int .i64 r.cell, .int .i64 r.num, .slice r.a r.n r.c]
abbrev RVal (r : Rec) : Value := .agg #[.int .i64 r.tick, .int .i64 r.kind, .int .i64 r.term, .int .i64 r.bear, .int .i64 r.cell, .int .i64 r.num, .slice r.a r.n r.c]
theorem flat_at {α β : Type} (f : α → List β) (c : Nat) : ∀ (l : List α), (∀ x ∈ l, (f x).length = c) → ∀ (i j : Nat) (x : α), l[i]? = some x → j < c → (l.flatMap f)[i * c + j]? = (f x)[j]?
  | [], _, i, j, x, h, _ => by simp at h
  | y :: l, hc, 0, j, x, h, hj => by
    simp at h; subst h
    rw [List.flatMap_cons, Nat.zero_mul, Nat.zero_add, List.getElem?_append_left (by rw [hc y (by simp)]; exact hj)]
  | y :: l, hc, i + 1, j, x, h, hj => by
    have ih := flat_at f c l (fun z hz => hc z (by simp [hz])) i j x (by simpa using h) hj
    rw [List.flatMap_cons, List.getElem?_append_right (by rw [hc y (by simp), Nat.add_mul]; omega), hc y (by simp), ← ih]
    congr 1
    rw [Nat.add_mul]; omega
theorem flat_len {α β : Type} (f : α → List β) (c : Nat) : ∀ (l : List α), (∀ x ∈ l, (f x).length = c) → (l.flatMap f).length = l.length * c
  | [], _ => by simp
  | y :: l, hc => by
    rw [List.flatMap_cons, List.length_append, hc y (by simp), flat_len f c l (fun z hz => hc z (by simp [hz])), List.length_cons, Nat.add_mul]; omega
/-- A slice of records reads as the list L. -/
def RdL (w : World) (a : Option Addr) (len : Nat) (L : List Rec) : Prop := L.length = len ∧ len ≤ 1000000 ∧ Seg w a (L.flatMap RCells) ∧ ∀ r ∈ L, Rd .u8 w r.a r.n r.xs
theorem RdL.kept {w w' : World} {a : Option Addr} {len : Nat} {L : List Rec} (h : RdL w a len L) (hg : Gr w w') : RdL w' a len L :=
  ⟨h.1, h.2.1, h.2.2.1.kept (fun b _ _ hb => hg.block b hb (by simp)) hg.size, fun r hr => (h.2.2.2 r hr).kept hg⟩
theorem RdL.some {w : World} {a : Option Addr} {len : Nat} {L : List Rec} (h : RdL w a len L) (hn : 0 < len) : ∃ b off, a = some ⟨b, off, none⟩ ∧ ∀ i r, L[i]? = some r → w.rangeAt b (off + i * 7) (RCells r) := by
  rcases h.2.2.1 with h0 | ⟨b, off, e, _, hc⟩
  · exfalso
    have h2 := flat_len RCells 7 L (fun _ _ => rfl)
    rw [h0, List.length_nil] at h2
    have := h.1
    omega
  · refine ⟨b, off, e, fun i r hi j v hv => ?_⟩
    have hj : j < 7 := by
      rcases Nat.lt_or_ge j 7 with hj | hj
      · exact hj
      · rw [List.getElem?_eq_none (by simpa using hj)] at hv; cases hv
    have hil : i < L.length := by
      rcases Nat.lt_or_ge i L.length with h | h
      · exact h
      · rw [List.getElem?_eq_none h] at hi; cases hi
    have := flat_at RCells 7 L (fun _ _ => rfl) i j r hi hj
    have hlen : (L.flatMap RCells).length = L.length * 7 := flat_len RCells 7 L (fun _ _ => rfl)
    rw [Nat.add_assoc, hc (i * 7 + j) (by rw [hlen]; have := Nat.mul_le_mul_right 7 hil; omega), this]
    exact hv
theorem RdL.get {w : World} {a : Option Addr} {len : Nat} {L : List Rec} (h : RdL w a len L) {i : Nat} (hi : i < len) : ∃ r, L[i]? = Option.some r ∧ Rd .u8 w r.a r.n r.xs := by
  have hl : i < L.length := by rw [h.1]; exact hi
  exact ⟨L[i], by simp [hl], h.2.2.2 _ (List.getElem_mem hl)⟩
def sel (k t b d : Int) (r : Rec) : Bool := r.kind == k && (r.term == t && (r.bear == b && r.num == d))
def idxF (f : Rec → Bool) : Nat → List Rec → List Int
  | _, [] => []
  | i, r :: l => if f r then (i : Int) :: idxF f (i + 1) l else idxF f (i + 1) l
theorem idxF_snoc (f : Rec → Bool) : ∀ (l : List Rec) (i : Nat) (r : Rec), idxF f i (l ++ [r]) = idxF f i l ++ (if f r then [((i + l.length : Nat) : Int)] else [])
  | [], i, r => by simp [idxF]
  | x :: l, i, r => by
    simp only [List.cons_append, idxF, idxF_snoc f l (i + 1) r, List.length_cons]
    rw [show i + 1 + l.length = i + (l.length + 1) by omega]
    split <;> simp
theorem idxF_take {f : Rec → Bool} {L : List Rec} {k : Nat} {r : Rec} (h : L[k]? = some r) : idxF f 0 (L.take (k + 1)) = idxF f 0 (L.take k) ++ (if f r then [(k : Int)] else []) := by
  have hk : k < L.length := by
    rcases Nat.lt_or_ge k L.length with h1 | h1
    · exact h1
    · rw [List.getElem?_eq_none h1] at h; cases h
  rw [List.take_add_one, h, Option.toList_some, idxF_snoc, List.length_take, Nat.min_eq_left (by omega), Nat.zero_add]
theorem idxF_len (f : Rec → Bool) : ∀ (l : List Rec) (i : Nat), (idxF f i l).length ≤ l.length
  | [], _ => by simp [idxF]
  | x :: l, i => by
    have := idxF_len f l (i + 1)
    simp only [idxF, List.length_cons]
    split <;> simp <;> omega
theorem info_rec : (Try.prog.info? 27).map (fun i => (i.size, i.bytes)) = some (7, 72) := by kernel_rfl
theorem info_int : (Try.prog.info? 3).map (fun i => (i.zero, i.size, i.bytes)) = some (some (.int .i64 0), 1, 8) := by kernel_rfl
theorem app_i64 (B : Nat) (w : World) (a : Option Addr) (n cap : Nat) (xs : List Int) (hown : OwnI B 3 .i64 w a n cap xs)
    (b : Option Addr) (m c : Nat) (ys : List Int) (hr : Rd .i64 w b m ys) (hlen : n + m ≤ 10000000) (hbase : B ≤ w.heap.size) :
    ∃ a' cap' w', (Builtin.append_ #[39, 39] 39 #[.slice a n cap, .slice b m c]).run Try.prog w = .ok (.slice a' (n + m) cap') w' ∧ OwnI B 3 .i64 w' a' (n + m) cap' (xs ++ ys) ∧
      w.grownBy w' (Value.slice a n cap).ownBlock ∧ Follows w (.slice a n cap) (.slice a' (n + m) cap') := by
  obtain ⟨i0, hi, hz0, hz1, hz2⟩ := info_parts info_int
  exact run_appI B _ _ _ i0 (.int .i64 0) .i64 8 Try.underlying39 hi hz0 hz1 hz2 rfl w a n cap xs hown b m c ys hr (by omega) (by simp [maxLen]; omega) hbase
/-- The block of a number. -/
def IBlk (g : Nat) (v : Int) (w : World) : Prop := w.heap[g]? = some (.cells #[.int .i64 v] 3 (0, 0))
theorem IBlk.kept {g : Nat} {v : Int} {w w' : World} (h : IBlk g v w) (hg : Gr w w') : IBlk g v w' := by unfold IBlk; rw [hg.block g (heap_lt h) (by simp)]; exact h
theorem IBlk.cell {g : Nat} {v : Int} {w : World} (h : IBlk g v w) : w.cell? ⟨g, 0, none⟩ = some (.int .i64 v) := by rw [cell_of_block h]; rfl
def RBlk (g : Nat) (r : Rec) (w : World) : Prop := w.heap[g]? = some (.cells (RCells r).toArray 27 (0, 0))
theorem RBlk.at {g : Nat} {r : Rec} {w : World} (h : RBlk g r w) (i : Nat) {v : Value} (hv : (RCells r)[i]? = some v) : w.cell? ⟨g, i, none⟩ = some v := by
  rw [cell_of_block h]; simpa using hv
theorem RBlk.kept {g : Nat} {r : Rec} {w w' : World} (h : RBlk g r w) (hg : Gr w w') : RBlk g r w' := by unfold RBlk; rw [hg.block g (heap_lt h) (by simp)]; exact h
theorem flow1_any (r : Rec) (g1 g2 g3 g4 : Nat) (k t b d : Int) (w : World) (h1 : IBlk g1 k w) (h2 : IBlk g2 t w) (h3 : IBlk g3 b w) (h4 : IBlk g4 d w) :
    Calls Try.prog 32 #[RVal r, .pointer (some ⟨g1, 0, none⟩), .pointer (some ⟨g2, 0, none⟩), .pointer (some ⟨g3, 0, none⟩), .pointer (some ⟨g4, 0, none⟩)] w fun e w' => e = .returned (.bool (sel k t b d r)) ∧ Gr w w' := by
  have H1 := Lib.hid h1
  have H2 := Lib.hid h2
  have H3 := Lib.hid h3
  have H4 := Lib.hid h4
  clear h1 h2 h3 h4
  go_enter Try.func32, Try.ntmps32
  go_upto_region 1 with (fail)
  obtain ⟨w1, hw1⟩ : ∃ y, y = w.alloc (.cells (RCells r).toArray 27) := ⟨_, rfl⟩
  have hb1 : RBlk w.heap.size r w1 := by rw [hw1]; exact heap_alloc_new _ _
  have hg1 : Gr w w1 := by rw [hw1]; exact Gr.alloc _ _
  simp only [RCells] at hw1
  first | rw [← hw1] | (go_show; fail)
  have k1 := (H1.out.kept hg1).cell
  have k2 := (H2.out.kept hg1).cell
  have k3 := (H3.out.kept hg1).cell
  have k4 := (H4.out.kept hg1).cell
  have c1 := hb1.at 1 rfl
  have c2 := hb1.at 2 rfl
  have c3 := hb1.at 3 rfl
  have c5 := hb1.at 5 rfl
  have HG1 := Lib.hid hg1
  clear hw1 hb1 hg1
  obtain ⟨B1, e1⟩ : ∃ q, (r.kind == k) = q := ⟨_, rfl⟩
  obtain ⟨B2, e2⟩ : ∃ q, (r.term == t) = q := ⟨_, rfl⟩
  obtain ⟨B3, e3⟩ : ∃ q, (r.bear == b) = q := ⟨_, rfl⟩
  obtain ⟨B4, e4⟩ : ∃ q, (r.num == d) = q := ⟨_, rfl⟩
  have HS := Lib.hid (show sel k t b d r = (B1 && (B2 && (B3 && B4))) by rw [sel, e1, e2, e3, e4])
  cases B1
  · go_wp2_with fail
    go_ret
    exact ⟨ret_bool HS.out.symm, HG1.out⟩
  cases B2
  · go_wp2_with fail
    go_ret
    exact ⟨ret_bool HS.out.symm, HG1.out⟩
  cases B3
  · go_wp2_with fail
    go_ret
    exact ⟨ret_bool HS.out.symm, HG1.out⟩
  · go_wp2_with fail
    go_ret
    exact ⟨ret_bool HS.out.symm, HG1.out⟩
end Go.Proofs.Ytgackcjhiplplaa
