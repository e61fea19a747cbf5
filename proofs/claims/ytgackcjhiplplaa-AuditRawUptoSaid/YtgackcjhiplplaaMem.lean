/- Memory that a call makes: an owned row that is appended to; segments that are read. Over any program. -/
import Derived.Test.YtgackcjhiplplaaFrame
import Derived.ChangeKeysEq
namespace Go.Proofs.Ytgackcjhiplplaa
open Go.ChangeShapes Go.WideShapes Go.ChangeAt Go.RowKit

/-- The cells from the address on are xs. -/
def Seg (w : World) (a : Option Addr) (xs : List Value) : Prop :=
  xs = [] ∨ ∃ b off, a = some ⟨b, off, none⟩ ∧ b < w.heap.size ∧ ∀ i, i < xs.length → w.cell? ⟨b, off + i, none⟩ = xs[i]?

theorem addr_add (b off i : Nat) : (⟨b, off, none⟩ : Addr).add i = ⟨b, off + i, none⟩ := by
  unfold Addr.add; split <;> simp_all

theorem Rd.seg {k : IntKind} {w : World} {a : Option Addr} {len : Nat} {xs : List Int} (h : Rd k w a len xs) : Seg w a (xs.map (Value.int k)) := by
  obtain ⟨h1, _, _, h4⟩ := h
  rcases h4 with h0 | ⟨b, off, rfl, hb, hc⟩
  · left
    have : xs = [] := List.eq_nil_of_length_eq_zero (by omega)
    simp [this]
  · right
    refine ⟨b, off, rfl, hb, fun i hi => ?_⟩
    simp at hi
    rw [hc i (by omega)]
    simp [hi]

theorem Rd.len {k : IntKind} {w : World} {a : Option Addr} {len : Nat} {xs : List Int} (h : Rd k w a len xs) : xs.length = len := h.1

section
variable {w w' : World} {base : Nat} {e : TypeId} {size : Nat} {v : Value} {n : Nat} {xs : List Value}

theorem grownBy_refl (w : World) (r : Option Nat) : w.grownBy w r := ⟨rfl, rfl, rfl, Nat.le_refl _, fun _ _ _ => rfl⟩
/-- Two steps: the second row is the first one's, or new, or none. -/
theorem grownBy_trans {w w1 w2 : World} {r r1 : Option Nat} (h : w.grownBy w1 r) (k : w1.grownBy w2 r1) (hr : r1 = r ∨ r1 = none ∨ ∃ g, r1 = some g ∧ w.heap.size ≤ g) : w.grownBy w2 r := by
  refine ⟨k.os.trans h.os, k.tape.trans h.tape, k.output.trans h.output, Nat.le_trans h.size k.size, fun i hi hne => ?_⟩
  have hi1 : i < w1.heap.size := Nat.lt_of_lt_of_le hi h.size
  rw [k.block i hi1 ?_]
  · exact h.block i hi hne
  · rcases hr with rfl | rfl | ⟨g, rfl, hg⟩
    · exact hne
    · simp
    · intro e; simp at e; omega
theorem grownBy_alloc {w w1 : World} {r : Option Nat} (h : w.grownBy w1 r) (o : Obj) : w.grownBy (w1.alloc o) r :=
  grownBy_trans h (World.grownBy_alloc w1 o none) (.inr (.inl rfl))
theorem grownBy_drew {w w1 : World} {r : Option Nat} (h : w.grownBy w1 r) : w.grownBy w1.drew r :=
  ⟨h.os, h.tape, h.output, h.size, h.block⟩
theorem Below.of_grown {w w1 : World} {r : Option Nat} {B : Nat} (h : w.grownBy w1 r) (hB : B ≤ w.heap.size) (hr : ∀ g, r = some g → B ≤ g) : Below B w w1 :=
  (Below.refl B w).grown h hB hr

/-- v' lies where v lay, or in a new block. -/
def Follows (w : World) (v v' : Value) : Prop := v'.ownBlock = v.ownBlock ∨ ∃ g, v'.ownBlock = some g ∧ w.heap.size ≤ g
theorem Follows.refl (w : World) (v : Value) : Follows w v v := .inl rfl
theorem Follows.trans {w w1 : World} {a b c : Value} (h : Follows w a b) (k : Follows w1 b c) (hs : w.heap.size ≤ w1.heap.size) : Follows w a c := by
  rcases k with k | ⟨g, k, hg⟩
  · rcases h with h | ⟨g, h, hg⟩
    · exact .inl (k.trans h)
    · exact .inr ⟨g, k.trans h, hg⟩
  · exact .inr ⟨g, k, by omega⟩
/-- grownBy along a chain of steps on one owned value. -/
theorem grownBy_follow {w w1 w2 : World} {v v1 : Value} (h : w.grownBy w1 v.ownBlock) (hf : Follows w v v1) (k : w1.grownBy w2 v1.ownBlock) : w.grownBy w2 v.ownBlock := by
  refine grownBy_trans h k ?_
  rcases hf with e | ⟨g, e, hg⟩
  · exact .inl e
  · exact .inr (.inr ⟨g, e, hg⟩)

theorem Follows.later {w w1 : World} {a b : Value} (h : Follows w1 a b) (hs : w.heap.size ≤ w1.heap.size) : Follows w a b := by
  rcases h with h | ⟨g, h, hg⟩
  · exact .inl h
  · exact .inr ⟨g, h, by omega⟩
/-- One round: a new block, then a step on the owned value. -/
theorem round_grown {w wr w2 : World} {o : Obj} {v v1 v2 : Value} (hg : w.grownBy wr v.ownBlock) (hf : Follows w v v1) (hg2 : (wr.alloc o).grownBy w2 v1.ownBlock) (hf2 : Follows (wr.alloc o) v1 v2) :
    w.grownBy w2 v.ownBlock ∧ Follows w v v2 :=
  ⟨grownBy_follow hg hf (grownBy_trans (World.grownBy_alloc wr o _) hg2 (.inl rfl)), hf.trans (hf2.later (w := wr) (by simp)) hg.size⟩

theorem Seg.cells {w : World} {a : Addr} {xs : List Value} (h : Seg w (some a) xs) : ∀ j u, xs[j]? = some u → w.cell? (a.add j) = some u := by
  intro j u hu
  rcases h with rfl | ⟨b, off, e, _, hc⟩
  · simp at hu
  · cases e
    have hj : j < xs.length := by
      rcases Nat.lt_or_ge j xs.length with h | h
      · exact h
      · rw [List.getElem?_eq_none h] at hu; cases hu
    rw [addr_add, hc j hj, hu]
theorem Seg.kept {w w' : World} {a : Option Addr} {xs : List Value} (h : Seg w a xs) (hk : ∀ b off, a = some ⟨b, off, none⟩ → b < w.heap.size → w'.heap[b]? = w.heap[b]?) (hs : w.heap.size ≤ w'.heap.size) : Seg w' a xs := by
  rcases h with rfl | ⟨b, off, rfl, hb, hc⟩
  · exact .inl rfl
  · right
    refine ⟨b, off, rfl, by omega, fun i hi => ?_⟩
    rw [← hc i hi]
    exact World.cell?_of_block (hk b off rfl hb)

theorem cell_new (w : World) (cs : Array Value) (e : TypeId) (fz : Nat × Nat) (i : Nat) : (w.alloc (.cells cs e fz)).cell? ⟨w.heap.size, i, none⟩ = cs[i]? := by
  have : (w.alloc (.cells cs e fz)).heap[w.heap.size]? = some (.cells cs e fz) := heap_alloc_new w _
  unfold World.cell?; rw [this]; rfl
theorem cell_of_block {w : World} {g : Nat} {cs : Array Value} {e : TypeId} {fz : Nat × Nat} (h : w.heap[g]? = some (.cells cs e fz)) (i : Nat) : w.cell? ⟨g, i, none⟩ = cs[i]? := by
  unfold World.cell?; rw [h]; rfl
theorem frozen_of_block {w : World} {g : Nat} {cs : Array Value} {e : TypeId} (h : w.heap[g]? = some (.cells cs e (0, 0))) (i : Nat) : w.frozen? ⟨g, i, none⟩ = false := by
  unfold World.frozen?; rw [h]; simp
/-- A literal slice of integers, just made. -/
theorem rd_new {k : IntKind} {w : World} (xs : List Int) (e : TypeId) (fz : Nat × Nat) (len : Nat) (hl : xs.length = len) (hm : len ≤ maxLen) (hw : ∀ x ∈ xs, (Lit.int k x).wf = true) :
    Rd k (w.alloc (.cells (xs.map (Value.int k)).toArray e fz)) (some ⟨w.heap.size, 0, none⟩) len xs := by
  refine ⟨hl, hw, hm, .inr ⟨w.heap.size, 0, rfl, by simp, fun i hi => ?_⟩⟩
  rw [Nat.zero_add, cell_new]
  simp [show i < xs.length by omega]
theorem Rd.kept {k : IntKind} {w w' : World} {a : Option Addr} {len : Nat} {xs : List Int} (h : Rd k w a len xs) (hg : w.grownBy w' none) : Rd k w' a len xs := by
  obtain ⟨h1, h2, h3, h4⟩ := h
  refine ⟨h1, h2, h3, ?_⟩
  rcases h4 with h0 | ⟨b, off, rfl, hb, hc⟩
  · exact .inl h0
  · refine .inr ⟨b, off, rfl, Nat.lt_of_lt_of_le hb hg.size, fun i hi => ?_⟩
    rw [← hc i hi]
    exact World.cell?_of_block (hg.block b hb (by simp))
theorem Rd.below {k : IntKind} {w w' : World} {a : Option Addr} {len : Nat} {xs : List Int} (h : Rd k w a len xs) (hg : Below w.heap.size w w') : Rd k w' a len xs := by
  obtain ⟨h1, h2, h3, h4⟩ := h
  refine ⟨h1, h2, h3, ?_⟩
  rcases h4 with h0 | ⟨b, off, rfl, hb, hc⟩
  · exact .inl h0
  · refine .inr ⟨b, off, rfl, Nat.lt_of_lt_of_le hb hg.size, fun i hi => ?_⟩
    rw [← hc i hi]
    exact World.cell?_of_block (hg.block b hb)
theorem Below.of_none {w w1 : World} (h : w.grownBy w1 none) : Below w.heap.size w w1 := Below.of_grown h (Nat.le_refl _) (fun g e => by cases e)

variable {P : Program}
theorem run_app (base : Nat) (t ty e : TypeId) (i : TypeInfo) (z : Value) (size bytes : Nat) (ht : P.underlying t = some (.slice e)) (hi : P.info? e = some i) (hz : i.zero = some z)
    (hsize : i.size = size) (hby : i.bytes = bytes) (hzs : z.cells.size = size) (hsz : 0 < size)
    (w : World) (v : Value) (n : Nat) (xs : List Value) (hown : w.ownsRow base e size v n xs)
    (a : Option Addr) (m c : Nat) (news : List Value) (hl : news.length = m * size) (hseg : Seg w a news) (h1 : ∀ u ∈ news, u.oneCell' = true) (hnil : a = none → m = 0 ∧ c = 0)
    (h63 : n + m ≤ maxLen) (hbytes : (n + m) * bytes ≤ 140737488355328) (hbase : base ≤ w.heap.size) :
    ∃ v' w', (Builtin.append_ #[t, t] ty #[v, .slice a m c]).run P w = .ok v' w' ∧ w'.ownsRow base e size v' (n + m) (xs ++ news) ∧ w.grownBy w' v.ownBlock ∧ Follows w v v' ∧ (v' = .slice none 0 0 ↔ v = .slice none 0 0 ∧ m = 0) := by
  cases a with
  | none =>
    obtain ⟨rfl, rfl⟩ := hnil rfl
    have hn : news = [] := List.eq_nil_of_length_eq_zero (by simpa using hl)
    subst hn
    refine ⟨v, w, run_append_owned_none (P := P) (w := w) base t ty e i size ht hi v n xs hown, by simpa using hown, grownBy_refl _ _, Follows.refl _ _, by simp⟩
  | some a =>
    have hnews := hseg.cells
    obtain ⟨v', w', hr, ho, hg, hn⟩ := run_append_own (P := P) w base t ty e i z size bytes ht hi hz hsize hby hzs hsz v n xs hown a m c news hl hnews h1 h63 hbytes hbase
    refine ⟨v', w', hr, ho, hg, ?_, hn⟩
    subst hsize
    subst hby
    rcases hown.2 with ⟨rfl, rfl⟩ | ⟨g, cap, cur, rfl, hbg, hgg, hnc, hcm, hcs, htake⟩
    · by_cases hm : m = 0
      · subst hm
        have := hn.2 ⟨rfl, rfl⟩
        subst this
        exact .inl rfl
      · have hx : xs = [] := List.eq_nil_of_length_eq_zero (by simpa using hown.1)
        subst hx
        have hr2 := run_append_nil (P := P) w t ty e i z ht hi hz a m c news hl hnews (by omega) (by simp only [maxLen] at h63; omega) (by have hb := hbytes; simp only [Nat.zero_add] at hb; omega)
        rw [hr] at hr2
        injection hr2 with h3 h4
        subst h3
        exact .inr ⟨w.heap.size, rfl, Nat.le_refl _⟩
    · by_cases hroom : n + m ≤ cap
      · have hfit : n * i.size + news.length ≤ cur.size := by rw [hl, hcs, ← Nat.add_mul]; exact Nat.mul_le_mul_right _ hroom
        have hr2 := run_append_room (P := P) w t ty e i ht hi g n cap cur hgg a m c news hl hnews h1 hroom hfit
        rw [hr] at hr2
        injection hr2 with h3 h4
        subst h3
        exact .inl rfl
      · have holds : ∀ j u, xs[j]? = some u → w.cell? ((⟨g, 0, none⟩ : Addr).add j) = some u := hown.cells (g := g) rfl
        have hr2 := run_append_grow (P := P) w t ty e i z ht hi hz ⟨g, 0, none⟩ n cap xs hown.1 holds a m c news hl hnews (by omega) (by simp only [maxLen] at h63; omega) (growslice_fits (by omega) hbytes)
        rw [hr] at hr2
        injection hr2 with h3 h4
        subst h3
        exact .inr ⟨w.heap.size, rfl, Nat.le_refl _⟩

theorem run_append_none_any (base : Nat) (t ty e : TypeId) (i : TypeInfo) (size : Nat) (ht : P.underlying t = some (.slice e)) (hi : P.info? e = some i)
    (v : Value) (n : Nat) (xs : List Value) (hown : w.ownsRow base e size v n xs) (c : Nat) :
    (Builtin.append_ #[t, t] ty #[v, .slice none 0 c]).run P w = .ok v w := by
  rcases hown.2 with ⟨rfl, rfl⟩ | ⟨g, cap, cur, rfl, _, _, hnc, _⟩
  · simp [Builtin.append_, run_underlying ht, sizeOf, typeInfo, hi, Builtin.lenOf, Builtin.firstCells]
  · simp [Builtin.append_, run_underlying ht, sizeOf, typeInfo, hi, Builtin.lenOf, Builtin.firstCells, hnc, storeCells]

/-- An owned slice of integers. -/
structure OwnI (B : Nat) (e : TypeId) (k : IntKind) (w : World) (a : Option Addr) (n cap : Nat) (xs : List Int) : Prop where
  row : w.ownsRow B e 1 (.slice a n cap) n (xs.map (Value.int k))
  wf : ∀ x ∈ xs, (Lit.int k x).wf = true

theorem OwnI.len {B : Nat} {e : TypeId} {k : IntKind} {a : Option Addr} {n cap : Nat} {xs : List Int} (h : OwnI B e k w a n cap xs) : xs.length = n := by
  have := h.row.1; simpa using this
theorem OwnI.nil (B : Nat) (e : TypeId) (k : IntKind) (w : World) : OwnI B e k w none 0 0 [] := ⟨World.ownsRow_nil w B e 1, by simp⟩
theorem OwnI.rd {B : Nat} {e : TypeId} {k : IntKind} {a : Option Addr} {n cap : Nat} {xs : List Int} (h : OwnI B e k w a n cap xs) : Rd k w a n xs := by
  have hl := h.len
  rcases h.row.2 with ⟨hv, h0⟩ | ⟨g, cap', cur, hv, hb, hg, hn, hm, hs, ht⟩
  · exact ⟨hl, h.wf, by rw [h0]; simp [maxLen], .inl h0⟩
  · refine ⟨hl, h.wf, Nat.le_trans hn hm, .inr ⟨g, 0, ?_, ?_, ?_⟩⟩
    · injection hv
    · rcases Nat.lt_or_ge g w.heap.size with h1 | h1
      · exact h1
      · rw [Array.getElem?_eq_none h1] at hg; cases hg
    · intro i hi
      have hc := h.row.cells (g := g) (by rw [hv]; rfl) i (.int k (xs[i]?.getD 0)) (by simp [show i < xs.length by omega])
      rw [addr_add] at hc
      exact hc
theorem OwnI.below {B : Nat} {e : TypeId} {k : IntKind} {a : Option Addr} {n cap : Nat} {xs : List Int} (h : OwnI B e k w a n cap xs) : ∀ g, (Value.slice a n cap).ownBlock = some g → B ≤ g ∧ g < w.heap.size := h.row.lt
/-- It stays while other blocks turn. -/
theorem OwnI.kept {B : Nat} {e : TypeId} {k : IntKind} {a : Option Addr} {n cap : Nat} {xs : List Int} (h : OwnI B e k w a n cap xs) {r : Option Nat} (hg : w.grownBy w' r) (hne : (Value.slice a n cap).ownBlock = none ∨ (Value.slice a n cap).ownBlock ≠ r) : OwnI B e k w' a n cap xs :=
  ⟨h.row.kept hg hne, h.wf⟩
theorem OwnI.stay {B : Nat} {e : TypeId} {k : IntKind} {a : Option Addr} {n cap : Nat} {xs : List Int} (h : OwnI B e k w a n cap xs) (hg : w.grownBy w' none) : OwnI B e k w' a n cap xs :=
  h.kept hg (by cases hv : (Value.slice a n cap).ownBlock <;> simp)

/-- A step on a block that was not there at w. -/
theorem grown_own {w0 w1 w2 : World} {B : Nat} {e : TypeId} {k : IntKind} {a : Option Addr} {n cap : Nat} {xs : List Int} (h : w0.grownBy w1 none) (ho : OwnI B e k w1 a n cap xs) (hB : w0.heap.size ≤ B) (hg : w1.grownBy w2 (Value.slice a n cap).ownBlock) : w0.grownBy w2 none := by
  refine grownBy_trans h hg ?_
  cases hv : (Value.slice a n cap).ownBlock with
  | none => exact .inl rfl
  | some g => exact .inr (.inr ⟨g, rfl, by have := (ho.below g hv).1; omega⟩)
theorem grown_trans {w0 w1 w2 : World} (h : w0.grownBy w1 none) (hg : w1.grownBy w2 none) : w0.grownBy w2 none := grownBy_trans h hg (.inl rfl)

theorem heap_setCell_ne (w : World) (a : Addr) (u : Value) (k : Nat) (h : k ≠ a.block) : (w.setCell a u).heap[k]? = w.heap[k]? := Below.heap_setCell w a u k h
/-- A store into a block that was not there at w0. -/
theorem grown_set {w0 w : World} (h : w0.grownBy w none) {a : Addr} (ha : w0.heap.size ≤ a.block) (u : Value) : w0.grownBy (w.setCell a u) none :=
  ⟨h.os, h.tape, h.output, by have := h.size; simpa [World.setCell] using this, fun k hk hne => by rw [heap_setCell_ne _ _ _ _ (by omega)]; exact h.block k hk hne⟩

/-- An append whose run is known. -/
theorem wpList_app {ops : Array Oper} {rest : List Oper} {o : Oper} {a : Act} {Q : Exit → Act → World → Prop} (hw : Region.wanted o (yielded ops a.tmps) = true) (s x : Operand) (t : TypeId)
    (ho : o.op = .call { callee := .builtin .append, args := #[s, x], argTypes := #[t, t] }) {vs vx v' : Value} {w w' : World} (hs : a.eval s = vs) (hx : a.eval x = vx)
    (hrun : (Builtin.append_ #[t, t] o.type #[vs, vx]).run P w = .ok v' w') (h : wpList P ops Q rest (a.put o.dst v') w') : wpList P ops Q (o :: rest) a w := by
  unfold wpList
  rw [if_pos hw]
  left
  unfold Oper.wp execOp
  simp only [ho, resolve, invoke, builtin, Sem.run_bind, Sem.run_pure, Result.andThen_ok, List.map_toArray, List.map_cons, List.map_nil, hs, hx, hrun]
  exact h

/-- A cell of an owned row is written. -/
theorem OwnI.set {w : World} {B : Nat} {e : TypeId} {k : IntKind} {g n cap : Nat} {xs : List Int} (h : OwnI B e k w (some ⟨g, 0, none⟩) n cap xs) (i : Nat) (u : Int) (hu : (Lit.int k u).wf = true) :
    OwnI B e k (w.setCell ⟨g, i, none⟩ (.int k u)) (some ⟨g, 0, none⟩) n cap (xs.set i u) := by
  refine ⟨?_, ?_⟩
  · have := (h.row.stored i (.int k u)).1
    rw [List.map_set]
    exact this
  · intro x hx
    rcases List.mem_or_eq_of_mem_set hx with hx | rfl
    · exact h.wf x hx
    · exact hu
theorem OwnI.some {w : World} {B : Nat} {e : TypeId} {k : IntKind} {a : Option Addr} {n cap : Nat} {xs : List Int} (h : OwnI B e k w a n cap xs) (hn : 0 < n) :
    ∃ g, a = some ⟨g, 0, none⟩ ∧ B ≤ g ∧ g < w.heap.size ∧ (∀ i, i < n → w.cell? ⟨g, i, none⟩ = some (.int k (xs[i]?.getD 0))) ∧ ∀ i, w.frozen? ⟨g, i, none⟩ = false := by
  have hrow := h.row
  have hl := h.len
  rcases hrow.2 with ⟨_, h0⟩ | ⟨g, cap', cur, hv, hb, hg, _, _, _, _⟩
  · omega
  · injection hv with e1 e2 e3
    subst e1
    refine ⟨g, rfl, hb, ?_, fun i hi => ?_, fun i => hrow.frozenAt i⟩
    · rcases Nat.lt_or_ge g w.heap.size with h1 | h1
      · exact h1
      · rw [Array.getElem?_eq_none h1] at hg; cases hg
    · rw [hrow.cellAt i (by omega)]
      simp [show i < xs.length by omega]
theorem OwnI.at {w : World} {B : Nat} {e : TypeId} {k : IntKind} {g n cap : Nat} {xs : List Int} (h : OwnI B e k w (.some ⟨g, 0, none⟩) n cap xs) (i : Nat) (hi : i < n) :
    w.cell? ⟨g, i, none⟩ = .some (.int k (xs[i]?.getD 0)) ∧ w.frozen? ⟨g, i, none⟩ = false := by
  obtain ⟨g', e1, _, _, h1, h2⟩ := h.some (by omega)
  obtain rfl : g = g' := by injection e1 with e1; injection e1
  exact ⟨h1 i hi, h2 i⟩
theorem Rd.some {k : IntKind} {w : World} {a : Option Addr} {len : Nat} {xs : List Int} (h : Rd k w a len xs) (hn : 0 < len) : ∃ b off, a = some ⟨b, off, none⟩ ∧ b < w.heap.size ∧ ∀ i, i < len → w.cell? ⟨b, off + i, none⟩ = some (.int k (xs[i]?.getD 0)) := by
  rcases h.2.2.2 with h0 | h1
  · omega
  · exact h1

/-- What an append of integers does. -/
theorem run_appI (B : Nat) (t ty e : TypeId) (i : TypeInfo) (z : Value) (k : IntKind) (bytes : Nat) (ht : P.underlying t = some (.slice e)) (hi : P.info? e = some i) (hz : i.zero = some z)
    (hsize : i.size = 1) (hby : i.bytes = bytes) (hzs : z.cells.size = 1)
    (w : World) (a : Option Addr) (n cap : Nat) (xs : List Int) (hown : OwnI B e k w a n cap xs)
    (b : Option Addr) (m c : Nat) (ys : List Int) (hr : Rd k w b m ys) (hbytes : (n + m) * bytes ≤ 140737488355328) (hlen : n + m ≤ maxLen) (hbase : B ≤ w.heap.size) :
    ∃ a' cap' w', (Builtin.append_ #[t, t] ty #[.slice a n cap, .slice b m c]).run P w = .ok (.slice a' (n + m) cap') w' ∧ OwnI B e k w' a' (n + m) cap' (xs ++ ys) ∧
      w.grownBy w' (Value.slice a n cap).ownBlock ∧ Follows w (.slice a n cap) (.slice a' (n + m) cap') := by
  have hl : (ys.map (Value.int k)).length = m * 1 := by simp [hr.1]
  have hwf : ∀ x ∈ xs ++ ys, (Lit.int k x).wf = true := by
    intro x hx
    rcases List.mem_append.1 hx with h | h
    · exact hown.wf x h
    · exact hr.2.1 x h
  have key : ∀ v' w', (Builtin.append_ #[t, t] ty #[.slice a n cap, .slice b m c]).run P w = .ok v' w' → w'.ownsRow B e 1 v' (n + m) (xs.map (Value.int k) ++ ys.map (Value.int k)) →
      w.grownBy w' (Value.slice a n cap).ownBlock → Follows w (.slice a n cap) v' →
      ∃ a' cap' w', (Builtin.append_ #[t, t] ty #[.slice a n cap, .slice b m c]).run P w = .ok (.slice a' (n + m) cap') w' ∧ OwnI B e k w' a' (n + m) cap' (xs ++ ys) ∧
      w.grownBy w' (Value.slice a n cap).ownBlock ∧ Follows w (.slice a n cap) (.slice a' (n + m) cap') := by
    intro v' w' h1 h2 h3 h4
    have hv : ∃ a' cap', v' = .slice a' (n + m) cap' := by
      rcases h2.2 with ⟨rfl, h0⟩ | ⟨g, cap', cur, rfl, _⟩
      · rw [h0]; exact ⟨_, _, rfl⟩
      · exact ⟨_, _, rfl⟩
    obtain ⟨a', cap', rfl⟩ := hv
    exact ⟨a', cap', w', h1, ⟨by rw [List.map_append]; exact h2, hwf⟩, h3, h4⟩
  cases b with
  | none =>
    have hm : m = 0 := by
      rcases hr.2.2.2 with h | ⟨_, _, h, _⟩
      · exact h
      · cases h
    subst hm
    have hy : ys = [] := List.eq_nil_of_length_eq_zero hr.1
    subst hy
    exact key _ _ (run_append_none_any B t ty e i 1 ht hi _ n _ hown.row c) (by simpa using hown.row) (grownBy_refl _ _) (Follows.refl _ _)
  | some b =>
    obtain ⟨v', w', h1, h2, h3, h4, _⟩ := run_app B t ty e i z 1 bytes ht hi hz hsize hby hzs (by omega) w _ n _ hown.row (some b) m c _ hl hr.seg (by intro u hu; simp only [List.mem_map] at hu; obtain ⟨x, _, rfl⟩ := hu; rfl) (by simp) hlen hbytes hbase
    exact key v' w' h1 h2 h3 h4
end

/-- An element of an array's value, of one cell. -/
theorem run_index_cell {P : Program} (w : World) {t e : TypeId} {n : Nat} {d : TypeDesc} {cs : Array Value} {j : Nat} {v : Value} (ht : P.underlying t = some (.array n e)) (he : P.plainKey e = true) (hd : P.underlying e = some d) (h1 : P.cellsOf e = 1) (hj : j < n) (hv : cs[j]? = some v) :
    (Instr.index t (.agg cs) (.int .i64 j)).run P w = .ok v w := by
  have hb : 0 ≤ (j : Int) ∧ (j : Int) < n := by omega
  have hp := run_part_plain w he hv
  obtain ⟨i, hi⟩ := info_of_underlying hd
  simp [Instr.index, asIntOf, run_underlying ht, hb, run_sizeOf w hi, h1, hp]
  omega

end Go.Proofs.Ytgackcjhiplplaa
