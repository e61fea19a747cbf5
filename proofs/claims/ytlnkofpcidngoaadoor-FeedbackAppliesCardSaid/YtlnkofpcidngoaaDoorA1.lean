/- Several texts in one. -/
import Derived.Test.YtlnkofpcidngoaaDoorA0
import Derived.Test.YtlnkofpcidngoaaDoorRows
import Derived.WalkKit
import Derived.ProofKit
import Derived.OpenShut
import Derived.ShutString
import Derived.ChangeOld
import Derived.Below
import Derived.JoinedCond
import Derived.Deep.CondSized
import Derived.Lib.Hide
import Derived.WalkLawsBesides
import Derived.WalkSpells
import Derived.ChangeKeysEq
import Derived.Deep.MidRow
import Derived.Deep.Fields
/- What every law's frame needs: readings of the arguments, opened once; and that they stay. -/
namespace Go.Proofs.YtlnkofpcidngoaaDoor
open Go.ChangeShapes Go.WideShapes Go.ChangeAt Go.RowKit
theorem own : ownKnob Tryd.prog.godebug = none := by kernel_rfl
theorem laidOut : laidOutB Tryd.prog = true := by kernel_rfl
theorem cell_lt {w : World} {a : Addr} {v : Value} (h : w.cell? a = some v) : a.block < w.heap.size := by
 unfold World.cell? at h
 rcases Nat.lt_or_ge a.block w.heap.size with h1 | h1
 ·exact h1
 ·rw [Array.getElem?_eq_none h1] at h; cases h
section
variable {H : Type} {enc : TypeId × Value → H} {P : Program}
theorem trodAll_stays (hl : laidOutB P = true) {W W' : World} (hb : Below W.heap.size W W') : ∀ (ts : List TypeId) (vs : List Value) (ds : List (DataW H)) (ps : List MemPlace),
  (ts.all fun t => P.readableRec t && decide (t < P.types.size)) = true → DataW.TrodAll enc P W 0 (fun _ => true) true ts vs ds ps → DataW.TrodAll enc P W' 0 (fun b => decide (b < W.heap.size)) true ts vs ds ps
 | [], vs, ds, ps, _, h => by
  obtain ⟨rfl, rfl, rfl⟩ := trodAll_nil h
  exact trodAll_mk0
 | t :: ts, vs, ds, ps, hr, h => by
  obtain ⟨v, vs', d, ds', p, q, rfl, rfl, rfl, h0, h1⟩ := trodAll_cons h
  simp only [List.all_cons, Bool.and_eq_true, decide_eq_true_eq] at hr
  have lt0 : ∀ x ∈ p, x.block < W.heap.size := by
   obtain ⟨m, hm⟩ := h0
   exact DataW.trod_lt m _ _ _ hm
  exact trodAll_cons_mk (Below.trod hl hr.1.1 hr.1.2 h0 hb lt0) (trodAll_stays hl hb ts vs' ds' q hr.2 h1)
def Rd (k : IntKind) (w : World) (a : Option Addr) (len : Nat) (xs : List Int) : Prop :=
 xs.length = len ∧ (∀ x ∈ xs, (Lit.int k x).wf = true) ∧ len ≤ maxLen ∧
 (len = 0 ∨ ∃ b off, a = some ⟨b, off, none⟩ ∧ b < w.heap.size ∧ ∀ i, i < len → w.cell? ⟨b, off + i, none⟩ = some (.int k (xs[i]?.getD 0)))
theorem open_rd {k : IntKind} {t e : TypeId} {W : World} {a : Option Addr} {len cap : Nat} {d : DataW H} {p : List MemPlace} (ht : P.underlying t = some (.slice e)) (he : P.underlying e = some (.int k)) (hc : P.cellsOf e = 1)
  (h : DataW.Trod enc P W 0 (fun _ => true) true t (.slice a len cap) d p) :
  (∃ xs, Rd k W a len xs ∧ len ≤ cap ∧ (len = 0 ∨ ∃ el sp, d = .slice el sp ∧ el.length = len)) := by
 have lt0 : ∀ x ∈ p, x.block < W.heap.size := by
  obtain ⟨m, hm⟩ := h
  exact DataW.trod_lt m _ _ _ hm
 obtain ⟨fuel, hf⟩ := h
 rcases open_ints ht he hc hf with ⟨hcs, _⟩ | ⟨x, l, c, zs, hcs, _, hl, hm, hz, hx, hcell, hwz⟩
 ·simp [Value.cells] at hcs
  obtain ⟨rfl, rfl, rfl⟩ := hcs
  exact ⟨[], ⟨rfl, by simp, by simp [maxLen], .inl rfl⟩, by simp, .inl rfl⟩
 ·simp [Value.cells] at hcs
  obtain ⟨rfl, rfl, rfl⟩ := hcs
  refine ⟨zs.take len, ⟨by simp at hz ⊢; omega, fun y hy => hwz y (List.mem_of_mem_take hy), by simp at hz; omega, ?_⟩, hl, .inr ⟨_, _, (Prod.mk.inj hx).1, by simp [lits]; simp at hz; omega⟩⟩
  by_cases h0 : len = 0
  ·exact .inl h0
  ·right
   simp at hz
   have h00 := hcell 0 (by omega)
   obtain ⟨b, off, spot⟩ := x
   have hspot : spot = none := by simpa [Addr.add] using World.cell?_spot h00
   subst hspot
   have hadd : ∀ i, (⟨b, off, none⟩ : Addr).add i = ⟨b, off + i, none⟩ := by
    intro i; unfold Addr.add; split <;> simp_all
   refine ⟨b, off, rfl, ?_, ?_⟩
   ·have := cell_lt h00
    simpa [hadd] using this
   ·intro i hi
    have := hcell i (by omega)
    rw [hadd] at this
    rw [this]; congr 2
    simp [List.getD, hi]
theorem len_sized {ts : List TypeId} {ds : List (DataW H)} (hsz : (DataW.weightsEach P ts ds).all (· ≤ reachBytes) = true) {j : Nat} {t e : TypeId} {d : DataW H} {len n : Nat} (ht : ts[j]? = some t) (hd : ds[j]? = some d)
  (hu : P.underlying t = some (.slice e)) (hb : P.bytesOf e = n) (hl : len = 0 ∨ ∃ el sp, d = .slice el sp ∧ el.length = len) : len * n ≤ 140737488351232 := by
 rcases hl with rfl | ⟨el, sp, rfl, rfl⟩
 ·omega
 ·have := sized_slice hsz ht hd hu
  rw [hb] at this
  have h2 : el.length * n ≤ (el.length + sp.length) * n := Nat.mul_le_mul_right _ (by omega)
  have h3 : reachBytes = 140737488351232 := by decide
  omega
end
end Go.Proofs.YtlnkofpcidngoaaDoor
/- Memory that a call makes: an owned row that is appended to; segments that are read. Over any program. -/
namespace Go.Proofs.YtlnkofpcidngoaaDoor
open Go.ChangeShapes Go.WideShapes Go.ChangeAt Go.RowKit
def Seg (w : World) (a : Option Addr) (xs : List Value) : Prop :=
 xs = [] ∨ ∃ b off, a = some ⟨b, off, none⟩ ∧ b < w.heap.size ∧ ∀ i, i < xs.length → w.cell? ⟨b, off + i, none⟩ = xs[i]?
theorem addr_add (b off i : Nat) : (⟨b, off, none⟩ : Addr).add i = ⟨b, off + i, none⟩ := by
 unfold Addr.add; split <;> simp_all
theorem Rd.seg {k : IntKind} {w : World} {a : Option Addr} {len : Nat} {xs : List Int} (h : Rd k w a len xs) : Seg w a (xs.map (Value.int k)) := by
 obtain ⟨h1, _, _, h4⟩ := h
 rcases h4 with h0 | ⟨b, off, rfl, hb, hc⟩
 ·left
  have : xs = [] := List.eq_nil_of_length_eq_zero (by omega)
  simp [this]
 ·right
  refine ⟨b, off, rfl, hb, fun i hi => ?_⟩
  simp at hi
  rw [hc i (by omega)]
  simp [hi]
theorem Rd.len {k : IntKind} {w : World} {a : Option Addr} {len : Nat} {xs : List Int} (h : Rd k w a len xs) : xs.length = len := h.1
section
variable {w w' : World} {base : Nat} {e : TypeId} {size : Nat} {v : Value} {n : Nat} {xs : List Value}
theorem grownBy_refl (w : World) (r : Option Nat) : w.grownBy w r := ⟨rfl, rfl, rfl, Nat.le_refl _, fun _ _ _ => rfl⟩
theorem grownBy_trans {w w1 w2 : World} {r r1 : Option Nat} (h : w.grownBy w1 r) (k : w1.grownBy w2 r1) (hr : r1 = r ∨ r1 = none ∨ ∃ g, r1 = some g ∧ w.heap.size ≤ g) : w.grownBy w2 r := by
 refine ⟨k.os.trans h.os, k.tape.trans h.tape, k.output.trans h.output, Nat.le_trans h.size k.size, fun i hi hne => ?_⟩
 have hi1 : i < w1.heap.size := Nat.lt_of_lt_of_le hi h.size
 rw [k.block i hi1 ?_]
 ·exact h.block i hi hne
 ·rcases hr with rfl | rfl | ⟨g, rfl, hg⟩
  ·exact hne
  ·simp
  ·intro e; simp at e; omega
theorem grownBy_alloc {w w1 : World} {r : Option Nat} (h : w.grownBy w1 r) (o : Obj) : w.grownBy (w1.alloc o) r :=
 grownBy_trans h (World.grownBy_alloc w1 o none) (.inr (.inl rfl))
theorem Below.of_grown {w w1 : World} {r : Option Nat} {B : Nat} (h : w.grownBy w1 r) (hB : B ≤ w.heap.size) (hr : ∀ g, r = some g → B ≤ g) : Below B w w1 :=
 (Below.refl B w).grown h hB hr
def Follows (w : World) (v v' : Value) : Prop := v'.ownBlock = v.ownBlock ∨ ∃ g, v'.ownBlock = some g ∧ w.heap.size ≤ g
theorem Follows.refl (w : World) (v : Value) : Follows w v v := .inl rfl
theorem Follows.trans {w w1 : World} {a b c : Value} (h : Follows w a b) (k : Follows w1 b c) (hs : w.heap.size ≤ w1.heap.size) : Follows w a c := by
 rcases k with k | ⟨g, k, hg⟩
 ·rcases h with h | ⟨g, h, hg⟩
  ·exact .inl (k.trans h)
  ·exact .inr ⟨g, k.trans h, hg⟩
 ·exact .inr ⟨g, k, by omega⟩
theorem grownBy_follow {w w1 w2 : World} {v v1 : Value} (h : w.grownBy w1 v.ownBlock) (hf : Follows w v v1) (k : w1.grownBy w2 v1.ownBlock) : w.grownBy w2 v.ownBlock := by
 refine grownBy_trans h k ?_
 rcases hf with e | ⟨g, e, hg⟩
 ·exact .inl e
 ·exact .inr (.inr ⟨g, e, hg⟩)
theorem Follows.later {w w1 : World} {a b : Value} (h : Follows w1 a b) (hs : w.heap.size ≤ w1.heap.size) : Follows w a b := by
 rcases h with h | ⟨g, h, hg⟩
 ·exact .inl h
 ·exact .inr ⟨g, h, by omega⟩
theorem round_grown {w wr w2 : World} {o : Obj} {v v1 v2 : Value} (hg : w.grownBy wr v.ownBlock) (hf : Follows w v v1) (hg2 : (wr.alloc o).grownBy w2 v1.ownBlock) (hf2 : Follows (wr.alloc o) v1 v2) :
  w.grownBy w2 v.ownBlock ∧ Follows w v v2 :=
 ⟨grownBy_follow hg hf (grownBy_trans (World.grownBy_alloc wr o _) hg2 (.inl rfl)), hf.trans (hf2.later (w := wr) (by simp)) hg.size⟩
theorem Seg.cells {w : World} {a : Addr} {xs : List Value} (h : Seg w (some a) xs) : ∀ j u, xs[j]? = some u → w.cell? (a.add j) = some u := by
 intro j u hu
 rcases h with rfl | ⟨b, off, e, _, hc⟩
 ·simp at hu
 ·cases e
  have hj : j < xs.length := by
   rcases Nat.lt_or_ge j xs.length with h | h
   ·exact h
   ·rw [List.getElem?_eq_none h] at hu; cases hu
  rw [addr_add, hc j hj, hu]
theorem Seg.kept {w w' : World} {a : Option Addr} {xs : List Value} (h : Seg w a xs) (hk : ∀ b off, a = some ⟨b, off, none⟩ → b < w.heap.size → w'.heap[b]? = w.heap[b]?) (hs : w.heap.size ≤ w'.heap.size) : Seg w' a xs := by
 rcases h with rfl | ⟨b, off, rfl, hb, hc⟩
 ·exact .inl rfl
 ·right
  refine ⟨b, off, rfl, by omega, fun i hi => ?_⟩
  rw [← hc i hi]
  exact World.cell?_of_block (hk b off rfl hb)
theorem cell_new (w : World) (cs : Array Value) (e : TypeId) (fz : Nat × Nat) (i : Nat) : (w.alloc (.cells cs e fz)).cell? ⟨w.heap.size, i, none⟩ = cs[i]? := by
 have : (w.alloc (.cells cs e fz)).heap[w.heap.size]? = some (.cells cs e fz) := heap_alloc_new w _
 unfold World.cell?; rw [this]; rfl
theorem cell_of_block {w : World} {g : Nat} {cs : Array Value} {e : TypeId} {fz : Nat × Nat} (h : w.heap[g]? = some (.cells cs e fz)) (i : Nat) : w.cell? ⟨g, i, none⟩ = cs[i]? := by
 unfold World.cell?; rw [h]; rfl
theorem frozen_of_block {w : World} {g : Nat} {cs : Array Value} {e : TypeId} (h : w.heap[g]? = some (.cells cs e (0, 0))) (i : Nat) : w.frozen? ⟨g, i, none⟩ = false := by
 unfold World.frozen?; rw [h]; simp
theorem rd_new {k : IntKind} {w : World} (xs : List Int) (e : TypeId) (fz : Nat × Nat) (len : Nat) (hl : xs.length = len) (hm : len ≤ maxLen) (hw : ∀ x ∈ xs, (Lit.int k x).wf = true) :
  Rd k (w.alloc (.cells (xs.map (Value.int k)).toArray e fz)) (some ⟨w.heap.size, 0, none⟩) len xs := by
 refine ⟨hl, hw, hm, .inr ⟨w.heap.size, 0, rfl, by simp, fun i hi => ?_⟩⟩
 rw [Nat.zero_add, cell_new]
 simp [show i < xs.length by omega]
theorem Rd.kept {k : IntKind} {w w' : World} {a : Option Addr} {len : Nat} {xs : List Int} (h : Rd k w a len xs) (hg : w.grownBy w' none) : Rd k w' a len xs := by
 obtain ⟨h1, h2, h3, h4⟩ := h
 refine ⟨h1, h2, h3, ?_⟩
 rcases h4 with h0 | ⟨b, off, rfl, hb, hc⟩
 ·exact .inl h0
 ·refine .inr ⟨b, off, rfl, Nat.lt_of_lt_of_le hb hg.size, fun i hi => ?_⟩
  rw [← hc i hi]
  exact World.cell?_of_block (hg.block b hb (by simp))
theorem Rd.below {k : IntKind} {w w' : World} {a : Option Addr} {len : Nat} {xs : List Int} (h : Rd k w a len xs) (hg : Below w.heap.size w w') : Rd k w' a len xs := by
 obtain ⟨h1, h2, h3, h4⟩ := h
 refine ⟨h1, h2, h3, ?_⟩
 rcases h4 with h0 | ⟨b, off, rfl, hb, hc⟩
 ·exact .inl h0
 ·refine .inr ⟨b, off, rfl, Nat.lt_of_lt_of_le hb hg.size, fun i hi => ?_⟩
  rw [← hc i hi]
  exact World.cell?_of_block (hg.block b hb)
theorem Below.of_none {w w1 : World} (h : w.grownBy w1 none) : Below w.heap.size w w1 := Below.of_grown h (Nat.le_refl _) (fun g e => by cases e)
variable {P : Program}
theorem run_app (base : Nat) (t ty e : TypeId) (i : TypeInfo) (z : Value) (size bytes : Nat) (ht : P.underlying t = some (.slice e)) (hi : P.info? e = some i) (hz : i.zero = some z)
  (hsize : i.size = size) (hby : i.bytes = bytes) (hzs : z.cells.size = size) (hsz : 0 < size)
  (w : World) (v : Value) (n : Nat) (xs : List Value) (hown : w.ownsRow base e size v n xs)
  (a : Option Addr) (m c : Nat) (news : List Value) (hl : news.length = m * size) (hseg : Seg w a news) (h1 : ∀ u ∈ news, u.oneCell' = true) (hnil : a = none → m = 0 ∧ c = 0)
  (h63 : n + m ≤ maxLen) (hbytes : (n + m) * bytes ≤ 140737488355328) (hbase : base ≤ w.heap.size) :
  ∃ v' w', (Builtin.append_ #[t, t] ty #[v, .slice a m c]).run P w = .ok v' w' ∧ w'.ownsRow base e size v' (n + m) (xs ++ news) ∧ w.grownBy w' v.ownBlock ∧ Follows w v v' ∧ (v' = .slice none 0 0 ↔ v = .slice none 0 0 ∧ m = 0) := by
 cases a with
 | none =>
  obtain ⟨rfl, rfl⟩ := hnil rfl
  have hn : news = [] := List.eq_nil_of_length_eq_zero (by simpa using hl)
  subst hn
  refine ⟨v, w, run_append_owned_none (P := P) (w := w) base t ty e i size ht hi v n xs hown, by simpa using hown, grownBy_refl _ _, Follows.refl _ _, by simp⟩
 | some a =>
  have hnews := hseg.cells
  obtain ⟨v', w', hr, ho, hg, hn⟩ := run_append_own (P := P) w base t ty e i z size bytes ht hi hz hsize hby hzs hsz v n xs hown a m c news hl hnews h1 h63 hbytes hbase
  refine ⟨v', w', hr, ho, hg, ?_, hn⟩
  subst hsize
  subst hby
  rcases hown.2 with ⟨rfl, rfl⟩ | ⟨g, cap, cur, rfl, hbg, hgg, hnc, hcm, hcs, htake⟩
  ·by_cases hm : m = 0
   ·subst hm
    have := hn.2 ⟨rfl, rfl⟩
    subst this
    exact .inl rfl
   ·have hx : xs = [] := List.eq_nil_of_length_eq_zero (by simpa using hown.1)
    subst hx
    have hr2 := run_append_nil (P := P) w t ty e i z ht hi hz a m c news hl hnews (by omega) (by simp only [maxLen] at h63; omega) (by have hb := hbytes; simp only [Nat.zero_add] at hb; omega)
    rw [hr] at hr2
    injection hr2 with h3 h4
    subst h3
    exact .inr ⟨w.heap.size, rfl, Nat.le_refl _⟩
  ·by_cases hroom : n + m ≤ cap
   ·have hfit : n * i.size + news.length ≤ cur.size := by rw [hl, hcs, ← Nat.add_mul]; exact Nat.mul_le_mul_right _ hroom
    have hr2 := run_append_room (P := P) w t ty e i ht hi g n cap cur hgg a m c news hl hnews h1 hroom hfit
    rw [hr] at hr2
    injection hr2 with h3 h4
    subst h3
    exact .inl rfl
   ·have holds : ∀ j u, xs[j]? = some u → w.cell? ((⟨g, 0, none⟩ : Addr).add j) = some u := hown.cells (g := g) rfl
    have hr2 := run_append_grow (P := P) w t ty e i z ht hi hz ⟨g, 0, none⟩ n cap xs hown.1 holds a m c news hl hnews (by omega) (by simp only [maxLen] at h63; omega) (growslice_fits (by omega) hbytes)
    rw [hr] at hr2
    injection hr2 with h3 h4
    subst h3
    exact .inr ⟨w.heap.size, rfl, Nat.le_refl _⟩
theorem run_append_none_any (base : Nat) (t ty e : TypeId) (i : TypeInfo) (size : Nat) (ht : P.underlying t = some (.slice e)) (hi : P.info? e = some i)
  (v : Value) (n : Nat) (xs : List Value) (hown : w.ownsRow base e size v n xs) (c : Nat) :
  (Builtin.append_ #[t, t] ty #[v, .slice none 0 c]).run P w = .ok v w := by
 rcases hown.2 with ⟨rfl, rfl⟩ | ⟨g, cap, cur, rfl, _, _, hnc, _⟩
 ·simp [Builtin.append_, run_underlying ht, sizeOf, typeInfo, hi, Builtin.lenOf, Builtin.firstCells]
 ·simp [Builtin.append_, run_underlying ht, sizeOf, typeInfo, hi, Builtin.lenOf, Builtin.firstCells, hnc, storeCells]
structure OwnI (B : Nat) (e : TypeId) (k : IntKind) (w : World) (a : Option Addr) (n cap : Nat) (xs : List Int) : Prop where
 row : w.ownsRow B e 1 (.slice a n cap) n (xs.map (Value.int k))
 wf : ∀ x ∈ xs, (Lit.int k x).wf = true
theorem OwnI.len {B : Nat} {e : TypeId} {k : IntKind} {a : Option Addr} {n cap : Nat} {xs : List Int} (h : OwnI B e k w a n cap xs) : xs.length = n := by
 have := h.row.1; simpa using this
theorem OwnI.nil (B : Nat) (e : TypeId) (k : IntKind) (w : World) : OwnI B e k w none 0 0 [] := ⟨World.ownsRow_nil w B e 1, by simp⟩
theorem OwnI.rd {B : Nat} {e : TypeId} {k : IntKind} {a : Option Addr} {n cap : Nat} {xs : List Int} (h : OwnI B e k w a n cap xs) : Rd k w a n xs := by
 have hl := h.len
 rcases h.row.2 with ⟨hv, h0⟩ | ⟨g, cap', cur, hv, hb, hg, hn, hm, hs, ht⟩
 ·exact ⟨hl, h.wf, by rw [h0]; simp [maxLen], .inl h0⟩
 ·refine ⟨hl, h.wf, Nat.le_trans hn hm, .inr ⟨g, 0, ?_, ?_, ?_⟩⟩
  ·injection hv
  ·rcases Nat.lt_or_ge g w.heap.size with h1 | h1
   ·exact h1
   ·rw [Array.getElem?_eq_none h1] at hg; cases hg
  ·intro i hi
   have hc := h.row.cells (g := g) (by rw [hv]; rfl) i (.int k (xs[i]?.getD 0)) (by simp [show i < xs.length by omega])
   rw [addr_add] at hc
   exact hc
theorem OwnI.below {B : Nat} {e : TypeId} {k : IntKind} {a : Option Addr} {n cap : Nat} {xs : List Int} (h : OwnI B e k w a n cap xs) : ∀ g, (Value.slice a n cap).ownBlock = some g → B ≤ g ∧ g < w.heap.size := h.row.lt
theorem OwnI.kept {B : Nat} {e : TypeId} {k : IntKind} {a : Option Addr} {n cap : Nat} {xs : List Int} (h : OwnI B e k w a n cap xs) {r : Option Nat} (hg : w.grownBy w' r) (hne : (Value.slice a n cap).ownBlock = none ∨ (Value.slice a n cap).ownBlock ≠ r) : OwnI B e k w' a n cap xs :=
 ⟨h.row.kept hg hne, h.wf⟩
theorem OwnI.stay {B : Nat} {e : TypeId} {k : IntKind} {a : Option Addr} {n cap : Nat} {xs : List Int} (h : OwnI B e k w a n cap xs) (hg : w.grownBy w' none) : OwnI B e k w' a n cap xs :=
 h.kept hg (by cases hv : (Value.slice a n cap).ownBlock <;> simp)
theorem grown_own {w0 w1 w2 : World} {B : Nat} {e : TypeId} {k : IntKind} {a : Option Addr} {n cap : Nat} {xs : List Int} (h : w0.grownBy w1 none) (ho : OwnI B e k w1 a n cap xs) (hB : w0.heap.size ≤ B) (hg : w1.grownBy w2 (Value.slice a n cap).ownBlock) : w0.grownBy w2 none := by
 refine grownBy_trans h hg ?_
 cases hv : (Value.slice a n cap).ownBlock with
 | none => exact .inl rfl
 | some g => exact .inr (.inr ⟨g, rfl, by have := (ho.below g hv).1; omega⟩)
theorem grown_trans {w0 w1 w2 : World} (h : w0.grownBy w1 none) (hg : w1.grownBy w2 none) : w0.grownBy w2 none := grownBy_trans h hg (.inl rfl)
theorem heap_setCell_ne (w : World) (a : Addr) (u : Value) (k : Nat) (h : k ≠ a.block) : (w.setCell a u).heap[k]? = w.heap[k]? := Below.heap_setCell w a u k h
theorem grown_set {w0 w : World} (h : w0.grownBy w none) {a : Addr} (ha : w0.heap.size ≤ a.block) (u : Value) : w0.grownBy (w.setCell a u) none :=
 ⟨h.os, h.tape, h.output, by have := h.size; simpa [World.setCell] using this, fun k hk hne => by rw [heap_setCell_ne _ _ _ _ (by omega)]; exact h.block k hk hne⟩
theorem wpList_app {ops : Array Oper} {rest : List Oper} {o : Oper} {a : Act} {Q : Exit → Act → World → Prop} (hw : Region.wanted o (yielded ops a.tmps) = true) (s x : Operand) (t : TypeId)
  (ho : o.op = .call { callee := .builtin .append, args := #[s, x], argTypes := #[t, t] }) {vs vx v' : Value} {w w' : World} (hs : a.eval s = vs) (hx : a.eval x = vx)
  (hrun : (Builtin.append_ #[t, t] o.type #[vs, vx]).run P w = .ok v' w') (h : wpList P ops Q rest (a.put o.dst v') w') : wpList P ops Q (o :: rest) a w := by
 unfold wpList
 rw [if_pos hw]
 left
 unfold Oper.wp execOp
 simp only [ho, resolve, invoke, builtin, Sem.run_bind, Sem.run_pure, Result.andThen_ok, List.map_toArray, List.map_cons, List.map_nil, hs, hx, hrun]
 exact h
theorem OwnI.set {w : World} {B : Nat} {e : TypeId} {k : IntKind} {g n cap : Nat} {xs : List Int} (h : OwnI B e k w (some ⟨g, 0, none⟩) n cap xs) (i : Nat) (u : Int) (hu : (Lit.int k u).wf = true) :
  OwnI B e k (w.setCell ⟨g, i, none⟩ (.int k u)) (some ⟨g, 0, none⟩) n cap (xs.set i u) := by
 refine ⟨?_, ?_⟩
 ·have := (h.row.stored i (.int k u)).1
  rw [List.map_set]
  exact this
 ·intro x hx
  rcases List.mem_or_eq_of_mem_set hx with hx | rfl
  ·exact h.wf x hx
  ·exact hu
theorem OwnI.some {w : World} {B : Nat} {e : TypeId} {k : IntKind} {a : Option Addr} {n cap : Nat} {xs : List Int} (h : OwnI B e k w a n cap xs) (hn : 0 < n) :
  ∃ g, a = some ⟨g, 0, none⟩ ∧ B ≤ g ∧ g < w.heap.size ∧ (∀ i, i < n → w.cell? ⟨g, i, none⟩ = some (.int k (xs[i]?.getD 0))) ∧ ∀ i, w.frozen? ⟨g, i, none⟩ = false := by
 have hrow := h.row
 have hl := h.len
 rcases hrow.2 with ⟨_, h0⟩ | ⟨g, cap', cur, hv, hb, hg, _, _, _, _⟩
 ·omega
 ·injection hv with e1 e2 e3
  subst e1
  refine ⟨g, rfl, hb, ?_, fun i hi => ?_, fun i => hrow.frozenAt i⟩
  ·rcases Nat.lt_or_ge g w.heap.size with h1 | h1
   ·exact h1
   ·rw [Array.getElem?_eq_none h1] at hg; cases hg
  ·rw [hrow.cellAt i (by omega)]
   simp [show i < xs.length by omega]
theorem OwnI.at {w : World} {B : Nat} {e : TypeId} {k : IntKind} {g n cap : Nat} {xs : List Int} (h : OwnI B e k w (.some ⟨g, 0, none⟩) n cap xs) (i : Nat) (hi : i < n) :
  w.cell? ⟨g, i, none⟩ = .some (.int k (xs[i]?.getD 0)) ∧ w.frozen? ⟨g, i, none⟩ = false := by
 obtain ⟨g', e1, _, _, h1, h2⟩ := h.some (by omega)
 obtain rfl : g = g' := by injection e1 with e1; injection e1
 exact ⟨h1 i hi, h2 i⟩
theorem Rd.some {k : IntKind} {w : World} {a : Option Addr} {len : Nat} {xs : List Int} (h : Rd k w a len xs) (hn : 0 < len) : ∃ b off, a = some ⟨b, off, none⟩ ∧ b < w.heap.size ∧ ∀ i, i < len → w.cell? ⟨b, off + i, none⟩ = some (.int k (xs[i]?.getD 0)) := by
 rcases h.2.2.2 with h0 | h1
 ·omega
 ·exact h1
theorem run_appI (B : Nat) (t ty e : TypeId) (i : TypeInfo) (z : Value) (k : IntKind) (bytes : Nat) (ht : P.underlying t = some (.slice e)) (hi : P.info? e = some i) (hz : i.zero = some z)
  (hsize : i.size = 1) (hby : i.bytes = bytes) (hzs : z.cells.size = 1)
  (w : World) (a : Option Addr) (n cap : Nat) (xs : List Int) (hown : OwnI B e k w a n cap xs)
  (b : Option Addr) (m c : Nat) (ys : List Int) (hr : Rd k w b m ys) (hbytes : (n + m) * bytes ≤ 140737488355328) (hlen : n + m ≤ maxLen) (hbase : B ≤ w.heap.size) :
  ∃ a' cap' w', (Builtin.append_ #[t, t] ty #[.slice a n cap, .slice b m c]).run P w = .ok (.slice a' (n + m) cap') w' ∧ OwnI B e k w' a' (n + m) cap' (xs ++ ys) ∧
   w.grownBy w' (Value.slice a n cap).ownBlock ∧ Follows w (.slice a n cap) (.slice a' (n + m) cap') := by
 have hl : (ys.map (Value.int k)).length = m * 1 := by simp [hr.1]
 have hwf : ∀ x ∈ xs ++ ys, (Lit.int k x).wf = true := by
  intro x hx
  rcases List.mem_append.1 hx with h | h
  ·exact hown.wf x h
  ·exact hr.2.1 x h
 have key : ∀ v' w', (Builtin.append_ #[t, t] ty #[.slice a n cap, .slice b m c]).run P w = .ok v' w' → w'.ownsRow B e 1 v' (n + m) (xs.map (Value.int k) ++ ys.map (Value.int k)) →
   w.grownBy w' (Value.slice a n cap).ownBlock → Follows w (.slice a n cap) v' →
   ∃ a' cap' w', (Builtin.append_ #[t, t] ty #[.slice a n cap, .slice b m c]).run P w = .ok (.slice a' (n + m) cap') w' ∧ OwnI B e k w' a' (n + m) cap' (xs ++ ys) ∧
   w.grownBy w' (Value.slice a n cap).ownBlock ∧ Follows w (.slice a n cap) (.slice a' (n + m) cap') := by
  intro v' w' h1 h2 h3 h4
  have hv : ∃ a' cap', v' = .slice a' (n + m) cap' := by
   rcases h2.2 with ⟨rfl, h0⟩ | ⟨g, cap', cur, rfl, _⟩
   ·rw [h0]; exact ⟨_, _, rfl⟩
   ·exact ⟨_, _, rfl⟩
  obtain ⟨a', cap', rfl⟩ := hv
  exact ⟨a', cap', w', h1, ⟨by rw [List.map_append]; exact h2, hwf⟩, h3, h4⟩
 cases b with
 | none =>
  have hm : m = 0 := by
   rcases hr.2.2.2 with h | ⟨_, _, h, _⟩
   ·exact h
   ·cases h
  subst hm
  have hy : ys = [] := List.eq_nil_of_length_eq_zero hr.1
  subst hy
  exact key _ _ (run_append_none_any B t ty e i 1 ht hi _ n _ hown.row c) (by simpa using hown.row) (grownBy_refl _ _) (Follows.refl _ _)
 | some b =>
  obtain ⟨v', w', h1, h2, h3, h4, _⟩ := run_app B t ty e i z 1 bytes ht hi hz hsize hby hzs (by omega) w _ n _ hown.row (some b) m c _ hl hr.seg (by intro u hu; simp only [List.mem_map] at hu; obtain ⟨x, _, rfl⟩ := hu; rfl) (by simp) hlen hbytes hbase
  exact key v' w' h1 h2 h3 h4
end
end Go.Proofs.YtlnkofpcidngoaaDoor
/- Regions that draw their order: one walk of the lexical order serves every order. Head operations yield fixed values in every later world; 'new' ones yield values of new memory; then come a chain of last operations that may write. -/
namespace Go.Proofs.YtlnkofpcidngoaaDoor
open Go.ChangeShapes Go.WideShapes Go.ChangeAt Go.RowKit
def Gr (W w : World) : Prop := W.grownBy w none
theorem Gr.refl (W : World) : Gr W W := grownBy_refl W none
theorem Gr.trans {W w w' : World} (h : Gr W w) (k : Gr w w') : Gr W w' := grown_trans h k
theorem Gr.cell {W w : World} (h : Gr W w) {a : Addr} {v : Value} (hc : W.cell? a = some v) : w.cell? a = some v := World.grownBy.cell h hc (by simp)
theorem Gr.alloc (w : World) (o : Obj) : Gr w (w.alloc o) := World.grownBy_alloc w o none
namespace Sched
variable (P : Program) (ops : Array Oper) (W : World)
abbrev NPred := Nat → Nat → Value → World → Prop
def gq (o : Oper) (a : Act) (w : World) (v : Value) (late : Bool) : Prop :=
 match (execOp a.eval o).run P w with
 | .ok (.value u) w' => w' = w ∧ u = v
 | .ok .skip w' => w' = w ∧ v = undef
 | .ok (.enter f args) w' => w' = w ∧ late = false ∧ Calls P f args w (fun e w'' => e = .returned v ∧ Gr w w'')
 | _ => False
def nq (o : Oper) (a : Act) (w : World) (N : NPred) : Prop :=
 match (execOp a.eval o).run P w with
 | .ok (.value v) w' => Gr w w' ∧ N w.heap.size w'.heap.size v w'
 | .ok (.enter f args) w' => w' = w ∧ Calls P f args w (fun e w'' => ∃ v, e = .returned v ∧ Gr w w'' ∧ N w.heap.size w''.heap.size v w'')
 | _ => False
def Stable (N : NPred) : Prop := ∀ lo hi v w w', N lo hi v w → Gr w w' → N lo hi v w'
def tq (o : Oper) (a : Act) (w : World) (K : Act → World → Prop) : Prop :=
 match (execOp a.eval o).run P w with
 | .ok (.value v) w' => K (a.put o.dst v) w'
 | .ok .skip w' => K (a.put o.dst undef) w'
 | .ok (.enter f args) w' => Calls P f args w' (fun e w'' => ∃ v, e = .returned v ∧ K (a.put o.dst v) w'')
 | _ => False
def Walk1 (late news : List Nat) (Q : Act → List (Option Tmp × NPred) → Prop) : List Oper → Nat → Act → List (Option Tmp × NPred) → Prop
 | [], _, a, L => Q a L
 | o :: r, k, a, L =>
  if news.contains k then
   Region.wanted o (yielded ops a.tmps) = true ∧ ∃ N : NPred, Stable N ∧ (∀ w, Gr W w → nq P o a w N) ∧ Walk1 late news Q r (k + 1) a (L ++ [(o.dst, N)])
  else if Region.wanted o (yielded ops a.tmps) then
   ∃ v, (∀ w, (late.contains k = true ∨ Gr W w) → gq P o a w v (late.contains k)) ∧ Walk1 late news Q r (k + 1) (a.put o.dst v) L
  else Walk1 late news Q r (k + 1) (a.put o.dst undef) L
def Walk2 (Q : Act → World → Prop) : List Oper → Act → World → Prop
 | [], a, w => Q a w
 | o :: r, a, w =>
  if Region.wanted o (yielded ops a.tmps) then tq P o a w (Walk2 Q r) else Walk2 Q r (a.put o.dst undef) w
def EndN (w : World) (K : Act → Prop) : List (Option Tmp × NPred) → List (Nat × Nat) → Act → Prop
 | [], _, a => K a
 | (d, N) :: L, prev, a => ∀ lo hi v, N lo hi v w → W.heap.size ≤ lo → lo ≤ hi → hi ≤ w.heap.size → (∀ p ∈ prev, p.2 ≤ lo ∨ hi ≤ p.1) → EndN w K L ((lo, hi) :: prev) (a.put d v)
/-! ### The check on the edges -/
def dstOf (j : Nat) : Option Tmp := (ops[j]?).bind (·.dst)
def bef (B : Array Nat) (i j : Nat) : Bool := (B.getD i 0).testBit j
def chk1 (B : Array Nat) : Bool :=
 (List.range ops.size).all fun i =>
   match ops[i]? with
   | none => false
   | some o =>
     (o.after.toList.all fun e => !Region.binds .any e || decide (e.on < i)) &&
     (List.range ops.size).all fun j =>
       (!bef B i j || o.after.toList.any fun e => Region.binds .any e && (decide (e.on = j) || bef B e.on j)) &&
       (match dstOf ops j with
        | none => true
        | some t =>
          (decide (i = j) || !(o.dst == some t)) &&
          (!(o.looksAt ops).contains t || (decide (j < i) && bef B i j) || (decide (i < j) && bef B j i)))
def chk2 (B : Array Nat) (m : Nat) (late news : List Nat) : Bool :=
 decide (m ≤ ops.size) && (news.all fun k => decide (k < m)) && (late.all fun k => decide (k < m) && !news.contains k) &&
 (decide (m = ops.size) || (List.range m).all fun j => late.contains j || bef B m j) &&
 ((List.range ops.size).all fun i => decide (i ≤ m) || bef B i (i - 1)) &&
 ((List.range m).all fun i => match ops[i]? with
  | none => false
  | some o => news.all fun k => match dstOf ops k with | some t => !(o.looksAt ops).contains t | none => true)
variable {P ops W}
variable {B : Array Nat} {m : Nat} {late news : List Nat}
theorem chk_edge (h : chk1 ops B = true) {i : Nat} {o : Oper} (ho : ops[i]? = some o) : ∀ e ∈ o.after, Region.binds .any e = true → e.on < i := by
 intro e he hb
 have hi := (Array.getElem?_eq_some_iff.1 ho).1
 have := List.all_eq_true.1 h i (List.mem_range.2 hi)
 simp only [ho, Bool.and_eq_true, List.all_eq_true] at this
 have h2 := this.1 e (by simpa using he)
 simpa [hb] using h2
theorem chk_pair (h : chk1 ops B = true) {i j : Nat} {o : Oper} (ho : ops[i]? = some o) (hj : j < ops.size) :
  (bef B i j = true → ∃ e ∈ o.after, Region.binds .any e = true ∧ (e.on = j ∨ bef B e.on j = true)) ∧
  ∀ t, dstOf ops j = some t → (i = j ∨ o.dst ≠ some t) ∧ (t ∈ o.looksAt ops → (j < i ∧ bef B i j = true) ∨ (i < j ∧ bef B j i = true)) := by
 have hi := (Array.getElem?_eq_some_iff.1 ho).1
 have := List.all_eq_true.1 h i (List.mem_range.2 hi)
 simp only [ho, Bool.and_eq_true] at this
 have h2 := List.all_eq_true.1 this.2 j (List.mem_range.2 hj)
 simp only [Bool.and_eq_true] at h2
 refine ⟨fun hb => ?_, fun t ht => ?_⟩
 ·have h3 := h2.1
  simp only [hb, Bool.not_true, Bool.false_or] at h3
  obtain ⟨e, he, h4⟩ := List.any_eq_true.1 h3
  simp only [Bool.and_eq_true, Bool.or_eq_true, decide_eq_true_eq] at h4
  exact ⟨e, by simpa using he, h4.1, h4.2⟩
 ·have h3 := h2.2
  simp only [ht, Bool.and_eq_true, Bool.or_eq_true, decide_eq_true_eq, Bool.not_eq_true', beq_eq_false_iff_ne, List.contains_eq_mem, decide_eq_false_iff_not] at h3
  refine ⟨h3.1, fun hm => ?_⟩
  rcases h3.2 with (h4 | h4) | h4
  ·exact absurd hm h4
  ·exact .inl h4
  ·exact .inr h4
def lst (listed : Array Bool) (i : Nat) : Bool := listed.getD i false
def Closed (ops : Array Oper) (listed : Array Bool) : Prop := ∀ i o, ops[i]? = some o → lst listed i = true → ∀ e ∈ o.after, Region.binds .any e = true → lst listed e.on = true
theorem listed_of_bef (h : chk1 ops B = true) {listed : Array Bool} (hc : Closed ops listed) : ∀ (i : Nat) (o : Oper), ops[i]? = some o → (∀ e ∈ o.after, Region.binds .any e = true → lst listed e.on = true) →
  ∀ j, bef B i j = true → j < ops.size → lst listed j = true := by
 intro i
 induction i using Nat.strongRecOn with
 | _ i ih =>
  intro o ho hd j hb hj
  obtain ⟨e, he, hbi, h3⟩ := (chk_pair h ho hj).1 hb
  have hl := hd e he hbi
  rcases h3 with rfl | h3
  ·exact hl
  ·have hlt := chk_edge h ho e he hbi
   have hi := (Array.getElem?_eq_some_iff.1 ho).1
   obtain ⟨o', ho'⟩ : ∃ o', ops[e.on]? = some o' := ⟨ops[e.on]'(by omega), Array.getElem?_eq_getElem _⟩
   exact ih e.on hlt o' ho' (hc e.on o' ho' hl) j h3 hj
/-! ### What the head's walk gives -/
def FixOK (P : Program) (ops : Array Oper) (W : World) (late : List Nat) (i : Nat) (a : Act) (v : Value) : Prop := ∃ o, ops[i]? = some o ∧
 ((Region.wanted o (yielded ops a.tmps) = true ∧ ∀ w, (late.contains i = true ∨ Gr W w) → gq P o a w v (late.contains i)) ∨ (Region.wanted o (yielded ops a.tmps) = false ∧ v = undef))
def NewOK (P : Program) (ops : Array Oper) (W : World) (i : Nat) (a : Act) (N : NPred) : Prop := ∃ o, ops[i]? = some o ∧ Region.wanted o (yielded ops a.tmps) = true ∧ Stable N ∧ ∀ w, Gr W w → nq P o a w N
def newsL (ops : Array Oper) (news : List Nat) (N : Nat → NPred) : Nat → Nat → List (Option Tmp × NPred)
 | 0, _ => []
 | n + 1, k => (if news.contains k then [(dstOf ops k, N k)] else []) ++ newsL ops news N n (k + 1)
theorem newsL_congr {N N' : Nat → NPred} : ∀ (n k : Nat), (∀ i, k ≤ i → N i = N' i) → newsL ops news N n k = newsL ops news N' n k
 | 0, _, _ => rfl
 | n + 1, k, h => by
  simp only [newsL, h k (Nat.le_refl _), newsL_congr n (k + 1) (fun i hi => h i (by omega))]
theorem walk1_ext {Q : Act → List (Option Tmp × NPred) → Prop} : ∀ (l : List Oper) (k : Nat) (a : Act) (L : List (Option Tmp × NPred)), (∀ j, j < l.length → l[j]? = ops[k + j]?) → Walk1 P ops W late news Q l k a L →
  ∃ (A : Nat → Act) (v : Nat → Value) (N : Nat → NPred), A k = a ∧
   (∀ i, k ≤ i → i < k + l.length → (news.contains i = true → A (i + 1) = A i ∧ NewOK P ops W i (A i) (N i)) ∧ (news.contains i = false → A (i + 1) = (A i).put (dstOf ops i) (v i) ∧ FixOK P ops W late i (A i) (v i))) ∧
   Q (A (k + l.length)) (L ++ newsL ops news N l.length k)
 | [], k, a, L, _, h => ⟨fun _ => a, fun _ => undef, fun _ _ _ _ _ => True, rfl, fun i h1 h2 => by simp at h2; omega, by simpa [newsL, Walk1] using h⟩
 | o :: r, k, a, L, hl, h => by
  have ho : ops[k]? = some o := by simpa using (hl 0 (by simp)).symm
  have hl' : ∀ j, j < r.length → r[j]? = ops[k + 1 + j]? := fun j hj => by
   have := hl (j + 1) (by simpa using hj)
   simpa [Nat.add_assoc, Nat.add_comm 1 j] using this
  have hd : dstOf ops k = o.dst := by simp [dstOf, ho]
  have hlen : k + (o :: r).length = k + 1 + r.length := by simp; omega
  -- what is joined
  have join : ∀ (a1 : Act) (L1 : List (Option Tmp × NPred)) (v0 : Value) (N0 : NPred), Walk1 P ops W late news Q r (k + 1) a1 L1 →
    ((news.contains k = true → a1 = a ∧ NewOK P ops W k a N0) ∧ (news.contains k = false → a1 = a.put (dstOf ops k) v0 ∧ FixOK P ops W late k a v0)) →
    (L1 = L ++ (if news.contains k then [(dstOf ops k, N0)] else [])) → ∃ (A : Nat → Act) (v : Nat → Value) (N : Nat → NPred), A k = a ∧
   (∀ i, k ≤ i → i < k + (o :: r).length → (news.contains i = true → A (i + 1) = A i ∧ NewOK P ops W i (A i) (N i)) ∧ (news.contains i = false → A (i + 1) = (A i).put (dstOf ops i) (v i) ∧ FixOK P ops W late i (A i) (v i))) ∧
   Q (A (k + (o :: r).length)) (L ++ newsL ops news N (o :: r).length k) := by
   intro a1 L1 v0 N0 hw hk hL
   obtain ⟨A, v, N, hA, hstep, hQ⟩ := walk1_ext r (k + 1) a1 L1 hl' hw
   refine ⟨fun i => if i = k then a else A i, fun i => if i = k then v0 else v i, fun i => if i = k then N0 else N i, by simp, ?_, ?_⟩
   ·intro i h1 h2
    by_cases hik : i = k
    ·subst hik
     simp only [if_true, show ¬ i + 1 = i from by omega, if_false, hA]
     exact hk
    ·have := hstep i (by omega) (by omega)
     simp only [hik, if_false, show ¬ i + 1 = k from by omega]
     exact this
   ·have e1 : ¬ k + (o :: r).length = k := by simp
    show Q (if k + (o :: r).length = k then a else A (k + (o :: r).length)) _
    rw [if_neg e1, hlen]
    rw [hL] at hQ
    simp only [List.length_cons, newsL, if_true]
    rw [newsL_congr (N' := N) r.length (k + 1) (fun i hi => by simp [show ¬ i = k from by omega])]
    simpa [List.append_assoc] using hQ
  unfold Walk1 at h
  by_cases hn : news.contains k = true
  ·rw [if_pos hn] at h
   obtain ⟨hw, N0, hs, hq, hr⟩ := h
   exact join a _ undef N0 hr ⟨fun _ => ⟨rfl, o, ho, hw, hs, hq⟩, fun e => (by rw [hn] at e; cases e)⟩ (by rw [if_pos hn, hd])
  ·have hnf : news.contains k = false := by simpa using hn
   rw [if_neg hn] at h
   by_cases hw : Region.wanted o (yielded ops a.tmps) = true
   ·rw [if_pos hw] at h
    obtain ⟨v0, hq, hr⟩ := h
    exact join _ L v0 (fun _ _ _ _ => True) hr ⟨fun e => (by rw [hnf] at e; cases e), fun _ => ⟨by rw [hd], o, ho, .inl ⟨hw, hq⟩⟩⟩ (by rw [if_neg hn]; simp)
   ·rw [if_neg hw] at h
    exact join _ L undef (fun _ _ _ _ => True) h ⟨fun e => (by rw [hnf] at e; cases e), fun _ => ⟨by rw [hd], o, ho, .inr ⟨by simpa using hw, rfl⟩⟩⟩ (by rw [if_neg hn]; simp)
/-! ### Frames that agree where an operation looks -/
theorem put_size (a : Act) (d : Option Tmp) (v : Value) : (a.put d v).tmps.size = a.tmps.size := by cases d <;> simp [Act.put]
theorem put_defers (a : Act) (d : Option Tmp) (v : Value) : (a.put d v).defers = a.defers := by cases d <;> rfl
theorem put_get (a : Act) (d : Option Tmp) (v : Value) (t : Nat) (ht : t < a.tmps.size) : (a.put d v).tmps[t]? = if d = some t then some v else a.tmps[t]? := by
 cases d with
 | none => simp [Act.put]
 | some d =>
  by_cases h : d = t
  ·subst h; simp [Act.put, ht]
  ·simp [Act.put, Array.getElem?_setIfInBounds_ne h, h]
theorem look_same {o : Oper} {a a' : Act} (hs : ∀ cs b, o.op ≠ .select cs b) (h : ∀ t ∈ o.looksAt ops, a.tmps[t]? = a'.tmps[t]?) :
  execOp a.eval o = execOp a'.eval o ∧ Region.wanted o (yielded ops a.tmps) = Region.wanted o (yielded ops a'.tmps) := by
 constructor
 ·refine execOp_congr o hs fun x hx => ?_
  cases x with
  | tmp t =>
   have := h t (List.mem_append_left _ (List.mem_filterMap.2 ⟨.tmp t, by simpa using hx, rfl⟩))
   simp only [Act.eval, Array.getD_eq_getD_getElem?, this]
  | _ => rfl
 ·unfold Region.wanted
  cases hg : o.guard with
  | none => rfl
  | some gw =>
   obtain ⟨g, want⟩ := gw
   have hy : yielded ops a.tmps g = yielded ops a'.tmps g := by
    unfold yielded
    cases ht : (ops[g]?).bind (·.dst) with
    | none => rfl
    | some t =>
     have := h t (by simp [Oper.looksAt, hg, ht])
     simp [this]
   simp only [hy]
theorem gq_wp {o : Oper} {a a' : Act} {w : World} {v : Value} {lt : Bool} {K : Act → World → Prop} {Q : Exit → Act → World → Prop} (he : execOp a.eval o = execOp a'.eval o) (h : gq P o a' w v lt) (hk : ∀ w', Gr w w' → K (a.put o.dst v) w') : o.wp P a w K Q := by
 unfold Oper.wp
 unfold gq at h
 rw [he]
 generalize (execOp a'.eval o).run P w = r at *
 cases r with
 | ok n w' =>
  cases n <;> simp only [Oper.upon] at h ⊢
  case value u => obtain ⟨rfl, rfl⟩ := h; exact hk _ (Gr.refl _)
  case skip => obtain ⟨rfl, rfl⟩ := h; exact hk _ (Gr.refl _)
  case enter f args =>
   obtain ⟨rfl, _, hc⟩ := h
   exact hc.mono fun e w'' ⟨he, hw''⟩ => by subst he; exact hk _ hw''
 | halt x w' => exact h.elim
theorem gq_late {o : Oper} {a a' : Act} {w : World} {v : Value} {K : Act → World → Prop} {Q : Exit → Act → World → Prop} (he : execOp a.eval o = execOp a'.eval o) (h : gq P o a' w v true) (hk : K (a.put o.dst v) w) : o.wp P a w K Q := by
 unfold Oper.wp
 unfold gq at h
 rw [he]
 generalize (execOp a'.eval o).run P w = r at *
 cases r with
 | ok n w' =>
  cases n <;> simp only [Oper.upon] at h ⊢
  case value u => obtain ⟨rfl, rfl⟩ := h; exact hk
  case skip => obtain ⟨rfl, rfl⟩ := h; exact hk
  case enter f args => exact absurd h.2.1 (by simp)
 | halt x w' => exact h.elim
theorem nq_wp {o : Oper} {a a' : Act} {w : World} {N : NPred} {K : Act → World → Prop} {Q : Exit → Act → World → Prop} (he : execOp a.eval o = execOp a'.eval o) (h : nq P o a' w N)
  (hk : ∀ v w', Gr w w' → N w.heap.size w'.heap.size v w' → K (a.put o.dst v) w') : o.wp P a w K Q := by
 unfold Oper.wp
 unfold nq at h
 rw [he]
 generalize (execOp a'.eval o).run P w = r at *
 cases r with
 | ok n w' =>
  cases n <;> simp only [Oper.upon] at h ⊢
  case value u => exact hk _ _ h.1 h.2
  case enter f args =>
   obtain ⟨rfl, hc⟩ := h
   exact hc.mono fun e w'' ⟨v, he, hg, hn⟩ => by subst he; exact hk _ _ hg hn
 | halt x w' => exact h.elim
theorem tq_wp {o : Oper} {a a' : Act} {w : World} {K K' : Act → World → Prop} {Q : Exit → Act → World → Prop} (he : execOp a.eval o = execOp a'.eval o) (h : tq P o a' w K')
  (hk : ∀ v w', K' (a'.put o.dst v) w' → K (a.put o.dst v) w') : o.wp P a w K Q := by
 unfold Oper.wp
 unfold tq at h
 rw [he]
 generalize (execOp a'.eval o).run P w = r at *
 cases r with
 | ok n w' =>
  cases n <;> simp only [Oper.upon] at h ⊢
  case value u => exact hk _ _ h
  case skip => exact hk _ _ h
  case enter f args => exact h.mono fun e w'' ⟨v, he, hn⟩ => by subst he; exact hk _ _ hn
 | halt x w' => exact h.elim
/-! ### The invariants -/
theorem uniq (hch : chk1 ops B = true) {i j : Nat} {t : Tmp} (hi : dstOf ops i = some t) (hj : dstOf ops j = some t) : i = j := by
 have lt : ∀ k, dstOf ops k = some t → ∃ o, ops[k]? = some o ∧ o.dst = some t ∧ k < ops.size := by
  intro k hk
  unfold dstOf at hk
  cases ho : ops[k]? with
  | none => rw [ho] at hk; cases hk
  | some o => rw [ho] at hk; exact ⟨o, rfl, hk, (Array.getElem?_eq_some_iff.1 ho).1⟩
 obtain ⟨o, ho, hd, _⟩ := lt i hi
 obtain ⟨_, _, _, hlt⟩ := lt j hj
 rcases ((chk_pair hch ho hlt).2 t hj).1 with h | h
 ·exact h
 ·exact absurd hd h
theorem dst_lt {j : Nat} {t : Tmp} (hj : dstOf ops j = some t) : j < ops.size := by
 unfold dstOf at hj
 cases ho : ops[j]? with
 | none => rw [ho] at hj; cases hj
 | some o => exact (Array.getElem?_eq_some_iff.1 ho).1
theorem lst_set {listed : Array Bool} {i j : Nat} (hi : i < listed.size) : lst (listed.setIfInBounds i true) j = if i = j then true else lst listed j := by
 unfold lst
 by_cases h : i = j
 ·subst h; simp [hi]
 ·simp [Array.getElem?_setIfInBounds_ne h, h]
theorem closed_set {listed : Array Bool} {i : Nat} {o : Oper} (hi : i < listed.size) (ho : ops[i]? = some o) (hc : Closed ops listed) (hr : ∀ e ∈ o.after, Region.binds .any e = true → lst listed e.on = true) : Closed ops (listed.setIfInBounds i true) := by
 intro k ok hok hl e he hb
 rw [lst_set hi] at hl ⊢
 split
 ·rfl
 ·by_cases hk : i = k
  ·subst hk
   rw [ho] at hok
   cases hok
   exact hr e he hb
  ·rw [if_neg hk] at hl
   exact hc k ok hok hl e he hb
theorem acts_reg (hch : chk1 ops B = true) {A : Nat → Act} {v : Nat → Value} (hstep : ∀ i, i < m → (news.contains i = true → A (i + 1) = A i) ∧ (news.contains i = false → A (i + 1) = (A i).put (dstOf ops i) (v i))) :
  ∀ i, i ≤ m → (A i).defers = (A 0).defers ∧ (A i).tmps.size = (A 0).tmps.size ∧ ∀ t, t < (A 0).tmps.size →
   (∀ j, j < i → news.contains j = false → dstOf ops j = some t → (A i).tmps[t]? = some (v j)) ∧ ((∀ j, j < i → news.contains j = false → dstOf ops j ≠ some t) → (A i).tmps[t]? = (A 0).tmps[t]?) := by
 intro i
 induction i with
 | zero => intro _; exact ⟨rfl, rfl, fun t ht => ⟨fun j hj => by omega, fun _ => rfl⟩⟩
 | succ i ih =>
  intro hi
  obtain ⟨h1, h2, h3⟩ := ih (by omega)
  by_cases hn : news.contains i = true
  ·rw [(hstep i (by omega)).1 hn]
   refine ⟨h1, h2, fun t ht => ⟨fun j hj hnj hd => (h3 t ht).1 j ?_ hnj hd, fun h => (h3 t ht).2 fun j hj => h j (by omega)⟩⟩
   rcases Nat.lt_or_ge j i with h | h
   ·exact h
   ·obtain rfl : j = i := by omega
    rw [hn] at hnj; cases hnj
  ·have hnf : news.contains i = false := by simpa using hn
   rw [(hstep i (by omega)).2 hnf]
   refine ⟨by rw [put_defers, h1], by rw [put_size, h2], fun t ht => ?_⟩
   rw [put_get _ _ _ _ (by rw [h2]; exact ht)]
   refine ⟨fun j hj hnj hd => ?_, fun h => ?_⟩
   ·by_cases hji : j = i
    ·subst hji; rw [if_pos hd]
    ·rw [if_neg (fun e => hji (uniq hch hd e)), (h3 t ht).1 j (by omega) hnj hd]
   ·rw [if_neg (h i (by omega) hnf), (h3 t ht).2 fun j hj => h j (by omega)]
structure Inv1 (ops : Array Oper) (W : World) (m : Nat) (news : List Nat) (a0 : Act) (v : Nat → Value) (N : Nat → NPred) (listed : Array Bool) (a : Act) (w : World) : Prop where
 size : listed.size = ops.size
 closed : Closed ops listed
 later : ∀ i, m ≤ i → lst listed i = false
 gr : Gr W w
 dfs : a.defers = a0.defers
 sz : a.tmps.size = a0.tmps.size
 regs : ∃ (nv : Nat → Value) (lo hi : Nat → Nat),
  (∀ t, t < a0.tmps.size → ∀ j, dstOf ops j = some t → lst listed j = true → a.tmps[t]? = some (if news.contains j then nv j else v j)) ∧
  (∀ t, t < a0.tmps.size → (∀ j, dstOf ops j = some t → lst listed j = false) → a.tmps[t]? = a0.tmps[t]?) ∧
  (∀ j, news.contains j = true → lst listed j = true → N j (lo j) (hi j) (nv j) w ∧ W.heap.size ≤ lo j ∧ lo j ≤ hi j ∧ hi j ≤ w.heap.size) ∧
  (∀ i j, i ≠ j → news.contains i = true → news.contains j = true → lst listed i = true → lst listed j = true → hi i ≤ lo j ∨ hi j ≤ lo i)
section
variable {a0 : Act} {v : Nat → Value} {N : Nat → NPred} {listed : Array Bool} {a : Act} {w w' : World}
theorem look1 (hch : chk1 ops B = true) (hc2 : chk2 ops B m late news = true) {A : Nat → Act} (hA0 : A 0 = a0)
  (hstep : ∀ i, i < m → (news.contains i = true → A (i + 1) = A i) ∧ (news.contains i = false → A (i + 1) = (A i).put (dstOf ops i) (v i)))
  (inv : Inv1 ops W m news a0 v N listed a w) {i : Nat} {o : Oper} (hi : i < m) (ho : ops[i]? = some o) (hr : ∀ e ∈ o.after, Region.binds .any e = true → lst listed e.on = true) (hun : lst listed i = false) :
  ∀ t ∈ o.looksAt ops, a.tmps[t]? = (A i).tmps[t]? := by
 intro t ht
 obtain ⟨h1, h2, h3⟩ := acts_reg hch hstep i (Nat.le_of_lt hi)
 rw [hA0] at h1 h2 h3
 rcases Nat.lt_or_ge t a0.tmps.size with hlt | hge
 ·obtain ⟨nv, lo, hi', r1, r2, _, _⟩ := inv.regs
  have hnl : ∀ j, dstOf ops j = some t → news.contains j = false := by
   intro j hj
   simp only [chk2, Bool.and_eq_true] at hc2
   have h5 := List.all_eq_true.1 hc2.2 i (List.mem_range.2 hi)
   simp only [ho] at h5
   cases hnj : news.contains j
   ·rfl
   ·have h6 := List.all_eq_true.1 h5 j (by simpa using hnj)
    rw [hj] at h6
    simp at h6
    exact absurd ht h6
  by_cases hex : ∃ j, dstOf ops j = some t
  ·obtain ⟨j, hj⟩ := hex
   rcases ((chk_pair hch ho (dst_lt hj)).2 t hj).2 ht with ⟨hji, hb⟩ | ⟨hij, hb⟩
   ·have hl := listed_of_bef hch inv.closed i o ho hr j hb (dst_lt hj)
    rw [r1 t hlt j hj hl, (h3 t hlt).1 j hji (hnl j hj) hj, hnl j hj]; rfl
   ·have hl : lst listed j = false := by
     cases hlj : lst listed j
     ·rfl
     ·obtain ⟨oj, hoj⟩ : ∃ oj, ops[j]? = some oj := ⟨ops[j]'(dst_lt hj), Array.getElem?_eq_getElem _⟩
      have := listed_of_bef hch inv.closed j oj hoj (fun e he hbb => inv.closed j oj hoj hlj e he hbb) i hb (Array.getElem?_eq_some_iff.1 ho).1
      rw [hun] at this; cases this
    rw [r2 t hlt (fun j' hj' => by rw [uniq hch hj' hj]; exact hl), (h3 t hlt).2 (fun j' hj' _ hd => by rw [uniq hch hd hj] at hj'; omega)]
  ·rw [r2 t hlt (fun j hj => absurd ⟨j, hj⟩ hex), (h3 t hlt).2 (fun j _ _ hd => hex ⟨j, hd⟩)]
 ·rw [Array.getElem?_eq_none (by rw [inv.sz]; exact hge), Array.getElem?_eq_none (by rw [h2]; exact hge)]
theorem inv1_fix (hch : chk1 ops B = true) (hst : ∀ j, news.contains j = true → Stable (N j)) (inv : Inv1 ops W m news a0 v N listed a w) {i : Nat} {o : Oper} (hi : i < m) (ho : ops[i]? = some o)
  (hr : ∀ e ∈ o.after, Region.binds .any e = true → lst listed e.on = true) (hn : news.contains i = false) (hg : Gr w w') :
  Inv1 ops W m news a0 v N (listed.setIfInBounds i true) (a.put o.dst (v i)) w' := by
 have hin : i < listed.size := by rw [inv.size]; exact (Array.getElem?_eq_some_iff.1 ho).1
 have hd : dstOf ops i = o.dst := by simp [dstOf, ho]
 obtain ⟨nv, lo, hi', r1, r2, r3, r4⟩ := inv.regs
 have notnew : ∀ j, news.contains j = true → j ≠ i := fun j hj e => by rw [e, hn] at hj; cases hj
 refine ⟨by simp [inv.size], closed_set hin ho inv.closed hr, fun k hk => ?_, inv.gr.trans hg, by rw [put_defers, inv.dfs], by rw [put_size, inv.sz], nv, lo, hi', ?_, ?_, ?_, ?_⟩
 ·rw [lst_set hin, if_neg (by omega)]; exact inv.later k hk
 ·intro t ht j hj hl
  rw [put_get _ _ _ _ (by rw [inv.sz]; exact ht)]
  rw [lst_set hin] at hl
  by_cases hij : i = j
  ·subst hij; rw [if_pos (by rw [← hd]; exact hj), hn]; rfl
  ·rw [if_neg (fun e => hij (uniq hch (by rw [hd]; exact e) hj)), r1 t ht j hj (by rw [if_neg hij] at hl; exact hl)]
 ·intro t ht hall
  rw [put_get _ _ _ _ (by rw [inv.sz]; exact ht), if_neg (fun e => by have := hall i (by rw [hd]; exact e); rw [lst_set hin] at this; simp at this)]
  exact r2 t ht fun j hj => by
   have := hall j hj
   rw [lst_set hin] at this
   split at this
   ·cases this
   ·exact this
 ·intro j hj hl
  rw [lst_set hin, if_neg (Ne.symm (notnew j hj))] at hl
  obtain ⟨q1, q2, q3, q4⟩ := r3 j hj hl
  exact ⟨hst j hj _ _ _ _ _ q1 hg, q2, q3, Nat.le_trans q4 hg.size⟩
 ·intro k j hkj hk hj hlk hlj
  rw [lst_set hin, if_neg (Ne.symm (notnew k hk))] at hlk
  rw [lst_set hin, if_neg (Ne.symm (notnew j hj))] at hlj
  exact r4 k j hkj hk hj hlk hlj
theorem inv1_new (hch : chk1 ops B = true) (hst : ∀ j, news.contains j = true → Stable (N j)) (inv : Inv1 ops W m news a0 v N listed a w) {i : Nat} {o : Oper} (hi : i < m) (ho : ops[i]? = some o)
  (hr : ∀ e ∈ o.after, Region.binds .any e = true → lst listed e.on = true) (hun : lst listed i = false) (hn : news.contains i = true) (hg : Gr w w') {x : Value} (hN : N i w.heap.size w'.heap.size x w') :
  Inv1 ops W m news a0 v N (listed.setIfInBounds i true) (a.put o.dst x) w' := by
 have hin : i < listed.size := by rw [inv.size]; exact (Array.getElem?_eq_some_iff.1 ho).1
 have hd : dstOf ops i = o.dst := by simp [dstOf, ho]
 obtain ⟨nv, lo, hi', r1, r2, r3, r4⟩ := inv.regs
 refine ⟨by simp [inv.size], closed_set hin ho inv.closed hr, fun k hk => ?_, inv.gr.trans hg, by rw [put_defers, inv.dfs], by rw [put_size, inv.sz],
  fun j => if j = i then x else nv j, fun j => if j = i then w.heap.size else lo j, fun j => if j = i then w'.heap.size else hi' j, ?_, ?_, ?_, ?_⟩
 ·rw [lst_set hin, if_neg (by omega)]; exact inv.later k hk
 ·intro t ht j hj hl
  rw [put_get _ _ _ _ (by rw [inv.sz]; exact ht)]
  rw [lst_set hin] at hl
  by_cases hij : i = j
  ·subst hij; rw [if_pos (by rw [← hd]; exact hj), hn]; simp
  ·rw [if_neg (fun e => hij (uniq hch (by rw [hd]; exact e) hj)), r1 t ht j hj (by rw [if_neg hij] at hl; exact hl)]
   simp [Ne.symm hij]
 ·intro t ht hall
  rw [put_get _ _ _ _ (by rw [inv.sz]; exact ht), if_neg (fun e => by have := hall i (by rw [hd]; exact e); rw [lst_set hin] at this; simp at this)]
  exact r2 t ht fun j hj => by
   have := hall j hj
   rw [lst_set hin] at this
   split at this
   ·cases this
   ·exact this
 ·intro j hj hl
  by_cases hji : j = i
  ·subst hji
   simp only [if_true]
   exact ⟨hN, inv.gr.size, hg.size, Nat.le_refl _⟩
  ·rw [lst_set hin, if_neg (Ne.symm hji)] at hl
   obtain ⟨q1, q2, q3, q4⟩ := r3 j hj hl
   simp only [hji, if_false]
   exact ⟨hst j hj _ _ _ _ _ q1 hg, q2, q3, Nat.le_trans q4 hg.size⟩
 ·intro k j hkj hk hj hlk hlj
  rw [lst_set hin] at hlk hlj
  by_cases hki : k = i
  ·subst hki
   have hjk : ¬ j = k := fun e => hkj e.symm
   rw [if_neg hkj] at hlj
   simp only [if_true, hjk, if_false]
   exact .inr (r3 j hj hlj).2.2.2
  ·rw [if_neg (Ne.symm hki)] at hlk
   by_cases hji : j = i
   ·subst hji
    simp only [if_true, hki, if_false]
    exact .inl (r3 k hk hlk).2.2.2
   ·rw [if_neg (Ne.symm hji)] at hlj
    simp only [hki, hji, if_false]
    exact r4 k j hkj hk hj hlk hlj
/-! ### Behind the head -/
def putNews (ops : Array Oper) (news : List Nat) (nv : Nat → Value) : Nat → Nat → Act → Act
 | 0, _, a => a
 | n + 1, k, a => putNews ops news nv n (k + 1) (if news.contains k then a.put (dstOf ops k) (nv k) else a)
theorem endN_inst {nv : Nat → Value} {lo hi : Nat → Nat} {K : Act → Prop} (hpw : ∀ i j, i ≠ j → news.contains i = true → news.contains j = true → hi i ≤ lo j ∨ hi j ≤ lo i) : ∀ (n k : Nat) (prev : List (Nat × Nat)) (a : Act),
  (∀ j, k ≤ j → j < k + n → news.contains j = true → N j (lo j) (hi j) (nv j) w ∧ W.heap.size ≤ lo j ∧ lo j ≤ hi j ∧ hi j ≤ w.heap.size) →
  (∀ j, k ≤ j → j < k + n → news.contains j = true → ∀ p ∈ prev, p.2 ≤ lo j ∨ hi j ≤ p.1) → EndN W w K (newsL ops news N n k) prev a → K (putNews ops news nv n k a)
 | 0, k, prev, a, _, _, h => h
 | n + 1, k, prev, a, hf, hp, h => by
  unfold putNews
  unfold newsL at h
  by_cases hk : news.contains k = true
  ·rw [if_pos hk] at h ⊢
   simp only [List.singleton_append, EndN] at h
   obtain ⟨q1, q2, q3, q4⟩ := hf k (Nat.le_refl _) (by omega) hk
   refine endN_inst hpw n (k + 1) _ _ (fun j h1 h2 => hf j (by omega) (by omega)) (fun j h1 h2 hj p hpm => ?_) (h (lo k) (hi k) (nv k) q1 q2 q3 q4 (hp k (Nat.le_refl _) (by omega) hk))
   rcases List.mem_cons.1 hpm with rfl | hpm
   ·exact hpw k j (by omega) hk hj
   ·exact hp j (by omega) (by omega) hj p hpm
  ·rw [if_neg hk] at h ⊢
   exact endN_inst hpw n (k + 1) prev a (fun j h1 h2 => hf j (by omega) (by omega)) (fun j h1 h2 => hp j (by omega) (by omega)) (by simpa using h)
theorem putNews_reg (hch : chk1 ops B = true) {nv : Nat → Value} : ∀ (n k : Nat) (a : Act), (putNews ops news nv n k a).defers = a.defers ∧ (putNews ops news nv n k a).tmps.size = a.tmps.size ∧ ∀ t, t < a.tmps.size →
  (∀ j, k ≤ j → j < k + n → news.contains j = true → dstOf ops j = some t → (putNews ops news nv n k a).tmps[t]? = some (nv j)) ∧
  ((∀ j, k ≤ j → j < k + n → news.contains j = true → dstOf ops j ≠ some t) → (putNews ops news nv n k a).tmps[t]? = a.tmps[t]?)
 | 0, k, a => ⟨rfl, rfl, fun t ht => ⟨fun j h1 h2 => by omega, fun _ => rfl⟩⟩
 | n + 1, k, a => by
  unfold putNews
  obtain ⟨h1, h2, h3⟩ := putNews_reg hch (nv := nv) n (k + 1) (if news.contains k then a.put (dstOf ops k) (nv k) else a)
  by_cases hk : news.contains k = true
  ·rw [if_pos hk] at h1 h2 h3 ⊢
   rw [put_defers] at h1
   rw [put_size] at h2
   refine ⟨h1, h2, fun t ht => ?_⟩
   obtain ⟨h4, h5⟩ := h3 t (by rw [put_size]; exact ht)
   rw [put_get _ _ _ _ ht] at h5
   refine ⟨fun j hj1 hj2 hj hd => ?_, fun hall => ?_⟩
   ·by_cases hjk : j = k
    ·subst hjk
     rw [h5 (fun j' h6 _ _ hd' => by have := uniq hch hd' hd; omega), if_pos hd]
    ·exact h4 j (by omega) (by omega) hj hd
   ·rw [h5 (fun j' h6 h7 h8 => hall j' (by omega) (by omega) h8), if_neg (hall k (Nat.le_refl _) (by omega) hk)]
  ·rw [if_neg hk] at h1 h2 h3 ⊢
   refine ⟨h1, h2, fun t ht => ?_⟩
   obtain ⟨h4, h5⟩ := h3 t ht
   refine ⟨fun j hj1 hj2 hj hd => h4 j ?_ (by omega) hj hd, fun hall => h5 fun j' h6 h7 h8 => hall j' (by omega) (by omega) h8⟩
   rcases Nat.lt_or_ge k j with h | h
   ·exact h
   ·obtain rfl : j = k := by omega
    exact absurd hj hk
structure Inv2 (P : Program) (ops : Array Oper) (Q' : Act → World → Prop) (m : Nat) (late news : List Nat) (a0 : Act) (v : Nat → Value) (p : Nat) (listed : Array Bool) (a : Act) (w : World) : Prop where
 size : listed.size = ops.size
 closed : Closed ops listed
 mp : m ≤ p
 pn : p ≤ ops.size
 done : ∀ i, m ≤ i → i < p → lst listed i = true
 todo : ∀ i, p ≤ i → lst listed i = false
 head : ∀ j, j < m → late.contains j = false → lst listed j = true
 dfs : a.defers = a0.defers
 sz : a.tmps.size = a0.tmps.size
 ideal : ∃ A : Act, Walk2 P ops Q' (ops.toList.drop p) A w ∧ A.defers = a0.defers ∧ A.tmps.size = a0.tmps.size ∧ ∀ t, t < a0.tmps.size →
  (∀ j, j < m → late.contains j = true → lst listed j = false → dstOf ops j = some t → a.tmps[t]? = a0.tmps[t]?) ∧
  ((∀ j, j < m → late.contains j = true → lst listed j = false → dstOf ops j ≠ some t) → a.tmps[t]? = A.tmps[t]?) ∧
  (∀ j, j < m → news.contains j = false → dstOf ops j = some t → A.tmps[t]? = some (v j)) ∧
  ((∀ j, j < p → dstOf ops j ≠ some t) → A.tmps[t]? = a0.tmps[t]?)
variable {Q' : Act → World → Prop}
theorem inv2_start (hch : chk1 ops B = true) (hc2 : chk2 ops B m late news = true) {A : Nat → Act} (hA0 : A 0 = a0)
  (hstep : ∀ i, i < m → (news.contains i = true → A (i + 1) = A i) ∧ (news.contains i = false → A (i + 1) = (A i).put (dstOf ops i) (v i)))
  (inv : Inv1 ops W m news a0 v N listed a w) (hall : ∀ j, j < m → late.contains j = false → lst listed j = true)
  (H : EndN W w (fun a' => Walk2 P ops Q' (ops.toList.drop m) a' w) (newsL ops news N m 0) [] (A m)) : Inv2 P ops Q' m late news a0 v m listed a w := by
 simp only [chk2, Bool.and_eq_true, decide_eq_true_eq] at hc2
 obtain ⟨⟨⟨⟨⟨hmn, hnews⟩, hlate⟩, _⟩, _⟩, _⟩ := hc2
 have hnm : ∀ j, news.contains j = true → j < m := fun j hj => by
  have := List.all_eq_true.1 hnews j (by simpa using hj); simpa using this
 have hln : ∀ j, late.contains j = true → news.contains j = false := fun j hj => by
  have := List.all_eq_true.1 hlate j (by simpa using hj)
  simp only [Bool.and_eq_true, Bool.not_eq_true'] at this
  exact this.2
 have hnl : ∀ j, news.contains j = true → lst listed j = true := fun j hj => by
  refine hall j (hnm j hj) ?_
  cases h : late.contains j
  ·rfl
  ·rw [hln j h] at hj; cases hj
 obtain ⟨nv, lo, hi', r1, r2, r3, r4⟩ := inv.regs
 have hk := endN_inst (nv := nv) (lo := lo) (hi := hi') (fun i j hij hi hj => r4 i j hij hi hj (hnl i hi) (hnl j hj)) m 0 [] (A m) (fun j _ _ hj => r3 j hj (hnl j hj)) (fun _ _ _ _ p hp => by cases hp) H
 obtain ⟨g1, g2, g3⟩ := acts_reg hch hstep m (Nat.le_refl _)
 rw [hA0] at g1 g2 g3
 obtain ⟨f1, f2, f3⟩ := putNews_reg hch (news := news) (nv := nv) m 0 (A m)
 refine ⟨inv.size, inv.closed, Nat.le_refl _, hmn, fun i h1 h2 => by omega, inv.later, hall, inv.dfs, inv.sz, putNews ops news nv m 0 (A m), hk, by rw [f1, g1], by rw [f2, g2], fun t ht => ?_⟩
 obtain ⟨f4, f5⟩ := f3 t (by rw [g2]; exact ht)
 obtain ⟨g4, g5⟩ := g3 t ht
 have hfix : ∀ j, j < m → news.contains j = false → dstOf ops j = some t → (putNews ops news nv m 0 (A m)).tmps[t]? = some (v j) := fun j hj hnj hd => by
  rw [f5 (fun j' _ _ hn' hd' => by have := uniq hch hd' hd; rw [this, hnj] at hn'; cases hn'), g4 j hj hnj hd]
 have hnone : (∀ j, j < m → dstOf ops j ≠ some t) → (putNews ops news nv m 0 (A m)).tmps[t]? = a0.tmps[t]? := fun hno => by
  rw [f5 (fun j' _ h2 _ => hno j' (by omega)), g5 fun j hj _ => hno j hj]
 refine ⟨fun j hj hl hun hd => ?_, fun hno => ?_, hfix, hnone⟩
 ·exact r2 t ht fun j' hj' => by rw [uniq hch hj' hd]; exact hun
 ·by_cases hex : ∃ j, j < m ∧ dstOf ops j = some t
  ·obtain ⟨j, hj, hd⟩ := hex
   have hl : lst listed j = true := by
    cases h : late.contains j
    ·exact hall j hj h
    ·cases h2 : lst listed j
     ·exact absurd hd (hno j hj h h2)
     ·rfl
   rw [r1 t ht j hd hl]
   cases hnj : news.contains j
   ·rw [hfix j hj hnj hd]; rfl
   ·rw [f4 j (by omega) (by omega) hnj hd]; rfl
  ·rw [hnone (fun j hj hd => hex ⟨j, hj, hd⟩)]
   refine r2 t ht fun j hd => ?_
   exact inv.later j (by
    rcases Nat.lt_or_ge j m with h | h
    ·exact absurd ⟨j, h, hd⟩ hex
    ·exact h)
theorem inv2_late (hch : chk1 ops B = true) (hc2 : chk2 ops B m late news = true) {p : Nat} (inv : Inv2 P ops Q' m late news a0 v p listed a w) {i : Nat} {o : Oper} (hi : i < m) (hl : late.contains i = true) (ho : ops[i]? = some o)
  (hr : ∀ e ∈ o.after, Region.binds .any e = true → lst listed e.on = true) : Inv2 P ops Q' m late news a0 v p (listed.setIfInBounds i true) (a.put o.dst (v i)) w := by
 have hin : i < listed.size := by rw [inv.size]; exact (Array.getElem?_eq_some_iff.1 ho).1
 have hd : dstOf ops i = o.dst := by simp [dstOf, ho]
 simp only [chk2, Bool.and_eq_true, decide_eq_true_eq] at hc2
 have hln : news.contains i = false := by
  have := List.all_eq_true.1 hc2.1.1.1.2 i (by simpa using hl)
  simp only [Bool.and_eq_true, Bool.not_eq_true'] at this
  exact this.2
 obtain ⟨A, h1, h2, h3, h4⟩ := inv.ideal
 have up : ∀ j, lst listed j = true → lst (listed.setIfInBounds i true) j = true := fun j h => by rw [lst_set hin]; split <;> simp [h]
 refine ⟨by simp [inv.size], closed_set hin ho inv.closed hr, inv.mp, inv.pn, fun k hk1 hk2 => up k (inv.done k hk1 hk2), fun k hk => ?_, fun j hj1 hj2 => up j (inv.head j hj1 hj2), by rw [put_defers, inv.dfs], by rw [put_size, inv.sz],
  A, h1, h2, h3, fun t ht => ?_⟩
 ·rw [lst_set hin, if_neg (by have := inv.mp; omega)]; exact inv.todo k hk
 ·obtain ⟨c1, c2, c3, c4⟩ := h4 t ht
  rw [put_get _ _ _ _ (by rw [inv.sz]; exact ht)]
  refine ⟨fun j hj hlj hun hdj => ?_, fun hno => ?_, c3, c4⟩
  ·rw [lst_set hin] at hun
   by_cases hij : i = j
   ·subst hij; simp at hun
   ·rw [if_neg hij] at hun
    rw [if_neg (fun e => hij (uniq hch (by rw [hd]; exact e) hdj))]
    exact c1 j hj hlj hun hdj
  ·by_cases hdi : o.dst = some t
   ·rw [if_pos hdi, c3 i hi hln (by rw [hd]; exact hdi)]
   ·rw [if_neg hdi]
    refine c2 fun j hj hlj hun hdj => ?_
    by_cases hij : i = j
    ·subst hij; exact hdi (by rw [← hd]; exact hdj)
    ·exact hno j hj hlj (by rw [lst_set hin, if_neg hij]; exact hun) hdj
theorem inv2_next (hch : chk1 ops B = true) {p : Nat} (inv : Inv2 P ops Q' m late news a0 v p listed a w) {o : Oper} (ho : ops[p]? = some o)
  (hr : ∀ e ∈ o.after, Region.binds .any e = true → lst listed e.on = true) {A : Act} {x : Value} (hW : Walk2 P ops Q' (ops.toList.drop (p + 1)) (A.put o.dst x) w') (h2 : A.defers = a0.defers) (h3 : A.tmps.size = a0.tmps.size)
  (h4 : ∀ t, t < a0.tmps.size →
  (∀ j, j < m → late.contains j = true → lst listed j = false → dstOf ops j = some t → a.tmps[t]? = a0.tmps[t]?) ∧
  ((∀ j, j < m → late.contains j = true → lst listed j = false → dstOf ops j ≠ some t) → a.tmps[t]? = A.tmps[t]?) ∧
  (∀ j, j < m → news.contains j = false → dstOf ops j = some t → A.tmps[t]? = some (v j)) ∧
  ((∀ j, j < p → dstOf ops j ≠ some t) → A.tmps[t]? = a0.tmps[t]?)) : Inv2 P ops Q' m late news a0 v (p + 1) (listed.setIfInBounds p true) (a.put o.dst x) w' := by
 have hpn := (Array.getElem?_eq_some_iff.1 ho).1
 have hin : p < listed.size := by rw [inv.size]; exact hpn
 have hd : dstOf ops p = o.dst := by simp [dstOf, ho]
 have hmp := inv.mp
 have up : ∀ j, lst listed j = true → lst (listed.setIfInBounds p true) j = true := fun j h => by rw [lst_set hin]; split <;> simp [h]
 refine ⟨by simp [inv.size], closed_set hin ho inv.closed hr, by omega, by omega, fun k hk1 hk2 => ?_, fun k hk => ?_, fun j hj1 hj2 => up j (inv.head j hj1 hj2), by rw [put_defers, inv.dfs], by rw [put_size, inv.sz],
  A.put o.dst x, hW, by rw [put_defers, h2], by rw [put_size, h3], fun t ht => ?_⟩
 ·by_cases hkp : k = p
  ·subst hkp; rw [lst_set hin]; simp
  ·exact up k (inv.done k hk1 (by omega))
 ·rw [lst_set hin, if_neg (by omega)]; exact inv.todo k (by omega)
 ·obtain ⟨c1, c2, c3, c4⟩ := h4 t ht
  rw [put_get _ _ _ _ (by rw [inv.sz]; exact ht), put_get _ _ _ _ (by rw [h3]; exact ht)]
  refine ⟨fun j hj hlj hun hdj => ?_, fun hno => ?_, fun j hj hnj hdj => ?_, fun hno => ?_⟩
  ·rw [lst_set hin, if_neg (by omega)] at hun
   rw [if_neg (fun e => by have := uniq hch (by rw [hd]; exact e) hdj; omega)]
   exact c1 j hj hlj hun hdj
  ·split
   ·rfl
   ·exact c2 fun j hj hlj hun hdj => hno j hj hlj (by rw [lst_set hin, if_neg (by omega)]; exact hun) hdj
  ·rw [if_neg (fun e => by have := uniq hch (by rw [hd]; exact e) hdj; omega)]
   exact c3 j hj hnj hdj
  ·rw [if_neg (fun e => hno p (by omega) (by rw [hd]; exact e))]
   exact c4 fun j hj => hno j (by omega)
/-! ### All orders -/
def cnt (listed : Array Bool) : Nat → Nat
 | 0 => 0
 | k + 1 => cnt listed k + if lst listed k then 0 else 1
theorem cnt_set {i : Nat} (hi : i < listed.size) (hun : lst listed i = false) : ∀ k, cnt (listed.setIfInBounds i true) k + (if i < k then 1 else 0) = cnt listed k
 | 0 => by simp [cnt]
 | k + 1 => by
  have ih := cnt_set hi hun k
  simp only [cnt, lst_set hi]
  by_cases h : i = k
  ·subst h; simp only [if_true, hun]; simp at ih ⊢; omega
  ·rw [if_neg h]
   have e1 : (if i < k + 1 then 1 else 0) = (if i < k then 1 else 0) := by split <;> split <;> omega
   rw [e1]; omega
theorem cnt_zero : ∀ k, cnt listed k = 0 → ∀ i, i < k → lst listed i = true
 | 0, _, i, hi => by omega
 | k + 1, h, i, hi => by
  simp only [cnt] at h
  by_cases hik : i = k
  ·subst hik
   cases hl : lst listed i
   ·rw [hl] at h; simp at h
   ·rfl
  ·exact cnt_zero k (by omega) i (by omega)
theorem all_of_ready (hch : chk1 ops B = true) (hs : listed.size = ops.size) (h : Region.ready .any ops listed = []) : ∀ i, i < ops.size → lst listed i = true := by
 intro i
 induction i using Nat.strongRecOn with
 | _ i ih =>
  intro hi
  cases hl : lst listed i
  ·obtain ⟨o, ho⟩ : ∃ o, ops[i]? = some o := ⟨ops[i], Array.getElem?_eq_getElem _⟩
   have : i ∈ Region.ready .any ops listed := mem_ready.2 ⟨by
    have hsz : i < listed.size := by omega
    unfold lst at hl
    simp only [Array.getD_eq_getD_getElem?, Array.getElem?_eq_getElem hsz, Option.getD_some] at hl ⊢
    exact hl, o, ho, fun e he hb => ih e.on (chk_edge hch ho e he hb) (by have := chk_edge hch ho e he hb; omega)⟩
   rw [h] at this; cases this
  ·rfl
theorem sched_any (hch : chk1 ops B = true) (hc2 : chk2 ops B m late news = true) (hsel : Region.noSelect ops = true) {Q : Exit → Act → World → Prop} {A : Nat → Act} (hA0 : A 0 = a0)
  (hstep : ∀ i, i < m → (news.contains i = true → A (i + 1) = A i ∧ NewOK P ops W i (A i) (N i)) ∧ (news.contains i = false → A (i + 1) = (A i).put (dstOf ops i) (v i) ∧ FixOK P ops W late i (A i) (v i)))
  (hend : ∀ w', Gr W w' → EndN W w' (fun a' => Walk2 P ops (Q .normal) (ops.toList.drop m) a' w') (newsL ops news N m 0) [] (A m)) :
  ∀ (fuel : Nat) (listed : Array Bool) (a : Act) (w : World), cnt listed ops.size = fuel → (Inv1 ops W m news a0 v N listed a w ∨ ∃ p, Inv2 P ops (Q .normal) m late news a0 v p listed a w) → wpAny P .any ops Q fuel listed a w := by
 have hst1 : ∀ i, i < m → (news.contains i = true → A (i + 1) = A i) ∧ (news.contains i = false → A (i + 1) = (A i).put (dstOf ops i) (v i)) := fun i hi => ⟨fun h => ((hstep i hi).1 h).1, fun h => ((hstep i hi).2 h).1⟩
 have hc2' := hc2
 simp only [chk2, Bool.and_eq_true, decide_eq_true_eq] at hc2'
 obtain ⟨⟨⟨⟨⟨hmn, hnews⟩, hlate⟩, hcm⟩, hchain⟩, _⟩ := hc2'
 have hstable : ∀ j, news.contains j = true → Stable (N j) := fun j hj => by
  have hjm : j < m := by have := List.all_eq_true.1 hnews j (by simpa using hj); simpa using this
  obtain ⟨_, _, _, _, h, _⟩ := ((hstep j hjm).1 hj)
  exact h
 have hchain' : ∀ i, i < ops.size → i ≤ m ∨ bef B i (i - 1) = true := fun i hi => by
  have := List.all_eq_true.1 hchain i (List.mem_range.2 hi)
  simpa using this
 -- at the end
 have fin : ∀ (listed : Array Bool) (a : Act) (w : World), (∀ i, i < ops.size → lst listed i = true) → (Inv1 ops W m news a0 v N listed a w ∨ ∃ p, Inv2 P ops (Q .normal) m late news a0 v p listed a w) → Q .normal a w := by
  intro listed a w hall inv
  have h2 : ∃ p, Inv2 P ops (Q .normal) m late news a0 v p listed a w := by
   rcases inv with inv | h
   ·have hm : m = ops.size := by
     rcases Nat.lt_or_ge m ops.size with h | h
     ·have := inv.later m (Nat.le_refl _); rw [hall m h] at this; cases this
     ·omega
    exact ⟨m, inv2_start hch hc2 hA0 hst1 inv (fun j hj _ => hall j (by omega)) (hend w inv.gr)⟩
   ·exact h
  obtain ⟨p, inv⟩ := h2
  have hp : p = ops.size := by
   rcases Nat.lt_or_ge p ops.size with h | h
   ·have := inv.todo p (Nat.le_refl _); rw [hall p h] at this; cases this
   ·have := inv.pn; omega
  obtain ⟨A', h1, h2, h3, h4⟩ := inv.ideal
  rw [List.drop_eq_nil_of_le (by rw [hp]; simp)] at h1
  have e : a = A' := by
   have ht : a.tmps = A'.tmps := by
    apply Array.ext_getElem?
    intro t
    rcases Nat.lt_or_ge t a0.tmps.size with h | h
    ·exact (h4 t h).2.1 fun j hj _ hun _ => by rw [hall j (by omega)] at hun; cases hun
    ·rw [Array.getElem?_eq_none (by rw [inv.sz]; exact h), Array.getElem?_eq_none (by rw [h3]; exact h)]
   have hd : a.defers = A'.defers := by rw [inv.dfs, h2]
   cases a; cases A'; simp_all
  rw [e]; exact h1
 -- one operation of the chain
 have chain : ∀ (fuel : Nat) (listed : Array Bool) (a : Act) (w : World) (p : Nat) (o : Oper), (∀ a' w', (∃ q, Inv2 P ops (Q .normal) m late news a0 v q (listed.setIfInBounds p true) a' w') → wpAny P .any ops Q fuel (listed.setIfInBounds p true) a' w') →
   Inv2 P ops (Q .normal) m late news a0 v p listed a w → ops[p]? = some o → (∀ e ∈ o.after, Region.binds .any e = true → lst listed e.on = true) → wpOp P ops Q p (wpAny P .any ops Q fuel (listed.setIfInBounds p true)) a w := by
  intro fuel listed a w p o ih inv ho hr
  obtain ⟨A', h1, h2, h3, h4⟩ := inv.ideal
  have hpn := (Array.getElem?_eq_some_iff.1 ho).1
  have hdrop : ops.toList.drop p = o :: ops.toList.drop (p + 1) := by
   rw [List.drop_eq_getElem_cons (by simpa using hpn)]
   congr 1
   have := (Array.getElem?_eq_some_iff.1 ho).2
   simpa using this
  rw [hdrop] at h1
  have look := look_same (ops := ops) (o := o) (a := a) (a' := A') (fun cs b => Region.noSelect_spec hsel p o cs b ho) (fun t ht => by
   rcases Nat.lt_or_ge t a0.tmps.size with h | h
   ·refine (h4 t h).2.1 fun j hj _ hun hd => ?_
    rcases ((chk_pair hch ho (dst_lt hd)).2 t hd).2 ht with ⟨_, hb⟩ | ⟨h5, _⟩
    ·have := listed_of_bef hch inv.closed p o ho hr j hb (dst_lt hd)
     rw [hun] at this; cases this
    ·have := inv.mp; omega
   ·rw [Array.getElem?_eq_none (by rw [inv.sz]; exact h), Array.getElem?_eq_none (by rw [h3]; exact h)])
  unfold wpOp
  rw [ho]
  simp only
  rw [look.2]
  unfold Walk2 at h1
  by_cases hw : Region.wanted o (yielded ops A'.tmps) = true
  ·rw [if_pos hw] at h1 ⊢
   exact .inl (tq_wp look.1 h1 fun x w' hK => ih _ _ ⟨p + 1, inv2_next hch inv ho hr hK h2 h3 h4⟩)
  ·rw [if_neg hw] at h1 ⊢
   exact ih _ _ ⟨p + 1, inv2_next hch inv ho hr h1 h2 h3 h4⟩
 intro fuel
 induction fuel with
 | zero =>
  intro listed a w hc inv
  have hall := cnt_zero ops.size hc
  refine ⟨?_, fin listed a w hall inv⟩
  rw [List.eq_nil_iff_forall_not_mem]
  intro i hi
  obtain ⟨h0, o, ho, _⟩ := mem_ready.1 hi
  have hin := (Array.getElem?_eq_some_iff.1 ho).1
  have hs : listed.size = ops.size := by rcases inv with inv | ⟨_, inv⟩ <;> exact inv.size
  have h1 := hall i hin
  unfold lst at h1
  have hsz : i < listed.size := by omega
  simp only [Array.getD_eq_getD_getElem?, Array.getElem?_eq_getElem hsz, Option.getD_some] at h0 h1
  rw [h1] at h0; cases h0
 | succ fuel ih =>
  intro listed a w hc inv
  have hs : listed.size = ops.size := by rcases inv with inv | ⟨_, inv⟩ <;> exact inv.size
  refine ⟨fun h => fin listed a w (all_of_ready hch hs h) inv, fun i hi => ?_⟩
  obtain ⟨h0, o, ho, hr⟩ := mem_ready.1 hi
  have hin := (Array.getElem?_eq_some_iff.1 ho).1
  have hun : lst listed i = false := by
   have hsz : i < listed.size := by omega
   unfold lst
   simp only [Array.getD_eq_getD_getElem?, Array.getElem?_eq_getElem hsz, Option.getD_some] at h0 ⊢
   exact h0
  have hcnt : cnt (listed.setIfInBounds i true) ops.size = fuel := by
   have := cnt_set (listed := listed) (by omega) hun ops.size
   rw [if_pos hin] at this; omega
  have ih2 : ∀ a' w', (∃ q, Inv2 P ops (Q .normal) m late news a0 v q (listed.setIfInBounds i true) a' w') → wpAny P .any ops Q fuel (listed.setIfInBounds i true) a' w' := fun a' w' h => ih _ _ _ hcnt (.inr h)
  rcases inv with inv | ⟨p, inv⟩
  ·rcases Nat.lt_or_ge i m with him | him
   ·have hl := look1 hch hc2 hA0 hst1 inv him ho hr hun
    have look := look_same (ops := ops) (o := o) (a := a) (a' := A i) (fun cs b => Region.noSelect_spec hsel i o cs b ho) hl
    have hd : dstOf ops i = o.dst := by simp [dstOf, ho]
    unfold wpOp
    rw [ho]
    simp only
    rw [look.2]
    cases hn : news.contains i
    ·obtain ⟨_, o', ho', hfix⟩ := (hstep i him).2 hn
     rw [ho] at ho'; cases ho'
     rcases hfix with ⟨hw, hq⟩ | ⟨hw, hv⟩
     ·rw [if_pos hw]
      exact .inl (gq_wp look.1 (hq w (.inr inv.gr)) fun w' hg => ih _ _ _ hcnt (.inl (inv1_fix hch hstable inv him ho hr hn hg)))
     ·rw [if_neg (by rw [hw]; simp), ← hv]
      exact ih _ _ _ hcnt (.inl (inv1_fix hch hstable inv him ho hr hn (Gr.refl w)))
    ·obtain ⟨_, o', ho', hw, _, hq⟩ := (hstep i him).1 hn
     rw [ho] at ho'; cases ho'
     rw [if_pos hw]
     exact .inl (nq_wp look.1 (hq w inv.gr) fun x w' hg hN => ih _ _ _ hcnt (.inl (inv1_new hch hstable inv him ho hr hun hn hg hN)))
   ·have him2 : i = m := by
     rcases hchain' i hin with h | h
     ·omega
     ·by_cases hne : i = m
      ·exact hne
      ·have := listed_of_bef hch inv.closed i o ho hr (i - 1) h (by omega)
       rw [inv.later (i - 1) (by omega)] at this; cases this
    subst him2
    have hall : ∀ j, j < i → late.contains j = false → lst listed j = true := fun j hj hlj => by
     rcases Bool.or_eq_true _ _ ▸ hcm with h | h
     ·simp at h; omega
     ·have := List.all_eq_true.1 h j (List.mem_range.2 hj)
      rw [hlj, Bool.false_or] at this
      exact listed_of_bef hch inv.closed i o ho hr j this (by omega)
    exact chain fuel listed a w i o ih2 (inv2_start hch hc2 hA0 hst1 inv hall (hend w inv.gr)) ho hr
  ·rcases Nat.lt_or_ge i m with him | him
   ·have hl : late.contains i = true := by
     cases h : late.contains i
     ·rw [inv.head i him h] at hun; cases hun
     ·rfl
    have hn : news.contains i = false := by
     have := List.all_eq_true.1 hlate i (by simpa using hl)
     simp only [Bool.and_eq_true, Bool.not_eq_true'] at this
     exact this.2
    have hd : dstOf ops i = o.dst := by simp [dstOf, ho]
    obtain ⟨A', h1, h2, h3, h4⟩ := inv.ideal
    obtain ⟨g1, g2, g3⟩ := acts_reg hch hst1 i (Nat.le_of_lt him)
    rw [hA0] at g1 g2 g3
    have hl1 : ∀ t ∈ o.looksAt ops, a.tmps[t]? = (A i).tmps[t]? := by
     intro t ht
     rcases Nat.lt_or_ge t a0.tmps.size with h | h
     ·obtain ⟨c1, c2, c3, c4⟩ := h4 t h
      by_cases hex : ∃ j, dstOf ops j = some t
      ·obtain ⟨j, hj⟩ := hex
       rcases ((chk_pair hch ho (dst_lt hj)).2 t hj).2 ht with ⟨hji, hb⟩ | ⟨hij, hb⟩
       ·have hlj := listed_of_bef hch inv.closed i o ho hr j hb (dst_lt hj)
        have hnj : news.contains j = false := by
         cases hnj : news.contains j
         ·rfl
         ·simp only [chk2, Bool.and_eq_true] at hc2
          have h5 := List.all_eq_true.1 hc2.2 i (List.mem_range.2 him)
          simp only [ho] at h5
          have h6 := List.all_eq_true.1 h5 j (by simpa using hnj)
          rw [hj] at h6
          simp at h6
          exact absurd ht h6
        rw [c2 (fun j' _ _ hun' hd' => by rw [uniq hch hd' hj, hlj] at hun'; cases hun'), c3 j (by omega) hnj hj, (g3 t h).1 j hji hnj hj]
       ·have hlj : lst listed j = false := by
         cases hlj : lst listed j
         ·rfl
         ·obtain ⟨oj, hoj⟩ : ∃ oj, ops[j]? = some oj := ⟨ops[j]'(dst_lt hj), Array.getElem?_eq_getElem _⟩
          have := listed_of_bef hch inv.closed j oj hoj (fun e he hbb => inv.closed j oj hoj hlj e he hbb) i hb hin
          rw [hun] at this; cases this
        have hA : (A i).tmps[t]? = a0.tmps[t]? := (g3 t h).2 fun j' hj' _ hd' => by rw [uniq hch hd' hj] at hj'; omega
        rw [hA]
        rcases Nat.lt_or_ge j m with hjm | hjm
        ·have hlate2 : late.contains j = true := by
          cases h6 : late.contains j
          ·rw [inv.head j hjm h6] at hlj; cases hlj
          ·rfl
         exact c1 j hjm hlate2 hlj hj
        ·have hjp : p ≤ j := by
          rcases Nat.lt_or_ge j p with h6 | h6
          ·rw [inv.done j hjm h6] at hlj; cases hlj
          ·exact h6
         rw [c2 (fun j' hj' _ _ hd' => by have := uniq hch hd' hj; omega), c4 fun j' hj' hd' => by have := uniq hch hd' hj; omega]
      ·rw [c2 (fun j' _ _ _ hd' => hex ⟨j', hd'⟩), c4 (fun j' _ hd' => hex ⟨j', hd'⟩), (g3 t h).2 fun j' _ _ hd' => hex ⟨j', hd'⟩]
     ·rw [Array.getElem?_eq_none (by rw [inv.sz]; exact h), Array.getElem?_eq_none (by rw [g2]; exact h)]
    have look := look_same (ops := ops) (o := o) (a := a) (a' := A i) (fun cs b => Region.noSelect_spec hsel i o cs b ho) hl1
    obtain ⟨_, o', ho', hfix⟩ := (hstep i him).2 hn
    rw [ho] at ho'; cases ho'
    unfold wpOp
    rw [ho]
    simp only
    rw [look.2]
    rcases hfix with ⟨hw, hq⟩ | ⟨hw, hv⟩
    ·rw [if_pos hw]
     have hq' := hq w (.inl hl)
     rw [hl] at hq'
     exact .inl (gq_late look.1 hq' (ih2 _ _ ⟨p, inv2_late hch hc2 inv him hl ho hr⟩))
    ·rw [if_neg (by rw [hw]; simp), ← hv]
     exact ih2 _ _ ⟨p, inv2_late hch hc2 inv him hl ho hr⟩
   ·have hip : i = p := by
     rcases Nat.lt_or_ge i p with h | h
     ·rw [inv.done i him h] at hun; cases hun
     ·by_cases hne : i = p
      ·exact hne
      ·have hmp := inv.mp
       rcases hchain' i hin with h5 | h5
       ·omega
       ·have := listed_of_bef hch inv.closed i o ho hr (i - 1) h5 (by omega)
        rw [inv.todo (i - 1) (by omega)] at this; cases this
    subst hip
    exact chain fuel listed a w i o ih2 inv ho hr
end
theorem walk1_nil {Q : Act → List (Option Tmp × NPred) → Prop} {k : Nat} {a : Act} {L : List (Option Tmp × NPred)} (h : Q a L) : Walk1 P ops W late news Q [] k a L := h
theorem walk1_no {Q : Act → List (Option Tmp × NPred) → Prop} {o : Oper} {r : List Oper} {k : Nat} {a : Act} {L : List (Option Tmp × NPred)} (hn : news.contains k = false) (hw : Region.wanted o (yielded ops a.tmps) = false)
  (h : ∀ K : Act → Prop, (∀ a', Walk1 P ops W late news Q r (k + 1) a' L → K a') → K (a.put o.dst undef)) : Walk1 P ops W late news Q (o :: r) k a L := by
 have h := h _ (fun _ h => h)
 unfold Walk1; rw [if_neg (by rw [hn]; simp), if_neg (by rw [hw]; simp)]; exact h
theorem walk1_gr {Q : Act → List (Option Tmp × NPred) → Prop} {o : Oper} {r : List Oper} {k : Nat} {a : Act} {L : List (Option Tmp × NPred)} (hn : news.contains k = false) (hl : late.contains k = false) (hw : Region.wanted o (yielded ops a.tmps) = true)
  (h : ∀ K : Act → Prop, (∀ a', Walk1 P ops W late news Q r (k + 1) a' L → K a') → ∃ v, (∀ w, Gr W w → gq P o a w v false) ∧ K (a.put o.dst v)) : Walk1 P ops W late news Q (o :: r) k a L := by
 obtain ⟨v, hq, h⟩ := h _ (fun _ h => h)
 unfold Walk1; rw [if_neg (by rw [hn]; simp), if_pos hw]; exact ⟨v, fun w hw' => by rw [hl]; exact hq w (hw'.resolve_left (by rw [hl]; simp)), h⟩
theorem walk1_pure {Q : Act → List (Option Tmp × NPred) → Prop} {o : Oper} {r : List Oper} {k : Nat} {a : Act} {L : List (Option Tmp × NPred)} (hn : news.contains k = false) (hl : late.contains k = true) (hw : Region.wanted o (yielded ops a.tmps) = true)
  (h : ∀ K : Act → Prop, (∀ a', Walk1 P ops W late news Q r (k + 1) a' L → K a') → ∃ v, (∀ w, gq P o a w v true) ∧ K (a.put o.dst v)) : Walk1 P ops W late news Q (o :: r) k a L := by
 obtain ⟨v, hq, h⟩ := h _ (fun _ h => h)
 unfold Walk1; rw [if_neg (by rw [hn]; simp), if_pos hw]; exact ⟨v, fun w _ => by rw [hl]; exact hq w, h⟩
theorem walk1_new {Q : Act → List (Option Tmp × NPred) → Prop} {o : Oper} {r : List Oper} {k : Nat} {a : Act} {L : List (Option Tmp × NPred)} (N : NPred) (hn : news.contains k = true) (hw : Region.wanted o (yielded ops a.tmps) = true)
  (hs : Stable N) (hq : ∀ w, Gr W w → nq P o a w N) (h : Walk1 P ops W late news Q r (k + 1) a (L ++ [(o.dst, N)])) : Walk1 P ops W late news Q (o :: r) k a L := by
 unfold Walk1; rw [if_pos hn]; exact ⟨hw, N, hs, hq, h⟩
theorem walk2_nil {Q : Act → World → Prop} {a : Act} {w : World} (h : Q a w) : Walk2 P ops Q [] a w := h
theorem walk2_no {Q : Act → World → Prop} {o : Oper} {r : List Oper} {a : Act} {w : World} (hw : Region.wanted o (yielded ops a.tmps) = false) (h : ∀ K : Act → Prop, (∀ a', Walk2 P ops Q r a' w → K a') → K (a.put o.dst undef)) : Walk2 P ops Q (o :: r) a w := by
 have h := h _ (fun _ h => h)
 unfold Walk2; rw [if_neg (by rw [hw]; simp)]; exact h
theorem walk2_go {Q : Act → World → Prop} {o : Oper} {r : List Oper} {a : Act} {w : World} (hw : Region.wanted o (yielded ops a.tmps) = true) (h : ∀ K : Act → World → Prop, (∀ a w, Walk2 P ops Q r a w → K a w) → tq P o a w K) : Walk2 P ops Q (o :: r) a w := by
 unfold Walk2; rw [if_pos hw]; exact h _ (fun _ _ h => h)
def NBlock (o : Obj) : NPred := fun lo hi v w => v = .pointer (some ⟨lo, 0, none⟩) ∧ lo < hi ∧ w.heap[lo]? = some o
theorem NBlock.stable (o : Obj) : Stable (NBlock o) := by
 rintro lo hi v w w' ⟨h1, h2, h3⟩ hg
 have hlt : lo < w.heap.size := by
  rcases Nat.lt_or_ge lo w.heap.size with h | h
  ·exact h
  ·rw [Array.getElem?_eq_none h] at h3; cases h3
 exact ⟨h1, h2, by rw [hg.block lo hlt (by simp)]; exact h3⟩
theorem NBlock.mk (w : World) (o : Obj) : Gr w (w.alloc o) ∧ NBlock o w.heap.size (w.alloc o).heap.size (.pointer (some ⟨w.heap.size, 0, none⟩)) (w.alloc o) :=
 ⟨Gr.alloc w o, rfl, by simp, heap_alloc_new w o⟩
theorem walk1_box {Q : Act → List (Option Tmp × NPred) → Prop} {o : Oper} {r : List Oper} {k : Nat} {a : Act} {L : List (Option Tmp × NPred)} (hn : news.contains k = true) (hw : Region.wanted o (yielded ops a.tmps) = true)
  (h : ∃ ob, (∀ w, Gr W w → nq P o a w (NBlock ob)) ∧ Walk1 P ops W late news Q r (k + 1) a (L ++ [(o.dst, NBlock ob)])) : Walk1 P ops W late news Q (o :: r) k a L := by
 obtain ⟨ob, hq, h⟩ := h
 exact walk1_new (NBlock ob) hn hw (NBlock.stable ob) hq h
attribute [go_sem] gq nq tq
theorem wp_region_sched {id : Nat} {Q : Exit → Act → World → Prop} {a : Act} {W : World} {l : List Oper} (m : Nat) (late news : List Nat) (hm : P.follows .mixedOrders = true)
  (hchk : (Region.noSelect l.toArray && chk1 l.toArray (Region.before l.toArray) && chk2 l.toArray (Region.before l.toArray) m late news) = true)
  (h : Walk1 P l.toArray W late news (fun a' L => ∀ w', Gr W w' → EndN W w' (fun a'' => Walk2 P l.toArray (Q .normal) (l.drop m) a'' w') L [] a') (l.take m) 0 a []) :
  (Code.region id l.toArray true).wp P Q a W := by
 simp only [Bool.and_eq_true] at hchk
 obtain ⟨⟨hsel, hch⟩, hc2⟩ := hchk
 have hmn : m ≤ l.length := by
  simp only [chk2, Bool.and_eq_true, decide_eq_true_eq] at hc2
  have := hc2.1.1.1.1.1
  simpa using this
 have hlen : (l.take m).length = m := by simp; omega
 obtain ⟨A, v, N, hA0, hstep, hend⟩ := walk1_ext (l.take m) 0 a [] (fun j hj => by
  rw [hlen] at hj
  simp [hj]) h
 rw [hlen] at hstep hend
 refine wp_region_any hm (sched_any hch hc2 hsel (A := A) (v := v) (N := N) hA0 (fun i hi => hstep i (Nat.zero_le _) (by omega)) (fun w' hw' => ?_) _ _ _ _ ?_ (.inl ?_))
 ·simpa using hend w' hw'
 ·have : ∀ k, k ≤ l.toArray.size → cnt (Array.replicate l.toArray.size false) k = k := by
   intro k
   induction k with
   | zero => intro _; rfl
   | succ k ih =>
    intro hk
    have e : lst (Array.replicate l.toArray.size false) k = false := by
     unfold lst; simp only [Array.getD_eq_getD_getElem?]; rw [Array.getElem?_eq_getElem (by simp only [Array.size_replicate]; omega)]; simp
    simp only [cnt, e, ih (by omega)]; simp
  exact this _ (Nat.le_refl _)
 ·have e : ∀ k, lst (Array.replicate l.toArray.size false) k = false := by
   intro k
   unfold lst
   simp only [Array.getD_eq_getD_getElem?, Array.getElem?_replicate]
   split <;> rfl
  have no : ∀ {k : Nat} {p : Prop}, lst (Array.replicate l.toArray.size false) k = true → p := fun {k p} h => by rw [e k] at h; cases h
  exact ⟨by simp, fun i o ho hl => no hl, fun i _ => e i, ⟨rfl, rfl, rfl, Nat.le_refl _, fun _ _ _ => rfl⟩, rfl, rfl,
   fun _ => undef, fun _ => 0, fun _ => 0, fun t ht j hj hl => no hl, fun t ht _ => rfl, fun j hj hl => no hl, fun i j _ _ _ hl _ => no hl⟩
end Sched
theorem gr_same {P : Program} {f : FuncId} {args : Array Value} {w : World} {v : Value} (h : Calls P f args w fun e w' => e = .returned v ∧ w = w') : Calls P f args w (fun e w'' => e = .returned v ∧ Gr w w'') :=
 h.mono fun _ _ ⟨he, hk⟩ => ⟨he, hk ▸ Gr.refl w⟩
end Go.Proofs.YtlnkofpcidngoaaDoor
/- Memory, once more: stores into known blocks; what a turned block leaves alone. -/
namespace Go.Proofs.YtlnkofpcidngoaaDoor
open Go.ChangeShapes Go.WideShapes Go.ChangeAt Go.RowKit
theorem heap_lt {w : World} {p : Nat} {o : Obj} (h : w.heap[p]? = some o) : p < w.heap.size := by
 rcases Nat.lt_or_ge p w.heap.size with h1 | h1
 ·exact h1
 ·rw [Array.getElem?_eq_none h1] at h; cases h
theorem rd_keptBut {k : IntKind} {w w' : World} {r : Option Nat} {a : Option Addr} {len : Nat} {xs : List Int} (h : Rd k w a len xs) (hg : w.grownBy w' r) (hr : ∀ b off, 0 < len → a = some ⟨b, off, none⟩ → some b ≠ r) : Rd k w' a len xs := by
 obtain ⟨h1, h2, h3, h4⟩ := h
 refine ⟨h1, h2, h3, ?_⟩
 rcases h4 with h0 | ⟨b, off, rfl, hb, hc⟩
 ·exact .inl h0
 ·refine .inr ⟨b, off, rfl, Nat.lt_of_lt_of_le hb hg.size, fun i hi => ?_⟩
  rw [← hc i hi]
  exact World.cell?_of_block (hg.block b hb (hr b off (by omega) rfl))
theorem heap_setCell_eq {w : World} {p : Nat} {cs : Array Value} {e : TypeId} {fz : Nat × Nat} (h : w.heap[p]? = some (.cells cs e fz)) (i : Nat) (u : Value) : (w.setCell ⟨p, i, none⟩ u).heap[p]? = some (.cells (cs.setIfInBounds i u) e fz) := by
 simp [World.setCell, Array.getElem?_modify, h]
theorem grown_setAt (w : World) (p i : Nat) (u : Value) : w.grownBy (w.setCell ⟨p, i, none⟩ u) (some p) :=
 ⟨rfl, rfl, rfl, by simp [World.setCell], fun k _ hne => heap_setCell_ne _ _ _ _ (by intro h; exact hne (by rw [h]))⟩
theorem grown_trans' {w w1 w2 : World} {r : Option Nat} (h : w.grownBy w1 r) (k : w1.grownBy w2 r) : w.grownBy w2 r := grownBy_trans h k (.inl rfl)
theorem grown_weak {w w' : World} (h : w.grownBy w' none) (r : Option Nat) : w.grownBy w' r := ⟨h.os, h.tape, h.output, h.size, fun i hi _ => h.block i hi (by simp)⟩
theorem own_after {B : Nat} {e : TypeId} {k : IntKind} {w : World} {a : Option Addr} {n cap : Nat} {xs : List Int} (h : OwnI B e k w a n cap xs) {p : Nat} (hp : p < B) : ∀ b off, a = some ⟨b, off, none⟩ → p < b := by
 intro b off he
 subst he
 have := (h.below b rfl).1
 omega
theorem grown_new {w0 w : World} {r : Option Nat} (h : w0.grownBy w r) {a : Addr} (ha : w0.heap.size ≤ a.block) (u : Value) : w0.grownBy (w.setCell a u) r :=
 ⟨h.os, h.tape, h.output, by have := h.size; simpa [World.setCell] using this, fun k hk hne => by rw [heap_setCell_ne _ _ _ _ (by omega)]; exact h.block k hk hne⟩
theorem rd_gr {k : IntKind} {w w' : World} {a : Option Addr} {len : Nat} {xs : List Int} (h : Rd k w a len xs) (hg : Gr w w') : Rd k w' a len xs := h.kept hg
end Go.Proofs.YtlnkofpcidngoaaDoor
/- Many cells written at once (an aggregate in the middle of a block). Over any program. -/
namespace Go.Proofs.YtlnkofpcidngoaaDoor
open Go.ChangeShapes Go.WideShapes Go.ChangeAt Go.RowKit
def setM {α : Type} : List α → Nat → List α → List α
 | xs, _, [] => xs
 | xs, o, v :: r => setM (xs.set o v) (o + 1) r
theorem setM_mid {α : Type} : ∀ (vs A C D : List α), C.length = vs.length → setM (A ++ (C ++ D)) A.length vs = A ++ (vs ++ D)
 | [], A, C, D, h => by
  have : C = [] := List.eq_nil_of_length_eq_zero (by simpa using h)
  subst this; rfl
 | v :: r, A, [], D, h => by simp at h
 | v :: r, A, c :: C, D, h => by
  unfold setM
  have e : (A ++ (c :: C ++ D)).set A.length v = (A ++ [v]) ++ (C ++ D) := by simp [List.set_append_right]
  rw [e, show A.length + 1 = (A ++ [v]).length by simp, setM_mid r (A ++ [v]) C D (by simpa using h)]
  simp
theorem setM_whole {α : Type} (vs C : List α) (h : C.length = vs.length) : setM C 0 vs = vs := by
 have := setM_mid vs [] C [] h
 simpa using this
theorem heap_setCells {g : Nat} {e : TypeId} {fz : Nat × Nat} : ∀ (vs : List Value) (o : Nat) (w : World) (cs : List Value), w.heap[g]? = some (.cells cs.toArray e fz) → (w.setCells g o vs).heap[g]? = some (.cells (setM cs o vs).toArray e fz)
 | [], _, _, _, h => h
 | v :: r, o, w, cs, h => by
  have h1 := heap_setCell_eq h o v
  rw [List.setIfInBounds_toArray] at h1
  exact heap_setCells r (o + 1) _ _ h1
theorem grown_setCells (g : Nat) : ∀ (vs : List Value) (o : Nat) (w : World), w.grownBy (w.setCells g o vs) (some g)
 | [], _, w => grownBy_refl w _
 | v :: r, o, w => grown_trans' (grown_setAt w g o v) (grown_setCells g r (o + 1) _)
theorem grown_setCells_new {w0 w : World} {r : Option Nat} (h : w0.grownBy w r) {g : Nat} (hg : w0.heap.size ≤ g) (vs : List Value) (o : Nat) : w0.grownBy (w.setCells g o vs) r := by
 have k := grown_setCells g vs o w
 exact ⟨k.os.trans h.os, k.tape.trans h.tape, k.output.trans h.output, Nat.le_trans h.size k.size, fun i hi hne => by
  rw [k.block i (Nat.lt_of_lt_of_le hi h.size) (by simp; omega)]; exact h.block i hi hne⟩
theorem own_setCells {base : Nat} {e : TypeId} {size g n cap : Nat} : ∀ (vs : List Value) (o : Nat) (w : World) (xs : List Value), w.ownsRow base e size (.slice (some ⟨g, 0, none⟩) n cap) n xs →
  (w.setCells g o vs).ownsRow base e size (.slice (some ⟨g, 0, none⟩) n cap) n (setM xs o vs)
 | [], _, _, _, h => h
 | v :: r, o, _, _, h => own_setCells r (o + 1) _ _ (h.stored o v).1
theorem there_block {w : World} {g : Nat} {cs : Array Value} {e : TypeId} (h : w.heap[g]? = some (.cells cs e (0, 0))) {o n : Nat} (hn : o + n ≤ cs.size) : w.there g o n := by
 intro j hj
 rw [cell_of_block h, frozen_of_block h]
 exact ⟨by rw [Array.getElem?_eq_getElem (by omega)]; rfl, rfl⟩
theorem there_own {w : World} {base : Nat} {e : TypeId} {size g n cap : Nat} {xs : List Value} (h : w.ownsRow base e size (.slice (some ⟨g, 0, none⟩) n cap) n xs) {o k : Nat} (hk : o + k ≤ xs.length) : w.there g o k := by
 intro j hj
 have hl := h.1
 rw [h.cellAt (o + j) (by omega)]
 exact ⟨by simp [show o + j < xs.length by omega], h.frozenAt _⟩
end Go.Proofs.YtlnkofpcidngoaaDoor
/- Rows of structs: k cells an element. Over any program. -/
namespace Go.Proofs.YtlnkofpcidngoaaDoor
open Go.ChangeShapes Go.WideShapes Go.ChangeAt Go.RowKit
section
variable {α : Type} {f : α → List Value} {k : Nat}
theorem flat_lenG (hk : ∀ x, (f x).length = k) : ∀ l : List α, (l.flatMap f).length = l.length * k
 | [] => by simp
 | y :: l => by rw [List.flatMap_cons, List.length_append, hk y, flat_lenG hk l, List.length_cons, Nat.add_mul]; omega
theorem flat_atG (hk : ∀ x, (f x).length = k) : ∀ (l : List α) (i j : Nat) (x : α), l[i]? = some x → j < k → (l.flatMap f)[i * k + j]? = (f x)[j]?
 | [], i, j, x, h, _ => by simp at h
 | y :: l, 0, j, x, h, hj => by
  simp at h; subst h
  rw [List.flatMap_cons, Nat.zero_mul, Nat.zero_add, List.getElem?_append_left (by rw [hk y]; exact hj)]
 | y :: l, i + 1, j, x, h, hj => by
  have ih := flat_atG hk l i j x (by simpa using h) hj
  rw [List.flatMap_cons, List.getElem?_append_right (by rw [hk y, Nat.add_mul]; omega), hk y, ← ih]
  congr 1
  rw [Nat.add_mul]; omega
theorem flat_take (hk : ∀ x, (f x).length = k) (l : List α) (m : Nat) (hm : m ≤ l.length) : (l.take m).flatMap f = (l.flatMap f).take (m * k) := by
 have h5 : (l.take m).flatMap f ++ (l.drop m).flatMap f = l.flatMap f := by rw [← List.flatMap_append, List.take_append_drop]
 have h6 : ((l.take m).flatMap f).length = m * k := by rw [flat_lenG hk]; simp; rw [Nat.min_eq_left hm]
 rw [← h5, ← h6, List.take_left]
theorem flat_drop (hk : ∀ x, (f x).length = k) (l : List α) (m : Nat) (hm : m ≤ l.length) : (l.drop m).flatMap f = (l.flatMap f).drop (m * k) := by
 have h5 : (l.take m).flatMap f ++ (l.drop m).flatMap f = l.flatMap f := by rw [← List.flatMap_append, List.take_append_drop]
 have h6 : ((l.take m).flatMap f).length = m * k := by rw [flat_lenG hk]; simp; rw [Nat.min_eq_left hm]
 rw [← h5, ← h6, List.drop_left]
theorem lt_someG {l : List α} {i : Nat} {x : α} (h : l[i]? = some x) : i < l.length := by
 rcases Nat.lt_or_ge i l.length with h1 | h1
 ·exact h1
 ·rw [List.getElem?_eq_none h1] at h; cases h
theorem seg_row (hk : ∀ x, (f x).length = k) (h0 : 0 < k) {w : World} {a : Option Addr} {l : List α} (h : Seg w a (l.flatMap f)) (hn : 0 < l.length) :
  ∃ b off, a = some ⟨b, off, none⟩ ∧ b < w.heap.size ∧ ∀ i x, l[i]? = some x → w.rangeAt b (off + i * k) (f x) := by
 rcases h with h1 | ⟨b, off, e, hb, hc⟩
 ·exfalso
  have h2 := flat_lenG hk l
  rw [h1, List.length_nil] at h2
  have := Nat.mul_pos hn h0
  omega
 ·refine ⟨b, off, e, hb, fun i x hi j v hv => ?_⟩
  have hj : j < k := by rw [← hk x]; exact lt_someG hv
  have hil := lt_someG hi
  have h1 := flat_atG hk l i j x hi hj
  rw [Nat.add_assoc, hc (i * k + j) (by rw [flat_lenG hk]; have := Nat.mul_le_mul_right k hil; rw [Nat.succ_mul] at this; omega), h1]
  exact hv
theorem seg_kept {w w' : World} {a : Option Addr} {vs : List Value} (h : Seg w a vs) (hg : Gr w w') : Seg w' a vs := by
 rcases h with h | ⟨b, off, e, hb, hc⟩
 ·exact .inl h
 ·refine .inr ⟨b, off, e, Nat.lt_of_lt_of_le hb hg.size, fun i hi => ?_⟩
  have h1 := hc i hi
  rw [List.getElem?_eq_getElem hi] at h1 ⊢
  exact hg.cell h1
theorem seg_but {w w' : World} {r : Option Nat} {a : Option Addr} {vs : List Value} (h : Seg w a vs) (hg : w.grownBy w' r) (hr : ∀ b off, vs ≠ [] → a = some ⟨b, off, none⟩ → some b ≠ r) : Seg w' a vs := by
 rcases h with h | ⟨b, off, e, hb, hc⟩
 ·exact .inl h
 ·by_cases hv : vs = []
  ·exact .inl hv
  ·refine .inr ⟨b, off, e, Nat.lt_of_lt_of_le hb hg.size, fun i hi => ?_⟩
   rw [← hc i hi]
   have hbk := hg.block b hb (hr b off hv e)
   unfold World.cell?
   simp only [hbk]
theorem seg_take (hk : ∀ x, (f x).length = k) {w : World} {a : Option Addr} {l : List α} (h : Seg w a (l.flatMap f)) (m : Nat) (hm : m ≤ l.length) : Seg w a ((l.take m).flatMap f) := by
 rw [flat_take hk l m hm]
 rcases h with h0 | ⟨b, off, e2, hb, hc⟩
 ·left; rw [h0]; simp
 ·right
  refine ⟨b, off, e2, hb, fun i hi => ?_⟩
  have hi2 : i < m * k ∧ i < (l.flatMap f).length := by rw [List.length_take] at hi; omega
  rw [hc i hi2.2, List.getElem?_take_of_lt hi2.1]
theorem seg_drop (hk : ∀ x, (f x).length = k) {w : World} {b off : Nat} {l : List α} (h : Seg w (some ⟨b, off, none⟩) (l.flatMap f)) (m : Nat) (hm : m ≤ l.length) : Seg w (some ⟨b, off + m * k, none⟩) ((l.drop m).flatMap f) := by
 rw [flat_drop hk l m hm]
 rcases h with h0 | ⟨b', off', e2, hb, hc⟩
 ·left; rw [h0]; simp
 ·right
  injection e2 with e2
  injection e2 with e3 e4
  subst e3 e4
  refine ⟨b, off + m * k, rfl, hb, fun i hi => ?_⟩
  rw [List.length_drop] at hi
  rw [Nat.add_assoc, hc (m * k + i) (by omega), List.getElem?_drop]
theorem own_segG {w : World} {B : Nat} {e : TypeId} {size : Nat} {a : Option Addr} {n cap : Nat} {vs : List Value} (h : w.ownsRow B e size (.slice a n cap) n vs) : Seg w a vs := by
 have hl := h.1
 rcases h.2 with ⟨hv, h0⟩ | ⟨g, cap', cur, hv, hb, hg, hn, hm, hs, ht⟩
 ·left
  rw [h0, Nat.zero_mul] at hl
  exact List.eq_nil_of_length_eq_zero hl
 ·injection hv with e1 e2 e3
  subst e1
  right
  refine ⟨g, 0, rfl, ?_, fun i hi => ?_⟩
  ·rcases Nat.lt_or_ge g w.heap.size with h1 | h1
   ·exact h1
   ·rw [Array.getElem?_eq_none h1] at hg; cases hg
  ·have hc := h.cells (g := g) rfl i vs[i] (by simp [hi])
   rw [addr_add] at hc
   rw [hc]; simp [hi]
theorem own_capG {w : World} {B : Nat} {e : TypeId} {size : Nat} {a : Option Addr} {n cap : Nat} {vs : List Value} (h : w.ownsRow B e size (.slice a n cap) n vs) : n ≤ cap ∧ cap ≤ maxLen ∧ (a = none → n = 0 ∧ cap = 0) := by
 rcases h.2 with ⟨hv, h0⟩ | ⟨g, cap', cur, hv, _, _, hn, hm, _⟩
 ·injection hv with e1 e2 e3; subst h0 e3; exact ⟨Nat.le_refl _, by simp [maxLen], fun _ => ⟨rfl, rfl⟩⟩
 ·injection hv with e1 e2 e3
  subst e1 e3
  exact ⟨hn, hm, fun h => by cases h⟩
theorem own_blockG {w : World} {B : Nat} {e : TypeId} {size : Nat} {a : Option Addr} {n cap : Nat} {vs : List Value} (h : w.ownsRow B e size (.slice a n cap) n vs) {b off : Nat} (ha : a = some ⟨b, off, none⟩) : off = 0 ∧ (Value.slice a n cap).ownBlock = some b ∧ B ≤ b ∧ b < w.heap.size := by
 rcases h.2 with ⟨hv, h0⟩ | ⟨g, cap', cur, hv, hb, hg, _⟩
 ·injection hv with e1 e2 e3; rw [ha] at e1; cases e1
 ·injection hv with e1 e2 e3
  subst e1
  injection ha with ha
  injection ha with h1 h2
  subst h1 h2
  refine ⟨rfl, rfl, hb, ?_⟩
  rcases Nat.lt_or_ge g w.heap.size with h1 | h1
  ·exact h1
  ·rw [Array.getElem?_eq_none h1] at hg; cases hg
theorem own_weakG {w : World} {B B' : Nat} {e : TypeId} {size : Nat} {a : Option Addr} {n cap : Nat} {vs : List Value} (h : w.ownsRow B e size (.slice a n cap) n vs) (hB : B' ≤ B) : w.ownsRow B' e size (.slice a n cap) n vs := by
 refine ⟨h.1, ?_⟩
 rcases h.2 with h0 | ⟨g, cap', cur, hv, hb, hr⟩
 ·exact .inl h0
 ·exact .inr ⟨g, cap', cur, hv, by omega, hr⟩
theorem own_stayG {w w' : World} {B : Nat} {e : TypeId} {size : Nat} {a : Option Addr} {n cap : Nat} {vs : List Value} (h : w.ownsRow B e size (.slice a n cap) n vs) (hg : Gr w w') : w'.ownsRow B e size (.slice a n cap) n vs :=
 h.kept hg (by cases hv : (Value.slice a n cap).ownBlock <;> simp)
theorem grown_ownG {w0 w1 w2 : World} {B : Nat} {e : TypeId} {size : Nat} {a : Option Addr} {n cap : Nat} {vs : List Value} (h : Gr w0 w1) (ho : w1.ownsRow B e size (.slice a n cap) n vs) (hB : w0.heap.size ≤ B) (hg : w1.grownBy w2 (Value.slice a n cap).ownBlock) : Gr w0 w2 := by
 refine grownBy_trans h hg ?_
 cases hv : (Value.slice a n cap).ownBlock with
 | none => exact .inr (.inl rfl)
 | some g => exact .inr (.inr ⟨g, rfl, by have := (ho.lt g hv).1; omega⟩)
/-! ### a store in the middle of a row -/
theorem setM_left {β : Type} : ∀ (vs A B : List β) (j : Nat), j + vs.length ≤ A.length → setM (A ++ B) j vs = setM A j vs ++ B
 | [], A, B, j, _ => rfl
 | v :: r, A, B, j, h => by
  simp only [List.length_cons] at h
  unfold setM
  rw [List.set_append_left _ _ (by omega), setM_left r (A.set j v) B (j + 1) (by simp; omega)]
theorem setM_right {β : Type} : ∀ (vs A B : List β) (j : Nat), setM (A ++ B) (A.length + j) vs = A ++ setM B j vs
 | [], A, B, j => rfl
 | v :: r, A, B, j => by
  unfold setM
  rw [List.set_append_right _ _ (by omega), show A.length + j - A.length = j by omega, show A.length + j + 1 = A.length + (j + 1) by omega, setM_right r A (B.set j v) (j + 1)]
theorem setM_flat (hk : ∀ x, (f x).length = k) : ∀ (l : List α) (i j : Nat) (x y : α) (vs : List Value), l[i]? = some x → j + vs.length ≤ k → setM (f x) j vs = f y → setM (l.flatMap f) (i * k + j) vs = (l.set i y).flatMap f
 | [], i, j, x, y, vs, h, _, _ => by simp at h
 | z :: l, 0, j, x, y, vs, h, hj, hs => by
  simp at h; subst h
  rw [List.flatMap_cons, Nat.zero_mul, Nat.zero_add, setM_left _ _ _ _ (by rw [hk z]; exact hj), hs]
  simp
 | z :: l, i + 1, j, x, y, vs, h, hj, hs => by
  have ih := setM_flat hk l i j x y vs (by simpa using h) hj hs
  rw [List.flatMap_cons, show (i + 1) * k + j = (f z).length + (i * k + j) by rw [hk z, Nat.add_mul]; omega, setM_right, ih]
  simp
theorem own_set (hk : ∀ x, (f x).length = k) {w : World} {B : Nat} {e : TypeId} {g n cap : Nat} {l : List α} (h : w.ownsRow B e k (.slice (some ⟨g, 0, none⟩) n cap) n (l.flatMap f)) (i j : Nat) (x y : α) (vs : List Value) (hi : l[i]? = some x) (hj : j + vs.length ≤ k) (hs : setM (f x) j vs = f y) :
  (w.setCells g (i * k + j) vs).ownsRow B e k (.slice (some ⟨g, 0, none⟩) n cap) n ((l.set i y).flatMap f) := by
 have := own_setCells vs (i * k + j) w _ h
 rw [setM_flat hk l i j x y vs hi hj hs] at this
 exact this
theorem own_thereG (hk : ∀ x, (f x).length = k) {w : World} {B : Nat} {e : TypeId} {g n cap : Nat} {l : List α} (h : w.ownsRow B e k (.slice (some ⟨g, 0, none⟩) n cap) n (l.flatMap f)) (i : Nat) (hi : i < l.length) (j m : Nat) (hj : j + m ≤ k) : w.there g (i * k + j) m := by
 refine there_own h ?_
 rw [flat_lenG hk]
 have := Nat.mul_le_mul_right k hi
 rw [Nat.succ_mul] at this
 omega
theorem app_rowG {P : Program} (hk : ∀ x, (f x).length = k) (h1 : ∀ x, ∀ v ∈ f x, v.oneCell' = true) (B : Nat) (t ty e : TypeId) (i : TypeInfo) (z : Value) (bytes : Nat) (ht : P.underlying t = some (.slice e)) (hi : P.info? e = some i) (hz : i.zero = some z)
  (hsize : i.size = k) (hby : i.bytes = bytes) (hzs : z.cells.size = k) (hsz : 0 < k) (w : World) (a : Option Addr) (n cap : Nat) (l : List α) (hown : w.ownsRow B e k (.slice a n cap) n (l.flatMap f))
  (b : Option Addr) (m c : Nat) (r : List α) (hr : r.length = m) (hseg : Seg w b (r.flatMap f)) (hnil : b = none → m = 0 ∧ c = 0) (h63 : n + m ≤ maxLen) (hbytes : (n + m) * bytes ≤ 140737488355328) (hB : B ≤ w.heap.size) :
  ∃ a' cap' w', (Builtin.append_ #[t, t] ty #[.slice a n cap, .slice b m c]).run P w = .ok (.slice a' (n + m) cap') w' ∧ w'.ownsRow B e k (.slice a' (n + m) cap') (n + m) ((l ++ r).flatMap f) ∧ w.grownBy w' (Value.slice a n cap).ownBlock ∧ Follows w (.slice a n cap) (.slice a' (n + m) cap') := by
 obtain ⟨v', w', hr', ho, hg, hf, -⟩ := run_app (P := P) B t ty e i z k bytes ht hi hz hsize hby hzs hsz w _ n _ hown b m c (r.flatMap f) (by rw [flat_lenG hk, hr]) hseg (by
  intro u hu
  obtain ⟨x, _, hu⟩ := List.mem_flatMap.1 hu
  exact h1 x u hu) hnil h63 hbytes hB
 have hv : ∃ a' cap', v' = .slice a' (n + m) cap' := by
  rcases ho.2 with ⟨hv, h0⟩ | ⟨g, cap', cur, rfl, _⟩
  ·exact ⟨none, 0, by rw [hv, h0]⟩
  ·exact ⟨_, _, rfl⟩
 obtain ⟨a', cap', rfl⟩ := hv
 exact ⟨a', cap', w', hr', by rw [List.flatMap_append]; exact ho, hg, hf⟩
end
end Go.Proofs.YtlnkofpcidngoaaDoor
/- A block whose cells are known, over any program. -/
namespace Go.Proofs.YtlnkofpcidngoaaDoor
open Go.ChangeShapes Go.WideShapes Go.ChangeAt Go.RowKit
def CBlk (g : Nat) (t : TypeId) (cs : List Value) (w : World) : Prop := w.heap[g]? = some (.cells cs.toArray t (0, 0))
theorem CBlk.new (w : World) (t : TypeId) (cs : List Value) : CBlk w.heap.size t cs (w.alloc (.cells cs.toArray t)) := heap_alloc_new _ _
theorem CBlk.lt {g : Nat} {t : TypeId} {cs : List Value} {w : World} (hb : CBlk g t cs w) : g < w.heap.size := heap_lt hb
theorem CBlk.kept {g : Nat} {t : TypeId} {cs : List Value} {w w' : World} (hb : CBlk g t cs w) (hg : Gr w w') : CBlk g t cs w' := by
 unfold CBlk; rw [hg.block _ (heap_lt hb) (by simp)]; exact hb
theorem CBlk.but {g : Nat} {t : TypeId} {cs : List Value} {w w' : World} {r : Option Nat} (hb : CBlk g t cs w) (hg : w.grownBy w' r) (hne : some g ≠ r) : CBlk g t cs w' := by
 unfold CBlk; rw [hg.block g (heap_lt hb) hne]; exact hb
theorem CBlk.at {g : Nat} {t : TypeId} {cs : List Value} {w : World} (hb : CBlk g t cs w) (i : Nat) {v : Value} (hv : cs[i]? = some v) : w.cell? ⟨g, i, none⟩ = some v := by
 rw [cell_of_block hb]; simpa using hv
theorem CBlk.fz {g : Nat} {t : TypeId} {cs : List Value} {w : World} (hb : CBlk g t cs w) (i : Nat) : w.frozen? ⟨g, i, none⟩ = false := frozen_of_block hb i
theorem CBlk.set {g : Nat} {t : TypeId} {cs ds : List Value} {w : World} (hb : CBlk g t cs w) (i : Nat) (v : Value) (hk : cs.set i v = ds) : CBlk g t ds (w.setCell ⟨g, i, none⟩ v) := by
 unfold CBlk
 rw [heap_setCell_eq hb i v, List.setIfInBounds_toArray, hk]
theorem CBlk.other {g p : Nat} {t : TypeId} {cs : List Value} {w : World} (hb : CBlk g t cs w) (i : Nat) (v : Value) (hne : g ≠ p) : CBlk g t cs (w.setCell ⟨p, i, none⟩ v) := by
 unfold CBlk
 rw [heap_setCell_ne _ _ _ _ hne]; exact hb
theorem CBlk.there {g : Nat} {t : TypeId} {cs : List Value} {w : World} (hb : CBlk g t cs w) {o n : Nat} (hn : o + n ≤ cs.length) : w.there g o n := there_block hb (by simpa using hn)
theorem CBlk.put {g : Nat} {t : TypeId} {cs : List Value} {w : World} (hb : CBlk g t cs w) (ds : List Value) (hl : ds.length = cs.length) : CBlk g t ds (w.setCells g 0 ds) := by
 have := heap_setCells ds 0 w cs hb
 unfold CBlk
 rw [this, setM_whole ds cs hl.symm]
theorem CBlk.puts {g p : Nat} {t : TypeId} {cs : List Value} {w : World} (hb : CBlk g t cs w) (o : Nat) (ds : List Value) (hne : g ≠ p) : CBlk g t cs (w.setCells p o ds) :=
 hb.but (grown_setCells p ds o w) (by simpa using hne)
theorem CBlk.load {P : Program} {g : Nat} {t : TypeId} {cs : List Value} {w : World} (hb : CBlk g t cs w) {o : Oper} {a : Act} {late : Bool} (x : Operand) (ho : o.op = .load t x) (hx : a.eval x = .pointer (some ⟨g, 0, none⟩))
  {d : TypeDesc} (hu : P.underlying t = some d) (hd : (match d with | .struct _ | .array _ _ => true | _ => false) = true) (hi : (P.info? t).map (·.size) = some cs.toArray.size) : Sched.gq P o a w (.agg cs.toArray) late := by
 unfold Sched.gq execOp
 simp only [ho, hx, Instr.loadAt, Instr.sureAddr, Sem.run_bind, Sem.run_pure, Result.andThen_ok, run_loadVar_row w g t t cs.toArray (0, 0) d hb hu hd hi]
 exact ⟨trivial, trivial⟩
theorem gr_setCell {w0 w : World} (h : Gr w0 w) {g : Nat} (hg : w0.heap.size ≤ g) (i : Nat) (v : Value) : Gr w0 (w.setCell ⟨g, i, none⟩ v) := grown_setCells_new h hg [v] i
theorem gr_setCells {w0 w : World} (h : Gr w0 w) {g : Nat} (hg : w0.heap.size ≤ g) (o : Nat) (vs : List Value) : Gr w0 (w.setCells g o vs) := grown_setCells_new h hg vs o
section
variable {P : Program} {ops : Array Oper} {rest : List Oper} {o : Oper} {a : Act} {w : World} {Q : Exit → Act → World → Prop}
theorem cblk_load (hw : Region.wanted o (yielded ops a.tmps) = true) (ty : TypeId) (x : Operand) (ho : o.op = .load ty x) (g : Nat) (hx : a.eval x = .pointer (some ⟨g, 0, none⟩)) {cs : List Value} (hb : CBlk g ty cs w)
  {d : TypeDesc} (hu : P.underlying ty = some d) (hd : (match d with | .struct _ | .array _ _ => true | _ => false) = true) (hi : (P.info? ty).map (·.size) = some cs.toArray.size)
  (h : wpList P ops Q rest (a.put o.dst (.agg cs.toArray)) w) : wpList P ops Q (o :: rest) a w := by
 unfold wpList
 rw [if_pos hw]
 left
 exact wp_load_row ty x ho g hx ty cs.toArray (0, 0) d hb hu hd hi h
theorem cblk_store (hgd : o.guard = none) (ty : TypeId) (x y : Operand) (ho : o.op = .store ty x y) (g : Nat) (ds : List Value) {cs : List Value} (hb : CBlk g ty cs w) (hl : ds.length = cs.length)
  (hx : a.eval x = .pointer (some ⟨g, 0, none⟩)) (hy : a.eval y = .agg ds.toArray) (hi : (P.info? ty).map (·.size) = some ds.toArray.size) (h1 : ds.all (·.oneCell') = true)
  (h : ∀ w9, CBlk g ty ds w9 → w.setCells g 0 ds = w9 → wpList P ops Q rest (a.put o.dst undef) w9) : wpList P ops Q (o :: rest) a w :=
 wpList_store_mid hgd ty x y ho g 0 ds.toArray hx hy (hb.there (by simp [hl])) hi (all_oneCell_toArray (List.all_eq_true.1 h1)) (h _ (hb.put ds hl) rfl)
theorem cblk_tstore {K : Act → World → Prop} (ty : TypeId) (x y : Operand) (ho : o.op = .store ty x y) (g : Nat) (ds : List Value) {cs : List Value} (hb : CBlk g ty cs w) (hl : ds.length = cs.length)
  (hx : a.eval x = .pointer (some ⟨g, 0, none⟩)) (hy : a.eval y = .agg ds.toArray) (hi : (P.info? ty).map (·.size) = some ds.toArray.size) (h1 : ds.all (·.oneCell') = true)
  (h : ∀ w9, CBlk g ty ds w9 → w.setCells g 0 ds = w9 → K (a.put o.dst undef) w9) : Sched.tq P o a w K := by
 unfold Sched.tq execOp
 simp only [ho, hx, hy, Instr.storeAt, Instr.sureAddr, Sem.run_bind, Sem.run_pure, Result.andThen_ok, run_storeVar_mid w g 0 ty ds.toArray (hb.there (by simp [hl])) hi (all_oneCell_toArray (List.all_eq_true.1 h1))]
 exact h _ (hb.put ds hl) rfl
end
theorem rng_load {P : Program} {ops : Array Oper} {rest : List Oper} {o : Oper} {a : Act} {w : World} {Q : Exit → Act → World → Prop} (hw : Region.wanted o (yielded ops a.tmps) = true) (ty : TypeId) (x : Operand) (ho : o.op = .load ty x)
  (b off : Nat) (hx : a.eval x = .pointer (some ⟨b, off, none⟩)) (cs : List Value) {d : TypeDesc} (hc : w.rangeAt b off cs) (hu : P.underlying ty = some d) (hd : d.isRow = true) (hi : (P.info? ty).map (·.size) = some cs.length)
  (h : wpList P ops Q rest (a.put o.dst (.agg cs.toArray)) w) : wpList P ops Q (o :: rest) a w := by
 unfold wpList
 rw [if_pos hw]
 left
 exact wp_load_mid ty x ho b off hx cs d hc hu hd hi h
theorem rng_gq {P : Program} {b off : Nat} {cs : List Value} {w : World} (hc : w.rangeAt b off cs) {o : Oper} {a : Act} {late : Bool} (ty : TypeId) (x : Operand) (ho : o.op = .load ty x) (hx : a.eval x = .pointer (some ⟨b, off, none⟩))
  {d : TypeDesc} (hu : P.underlying ty = some d) (hd : d.isRow = true) (hi : (P.info? ty).map (·.size) = some cs.length) : Sched.gq P o a w (.agg cs.toArray) late := by
 unfold Sched.gq execOp
 simp only [ho, hx, Instr.loadAt, Instr.sureAddr, Sem.run_bind, Sem.run_pure, Result.andThen_ok, run_loadVar_mid w b off ty cs d hc hu hd hi]
 exact ⟨trivial, trivial⟩
theorem CBlk.rng {g : Nat} {t : TypeId} {cs : List Value} {w : World} (hb : CBlk g t cs w) (o : Nat) (ds : List Value) (h : ∀ j v, ds[j]? = some v → cs[o + j]? = some v) : w.rangeAt g o ds := fun j v hv => hb.at (o + j) (h j v hv)
theorem range_gr {w w' : World} {b o : Nat} {cs : List Value} (h : w.rangeAt b o cs) (hg : Gr w w') : w'.rangeAt b o cs := fun j v hv => hg.cell (h j v hv)
theorem results_c1 {P : Program} {fn : Func} {p u : Tmp} {ty : TypeId} (h : fn.results = #[.cell p ty, .tmp u]) (tmps : Array Value) (w : World) (g : Nat) (cs : List Value) (d : TypeDesc)
  (hp : tmps.getD p undef = .pointer (some ⟨g, 0, none⟩)) (hg : CBlk g ty cs w)
  (hu : P.underlying ty = some d) (hd : (match d with | .struct _ | .array _ _ => true | _ => false) = true) (hi : (P.info? ty).map (·.size) = some cs.toArray.size) :
  (results fn tmps).run P w = .ok (.tuple #[.agg cs.toArray, tmps.getD u undef]) w := by
 have hp' : tmps[p]?.getD undef = .pointer (some ⟨g, 0, none⟩) := by simpa using hp
 simp [results, h, hp', asAddr, run_loadVar_row w g ty ty cs.toArray (0, 0) d hg hu hd hi]
theorem results_c2 {P : Program} {fn : Func} {p u v : Tmp} {ty : TypeId} (h : fn.results = #[.cell p ty, .tmp u, .tmp v]) (tmps : Array Value) (w : World) (g : Nat) (cs : List Value) (d : TypeDesc)
  (hp : tmps.getD p undef = .pointer (some ⟨g, 0, none⟩)) (hg : CBlk g ty cs w)
  (hu : P.underlying ty = some d) (hd : (match d with | .struct _ | .array _ _ => true | _ => false) = true) (hi : (P.info? ty).map (·.size) = some cs.toArray.size) :
  (results fn tmps).run P w = .ok (.tuple #[.agg cs.toArray, tmps.getD u undef, tmps.getD v undef]) w := by
 have hp' : tmps[p]?.getD undef = .pointer (some ⟨g, 0, none⟩) := by simpa using hp
 simp [results, h, hp', asAddr, run_loadVar_row w g ty ty cs.toArray (0, 0) d hg hu hd hi]
theorem results_c0 {P : Program} {fn : Func} {p : Tmp} {ty : TypeId} (h : fn.results = #[.cell p ty]) (tmps : Array Value) (w : World) (g : Nat) (cs : List Value) (d : TypeDesc)
  (hp : tmps.getD p undef = .pointer (some ⟨g, 0, none⟩)) (hg : CBlk g ty cs w)
  (hu : P.underlying ty = some d) (hd : (match d with | .struct _ | .array _ _ => true | _ => false) = true) (hi : (P.info? ty).map (·.size) = some cs.toArray.size) :
  (results fn tmps).run P w = .ok (.agg cs.toArray) w := by
 have hp' : tmps[p]?.getD undef = .pointer (some ⟨g, 0, none⟩) := by simpa using hp
 simp [results, h, hp', asAddr, run_loadVar_row w g ty ty cs.toArray (0, 0) d hg hu hd hi]
end Go.Proofs.YtlnkofpcidngoaaDoor
/- Plain arithmetic of Go's int: masks, shifts and wraps. No program in sight. -/
namespace Go.Proofs.YtlnkofpcidngoaaDoor
open Go.RowKit
theorem ret_i64 {a b : Int} (h : a = b) : Ending.returned (.int .i64 a) = .returned (.int .i64 b) := by rw [h]
theorem ret_bool {a b : Bool} (h : a = b) : Ending.returned (.bool a) = .returned (.bool b) := by rw [h]
theorem two_pow_pos (k : Nat) : (0 : Int) < 2 ^ k := Int.pow_pos (by omega)
theorem two_pow_le {j k : Nat} (h : j ≤ k) : (2 : Int) ^ j ≤ 2 ^ k := by
 have := Nat.pow_le_pow_right (show 0 < 2 by omega) h
 exact_mod_cast this
theorem two_pow_62 {k : Nat} (h : k ≤ 62) : (2 : Int) ^ k ≤ 4611686018427387904 := by
 have := two_pow_le h; simpa using this
theorem wrap_pow {k : Nat} (h : k ≤ 62) : wrap64 (2 ^ k) = 2 ^ k := by
 have h1 := two_pow_62 h; have h2 := two_pow_pos k
 generalize (2 : Int) ^ k = x at *
 unfold wrap64; omega
theorem wrap_pow1 {k : Nat} (h : k ≤ 62) : wrap64 (wrap64 (2 ^ k) - 1) = 2 ^ k - 1 := by
 rw [wrap_pow h]
 have h1 := two_pow_62 h; have h2 := two_pow_pos k
 generalize (2 : Int) ^ k = x at *
 unfold wrap64; omega
theorem ofInt_toNat (x : Int) : ((BitVec.ofInt 64 x).toNat : Int) = x % 18446744073709551616 := by
 rw [BitVec.toNat_ofInt]
 have := Int.emod_nonneg x (show (18446744073709551616 : Int) ≠ 0 by decide)
 simp
 omega
theorem and_mask (x : Int) {k : Nat} (h : k ≤ 62) : bits .and .i64 x (2 ^ k - 1) = x % 2 ^ k := by
 have h1 := two_pow_62 h; have h2 := two_pow_pos k
 show IntKind.i64.wrap (((BitVec.ofInt 64 x) &&& (BitVec.ofInt 64 (2 ^ k - 1))).toNat : Int) = _
 rw [BitVec.toNat_and]
 have e : (BitVec.ofInt 64 ((2 : Int) ^ k - 1)).toNat = 2 ^ k - 1 := by
  have := ofInt_toNat ((2 : Int) ^ k - 1)
  rw [Int.emod_eq_of_lt (by omega) (by omega)] at this
  have h3 : ((2 ^ k - 1 : Nat) : Int) = (2 : Int) ^ k - 1 := by
   have : 1 ≤ 2 ^ k := Nat.one_le_two_pow
   rw [Int.ofNat_sub this]; push_cast; rfl
  omega
 rw [e, Nat.and_two_pow_sub_one_eq_mod]
 have h4 : (((BitVec.ofInt 64 x).toNat % 2 ^ k : Nat) : Int) = x % 2 ^ k := by
  rw [Int.natCast_emod, ofInt_toNat]
  have hd : ((2 ^ k : Nat) : Int) ∣ 18446744073709551616 := by
   refine ⟨((2 ^ (64 - k) : Nat) : Int), ?_⟩
   have : 18446744073709551616 = 2 ^ k * 2 ^ (64 - k) := by
    rw [← Nat.pow_add, show k + (64 - k) = 64 from by omega]
   rw [← Int.natCast_mul, ← this]; rfl
  rw [Int.emod_emod_of_dvd _ hd, show ((2 ^ k : Nat) : Int) = 2 ^ k from by push_cast; rfl]
 rw [h4]
 have h5 := Int.emod_nonneg x (show (2 : Int) ^ k ≠ 0 by omega)
 have h6 := Int.emod_lt_of_pos x h2
 exact IntWalk.i64_in _ ⟨by omega, by omega⟩
theorem nn_toNat {x : Int} (h0 : 0 ≤ x) (h1 : x < 9223372036854775808) : (BitVec.ofInt 64 x).toNat = x.toNat := by
 have := ofInt_toNat x
 rw [Int.emod_eq_of_lt h0 (by omega)] at this; omega
theorem xor_nn {x y : Int} (hx : 0 ≤ x) (hx1 : x < 9223372036854775808) (hy : 0 ≤ y) (hy1 : y < 9223372036854775808) : bits .xor .i64 x y = ((x.toNat ^^^ y.toNat : Nat) : Int) := by
 show IntKind.i64.wrap (((BitVec.ofInt 64 x) ^^^ (BitVec.ofInt 64 y)).toNat : Int) = _
 rw [BitVec.toNat_xor, nn_toNat hx hx1, nn_toNat hy hy1]
 have : x.toNat ^^^ y.toNat < 2 ^ 63 := Nat.xor_lt_two_pow (by omega) (by omega)
 exact IntWalk.i64_in _ ⟨by omega, by omega⟩
end Go.Proofs.YtlnkofpcidngoaaDoor
/- Contracts of the small functions over numbers: Mod, serial, and their references. -/
namespace Go.Proofs.YtlnkofpcidngoaaDoor
open Go.ChangeShapes Go.WideShapes Go.ChangeAt Go.RowKit
/-! ### Mod -/
def modF (n m : Int) : Int := if m < 1 then 0 else n % m
theorem modF_lo (n m : Int) : 0 ≤ modF n m := by
 unfold modF; split
 ·omega
 ·exact Int.emod_nonneg _ (by omega)
theorem modF_hi (n m : Int) (h : 1 ≤ m) : modF n m < m := by
 unfold modF; rw [if_neg (by omega)]
 exact Int.emod_lt_of_pos _ (by omega)
theorem tmod_cases (n m : Int) (h : 1 ≤ m) : (n.tmod m < 0 → n % m = n.tmod m + m) ∧ (0 ≤ n.tmod m → n % m = n.tmod m) ∧ -m < n.tmod m ∧ n.tmod m < m := by
 have e := Int.tmod_eq_emod (a := n) (b := m)
 have h1 := Int.emod_nonneg n (show m ≠ 0 by omega)
 have h2 := Int.emod_lt_of_pos n (show 0 < m by omega)
 split at e
 ·rw [e]; refine ⟨fun h => ?_, fun h => ?_, ?_, ?_⟩ <;> omega
 ·rename_i hd
  have : n % m ≠ 0 := fun h0 => hd (.inr (Int.dvd_of_emod_eq_zero h0))
  rw [e]; refine ⟨fun h => ?_, fun h => ?_, ?_, ?_⟩ <;> omega
set_option maxRecDepth 20000 in
set_option maxHeartbeats 2000000 in
theorem mod_any (n m : Int) (w : World) (hm : m ≤ 9223372036854775807) :
  Calls Tryd.prog 19 #[.int .i64 n, .int .i64 m] w fun e w' => e = .returned (.int .i64 (modF n m)) ∧ w = w' := by
 by_cases h : m < 1
 ·go_enter Tryd.func19, Tryd.ntmps19
  go_wp2
  go_ret
  exact ⟨ret_i64 (by unfold modF; rw [if_pos h]), rfl⟩
 ·have hc := tmod_cases n m (by omega)
  obtain ⟨h1, h2, h3, h4⟩ := hc
  have H1 := zqd h1
  have H2 := zqd h2
  clear h1 h2
  go_enter Tryd.func19, Tryd.ntmps19
  go_wp2
  ·go_ret
   exact ⟨ret_i64 (by unfold modF; rw [if_neg (by omega), H1.out (by assumption)]), rfl⟩
  ·go_ret
   exact ⟨ret_i64 (by unfold modF; rw [if_neg (by omega), H2.out (by assumption)]), rfl⟩
/-! ### The plain functions of serial -/
abbrev i64 (n : Int) : Prop := -9223372036854775808 ≤ n ∧ n ≤ 9223372036854775807
def vld (n : Int) : Bool := decide (1 ≤ n ∧ n ≤ 32)
def lowS (n x : Int) : Int := if vld n then x % 2 ^ n.toNat else -1
def distS (n a b : Int) : Int := if vld n then (b - a) % 2 ^ n.toNat else -1
def signedS (n a b : Int) : Int := if vld n then (if 2 ^ (n.toNat - 1) ≤ distS n a b then distS n a b - 2 ^ n.toNat else distS n a b) else 0
theorem vld_yes {n : Int} (h : vld n = true) : 1 ≤ n ∧ n ≤ 32 := by simpa [vld] using h
theorem vld_mk {n : Int} (h1 : 1 ≤ n) (h2 : n ≤ 32) : vld n = true := by simp [vld, h1, h2]
/-! ### serial -/
set_option maxRecDepth 20000 in
set_option maxHeartbeats 2000000 in
theorem svalid (n : Int) (w : World) :
   Calls Tryd.prog 104 #[.int .i64 n] w fun e w' => e = .returned (.bool (vld n)) ∧ w = w' := by
 go_enter Tryd.func104, Tryd.ntmps104
 go_wp2
 · go_ret
   exact ⟨ret_bool (by have : 1 ≤ n := by assumption
                       simp [vld, this]), rfl⟩
 · go_ret
   exact ⟨ret_bool (by have : n < 1 := by assumption
                       simp [vld]; omega), rfl⟩
set_option maxRecDepth 20000 in
set_option maxHeartbeats 2000000 in
theorem slow (n x : Int) (w : World) :
  Calls Tryd.prog 99 #[.int .i64 n, .int .i64 x] w fun e w' => e = .returned (.int .i64 (lowS n x)) ∧ w = w' := by
 cases hv : vld n
 ·have H := zqd hv
  go_enter Tryd.func99, Tryd.ntmps99
  go_wp2_with ((go_at_call 104; refine (svalid _ _).mono ?_; rintro e w' ⟨rfl, rfl⟩))
  go_ret
  exact ⟨ret_i64 (by simp [lowS, H.out]), rfl⟩
 ·have H := zqd hv
  obtain ⟨h1, h2⟩ := vld_yes hv
  go_enter Tryd.func99, Tryd.ntmps99
  go_wp2_with ((go_at_call 104; refine (svalid _ _).mono ?_; rintro e w' ⟨rfl, rfl⟩))
  go_ret
  exact ⟨ret_i64 (by rw [wrap_pow1 (by omega), and_mask _ (by omega)]; simp [lowS, H.out]), rfl⟩
theorem dist_rng (n a b : Int) (h1 : 1 ≤ n) (h2 : n ≤ 32) : 0 ≤ distS n a b ∧ distS n a b < 2 ^ n.toNat := by
 have hp := two_pow_pos n.toNat
 unfold distS; rw [if_pos (vld_mk h1 h2)]
 exact ⟨Int.emod_nonneg _ (by omega), Int.emod_lt_of_pos _ hp⟩
theorem wrap_dist (n a b : Int) (h1 : 1 ≤ n) (h2 : n ≤ 32) : wrap64 (distS n a b - wrap64 (2 ^ n.toNat)) = distS n a b - 2 ^ n.toNat := by
 obtain ⟨h3, h4⟩ := dist_rng n a b h1 h2
 have h5 := two_pow_62 (show n.toNat ≤ 62 by omega)
 rw [wrap_pow (by omega)]
 generalize (2 : Int) ^ n.toNat = p at *
 unfold wrap64; omega
theorem signed_rng (n a b : Int) : -4294967296 ≤ signedS n a b ∧ signedS n a b ≤ 4294967296 := by
 unfold signedS
 split
 ·rename_i hv
  obtain ⟨h1, h2⟩ := vld_yes hv
  obtain ⟨h3, h4⟩ := dist_rng n a b h1 h2
  have h5 : (2 : Int) ^ n.toNat ≤ 2 ^ 32 := two_pow_le (by omega)
  have h6 : (2 : Int) ^ 32 = 4294967296 := by rfl
  have h7 := two_pow_pos n.toNat
  split <;> omega
 ·omega
/-! ### the reference of serial -/
set_option maxRecDepth 20000 in
set_option maxHeartbeats 2000000 in
theorem rvalid (n : Int) (w : World) :
   Calls Tryd.prog 58 #[.int .i64 n] w fun e w' => e = .returned (.bool (vld n)) ∧ w = w' := by
 go_enter Tryd.func58, Tryd.ntmps58
 go_wp2
 · go_ret
   exact ⟨ret_bool (by have : 1 ≤ n := by assumption
                       simp [vld, this]), rfl⟩
 · go_ret
   exact ⟨ret_bool (by have : n < 1 := by assumption
                       simp [vld]; omega), rfl⟩
set_option maxRecDepth 20000 in
set_option maxHeartbeats 2000000 in
theorem rlow (n x : Int) (w : World) :
  Calls Tryd.prog 43 #[.int .i64 n, .int .i64 x] w fun e w' => e = .returned (.int .i64 (lowS n x)) ∧ w = w' := by
 cases hv : vld n
 ·have H := zqd hv
  go_enter Tryd.func43, Tryd.ntmps43
  go_wp2_with ((go_at_call 58; refine (rvalid _ _).mono ?_; rintro e w' ⟨rfl, rfl⟩))
  go_ret
  exact ⟨ret_i64 (by simp [lowS, H.out]), rfl⟩
 ·have H := zqd hv
  obtain ⟨h1, h2⟩ := vld_yes hv
  go_enter Tryd.func43, Tryd.ntmps43
  go_wp2_with ((go_at_call 58; refine (rvalid _ _).mono ?_; rintro e w' ⟨rfl, rfl⟩))
  go_ret
  exact ⟨ret_i64 (by rw [wrap_pow1 (by omega), and_mask _ (by omega)]; simp [lowS, H.out]), rfl⟩
theorem lowS_rng (n x : Int) : -1 ≤ lowS n x ∧ lowS n x < 4294967296 := by
 unfold lowS; split
 ·rename_i h; obtain ⟨h1, h2⟩ := vld_yes h
  have hp := two_pow_pos n.toNat
  have := Int.emod_nonneg x (show (2 : Int) ^ n.toNat ≠ 0 by omega)
  have := Int.emod_lt_of_pos x hp
  have h5 : (2 : Int) ^ n.toNat ≤ 2 ^ 32 := two_pow_le (by omega)
  have h6 : (2 : Int) ^ 32 = 4294967296 := by rfl
  omega
 ·omega
theorem low_dist (n a b : Int) (hv : vld n = true) : (lowS n b - lowS n a) % 2 ^ n.toNat = distS n a b := by
 simp only [lowS, distS, hv, if_true]
 rw [← Int.emod_emod_of_dvd _ (Int.dvd_refl _), ← Int.sub_emod]
 exact Int.emod_emod_of_dvd _ (Int.dvd_refl _)
set_option maxRecDepth 20000 in
set_option maxHeartbeats 2000000 in
theorem rdist (n a b : Int) (w : World) :
  Calls Tryd.prog 59 #[.int .i64 n, .int .i64 a, .int .i64 b] w fun e w' => e = .returned (.int .i64 (distS n a b)) ∧ w = w' := by
 have hr1 := lowS_rng n a
 have hr2 := lowS_rng n b
 cases hv : vld n
 ·have H := zqd hv
  go_enter Tryd.func59, Tryd.ntmps59
  go_wp2_with (first | ((go_at_call 58; refine (rvalid _ _).mono ?_; rintro e w' ⟨rfl, rfl⟩)) | ((go_at_call 43; refine (rlow _ _ _).mono ?_; rintro e w' ⟨rfl, rfl⟩)))
  go_ret
  exact ⟨ret_i64 (by simp [distS, H.out]), rfl⟩
 ·have H := zqd hv
  obtain ⟨h1, h2⟩ := vld_yes hv
  go_enter Tryd.func59, Tryd.ntmps59
  go_wp2_with (first | ((go_at_call 58; refine (rvalid _ _).mono ?_; rintro e w' ⟨rfl, rfl⟩)) | ((go_at_call 43; refine (rlow _ _ _).mono ?_; rintro e w' ⟨rfl, rfl⟩)))
  go_ret
  exact ⟨ret_i64 (by rw [wrap_pow1 (by omega), and_mask _ (by omega), low_dist n a b H.out]), rfl⟩
set_option maxRecDepth 20000 in
set_option maxHeartbeats 2000000 in
theorem rsigned (n a b : Int) (w : World) :
  Calls Tryd.prog 36 #[.int .i64 n, .int .i64 a, .int .i64 b] w fun e w' => e = .returned (.int .i64 (signedS n a b)) ∧ w = w' := by
 cases hv : vld n
 ·have H := zqd hv
  go_enter Tryd.func36, Tryd.ntmps36
  go_wp2_with (first | ((go_at_call 58; refine (rvalid _ _).mono ?_; rintro e w' ⟨rfl, rfl⟩)) | ((go_at_call 59; refine (rdist _ _ _ _).mono ?_; rintro e w' ⟨rfl, rfl⟩)))
  go_ret
  exact ⟨ret_i64 (by simp [signedS, H.out]), rfl⟩
 ·have H := zqd hv
  obtain ⟨h1, h2⟩ := vld_yes hv
  have hw := wrap_pow (show n.toNat - 1 ≤ 62 by omega)
  go_enter Tryd.func36, Tryd.ntmps36
  go_wp2_with (first | ((go_at_call 58; refine (rvalid _ _).mono ?_; rintro e w' ⟨rfl, rfl⟩)) | ((go_at_call 59; refine (rdist _ _ _ _).mono ?_; rintro e w' ⟨rfl, rfl⟩)))
  ·go_ret
   have h3 : 2 ^ (n.toNat - 1) ≤ distS n a b := by assumption
   exact ⟨ret_i64 (by rw [wrap_dist n a b h1 h2]; simp [signedS, H.out, h3]), rfl⟩
  ·go_ret
   have h3 : distS n a b < 2 ^ (n.toNat - 1) := by assumption
   exact ⟨ret_i64 (by simp [signedS, H.out, Int.not_le.2 h3]), rfl⟩
end Go.Proofs.YtlnkofpcidngoaaDoor
/- Arguments that are structs of integers, and arrays of them, opened to their cells. -/
namespace Go.Proofs.YtlnkofpcidngoaaDoor
open Go.ChangeShapes Go.WideShapes Go.ChangeAt Go.RowKit Go.Deep
section
variable {H : Type} {enc : TypeId × Value → H} {P : Program}
def ints_ok (cs : List Value) : Prop := ∀ c ∈ cs, ∃ x : Int, c = .int .i64 x ∧ -9223372036854775808 ≤ x ∧ x ≤ 9223372036854775807
theorem ints_list {cs : List Value} (h : ints_ok cs) : ∃ xs : List Int, xs.length = cs.length ∧ cs = xs.map (Value.int .i64) ∧ ∀ x ∈ xs, -9223372036854775808 ≤ x ∧ x ≤ 9223372036854775807 := by
 induction cs with
 | nil => exact ⟨[], rfl, rfl, by simp⟩
 | cons c cs ih =>
  obtain ⟨x, rfl, hx⟩ := h c (by simp)
  obtain ⟨xs, h1, h2, h3⟩ := ih (fun d hd => h d (by simp [hd]))
  refine ⟨x :: xs, by simp [h1], by simp [← h2], fun y hy => ?_⟩
  rcases List.mem_cons.1 hy with rfl | hy
  ·exact hx
  ·exact h3 y hy
theorem struct_ints {W : World} {base : Nat} {sp : Nat → Bool} {held : Bool} {t e : TypeId} {fs : Array Field} (hs : P.underlying t = some (.struct fs)) (hone : oneCellFields P fs = true) (hall : (fs.all fun f => f.type == e) = true) (he : P.underlying e = some (.int .i64))
  {fuel : Nat} {cs : List Value} {x : DataW H × List MemPlace} (hl : cs.length = fs.size) (h : DataW.trod enc P W base sp held fuel t cs = some x) : ints_ok cs := by
 obtain ⟨ys, n', hn', hy, hlen, hyl, hf⟩ := DataW.trod_struct hs h
 intro c hc
 obtain ⟨j, hj, rfl⟩ := List.getElem_of_mem hc
 have hfj : fs[j]? = some (fs[j]'(by omega)) := Array.getElem?_eq_getElem _
 obtain ⟨ho, hk⟩ := hone_of hone j _ hfj
 have h1 := hf j _ hfj
 rw [ho, hk] at h1
 have hone' : (cs.drop j).take 1 = [cs[j]] := by
  rw [List.drop_eq_getElem_cons hj]; rfl
 rw [hone'] at h1
 have hty : (fs[j]'(by omega)).type = e := by
  have := Array.all_eq_true.1 hall j (by omega)
  simpa using this
 rw [hty, List.getElem?_eq_getElem (by omega)] at h1
 obtain ⟨y, hy1, _, wy⟩ := DataW.trod_int he h1
 simp at hy1
 exact ⟨y, hy1, bounds_i64 wy⟩
theorem open_struct {W : World} {r : Reach} {base b1 : Nat} {sp : Nat → Bool} {held : Bool} {t e : TypeId} {fs : Array Field} {v : Value} {d : DataW H} {p : List MemPlace} (hs : P.underlying t = some (.struct fs)) (hone : oneCellFields P fs = true) (hall : (fs.all fun f => f.type == e) = true) (he : P.underlying e = some (.int .i64)) (hC : P.cellsOf t = fs.size)
  (hv : Value.okWide P W r base t v) (h : DataW.Trod enc P W b1 sp held t v d p) :
  ∃ xs : List Int, xs.length = fs.size ∧ v = .agg (xs.map (Value.int .i64)).toArray ∧ ∀ x ∈ xs, -9223372036854775808 ≤ x ∧ x ≤ 9223372036854775807 := by
 obtain ⟨cs, rfl, hsz⟩ := okWide_struct hs hv
 obtain ⟨fuel, hf⟩ := h
 have hl : (Value.agg cs).cells.toList.length = fs.size := by
  show cs.toList.length = _
  rw [Array.length_toList, hsz, hC]
 obtain ⟨xs, h1, h2, h3⟩ := ints_list (struct_ints hs hone hall he hl hf)
 refine ⟨xs, by rw [h1, hl], ?_, h3⟩
 rw [← h2]
 show Value.agg cs = Value.agg cs.toList.toArray
 simp
end
end Go.Proofs.YtlnkofpcidngoaaDoor
