/- Several texts in one. -/
import Derived.Test.YtlnkofpcidngoaaDoorA0
import Derived.Test.YtlnkofpcidngoaaDoorA33
import Derived.Test.YtlnkofpcidngoaaDoorA11
import Derived.Test.YtlnkofpcidngoaaDoorA36
import Derived.Test.YtlnkofpcidngoaaDoorA12
import Derived.Test.YtlnkofpcidngoaaDoorA38
import Derived.Test.YtlnkofpcidngoaaDoorA22
import Derived.Test.YtlnkofpcidngoaaDoorA15
import Derived.Laws.MakeOwn
import Derived.Test.YtlnkofpcidngoaaDoorA28
import Derived.Test.YtlnkofpcidngoaaDoorA29
import Derived.Test.YtlnkofpcidngoaaDoorA32
import Derived.Test.YtlnkofpcidngoaaDoorA27
/- Dice: Some; rows of byte slices that are owned. -/
namespace Go.Proofs.YtlnkofpcidngoaaDoor
open Go.ChangeShapes Go.WideShapes Go.ChangeAt Go.RowKit
def SomePost (p : Nat) (w : World) (e : Ending) (w' : World) : Prop := ∃ a n cap xs, e = .returned (.slice a n cap) ∧ 1 ≤ n ∧ n ≤ 40 ∧ n ≤ cap ∧ DieB w p a n cap xs w'
set_option maxRecDepth 20000 in
set_option maxHeartbeats 1000000 in
theorem some_any (p : Nat) (w : World) (hd : Die w p) : Calls Tryd.prog 31 #[.pointer (some ⟨p, 0, none⟩), .int .i64 40] w (SomePost p w) := by
 have hplt := hd.lt
 have HD := zqd hd
 clear hd
 go_enter Tryd.func31, Tryd.ntmps31
 go_wp2_with fail
 refine (next_any p 256 _ HD.out (by omega) (by omega)).mono ?_
 rintro e w1 ⟨v, rfl, v0, v1, hd1, hg1⟩
 obtain ⟨w2, hw2⟩ : ∃ w2, w2 = w1.alloc (.cells #[.int .u8 v] 5) := ⟨_, rfl⟩
 have hsz := hg1.size
 have ho2 : OwnI w.heap.size 5 .u8 w2 (some ⟨w1.heap.size, 0, none⟩) 1 1 [v] := by
  rw [hw2]
  exact own_lit w.heap.size w1 [v] 1 hsz rfl (by omega) (by intro y hy; simp only [List.mem_singleton] at hy; subst hy; omega)
 have hgr : Gr w1 w2 := by rw [hw2]; exact Gr.alloc _ _
 have HD2 := zqd (hd1.kept hgr (by simp))
 have HO2 := zqd ho2
 have HG2 := zqd (show w.grownBy w2 (some p) from grown_trans' hg1 (grown_weak hgr _))
 have hl2 : w1.heap.size < w2.heap.size := by rw [hw2]; simp
 clear hd1 hg1 ho2 hgr
 go_wp2_with (first | rw [← hw2])
 clear hw2
 refine (bytes_any p 39 39 w2 rfl HD2.out (by omega)).mono ?_
 rintro e w3 ⟨a3, n3, c3, xs3, rfl, hn3, hdb⟩
 have ho3 := HO2.out.kept hdb.2.2.1 (by right; simp [Value.ownBlock]; omega)
 have hs3 := hdb.2.2.1.size
 obtain ⟨a4, c4, w4, hrun, ho4, hg4, _⟩ := app_u8 w.heap.size w3 _ 1 1 [v] ho3 a3 n3 c3 xs3 hdb.2.1.rd (by omega) (by omega)
 have HRUN := zqd hrun
 have HO4 := zqd ho4
 have HD4 := zqd (hdb.1.kept hg4 (fun g e => by simp [Value.ownBlock] at e; omega))
 have HG4 := zqd (show w.grownBy w4 (some p) from grownBy_trans (grown_trans' HG2.out hdb.2.2.1) hg4 (.inr (.inr ⟨w1.heap.size, rfl, hsz⟩)))
 clear ho3 hrun ho4 hg4 hdb
 go_wp2_with (at_builtin; refine wpList_app rfl _ _ _ rfl rfl rfl HRUN.out ?_)
 go_ret
 exact ⟨a4, _, c4, _, rfl, by omega, by omega, (own_capG HO4.out.row).1, HD4.out, HO4.out, HG4.out, hplt⟩
/-! ### rows of byte slices -/
structure Pk where
 a : Option Addr
 n : Nat
 c : Nat
abbrev pkv (s : Pk) : Value := .slice s.a s.n s.c
def PkOk (s : Pk) : Prop := 1 ≤ s.n ∧ s.n ≤ 1500 ∧ s.n ≤ s.c
def RdP (B : Nat) (w : World) (a : Option Addr) (n : Nat) (ss : List Pk) : Prop := ss.length = n ∧ Seg w a (ss.map pkv) ∧ (∀ b off, a = some ⟨b, off, none⟩ → B ≤ b) ∧ ∀ s ∈ ss, PkOk s ∧ (∃ xs, Rd .u8 w s.a s.n xs) ∧ ∀ b off, s.a = some ⟨b, off, none⟩ → B ≤ b
theorem RdP.kept {B n : Nat} {w w' : World} {a : Option Addr} {ss : List Pk} (h : RdP B w a n ss) (hg : Gr w w') : RdP B w' a n ss :=
 ⟨h.1, seg_kept h.2.1 hg, h.2.2.1, fun s hs => ⟨(h.2.2.2 s hs).1, (let ⟨xs, hx⟩ := (h.2.2.2 s hs).2.1; ⟨xs, hx.kept hg⟩), (h.2.2.2 s hs).2.2⟩⟩
theorem RdP.but {B n g : Nat} {w w' : World} {a : Option Addr} {ss : List Pk} (h : RdP B w a n ss) (hg : w.grownBy w' (some g)) (hB : g < B) : RdP B w' a n ss := by
 refine ⟨h.1, seg_but h.2.1 hg (fun b off _ e => by have := h.2.2.1 b off e; intro e2; injection e2 with e2; omega), h.2.2.1, fun s hs => ?_⟩
 obtain ⟨h1, ⟨xs, hx⟩, h3⟩ := h.2.2.2 s hs
 exact ⟨h1, ⟨xs, rd_keptBut hx hg (fun b off _ e => by have := h3 b off e; intro e2; injection e2 with e2; omega)⟩, h3⟩
theorem RdP.at {B n : Nat} {w : World} {a : Option Addr} {ss : List Pk} (h : RdP B w a n ss) {i : Nat} (hi : i < n) : ∃ b off s, a = some ⟨b, off, none⟩ ∧ ss[i]? = some s ∧ w.cell? ⟨b, off + i, none⟩ = some (pkv s) ∧ PkOk s ∧ ∃ xs, Rd .u8 w s.a s.n xs := by
 obtain ⟨h1, h2, h3, h4⟩ := h
 have hil : i < ss.length := by omega
 rcases h2 with h2 | ⟨b, off, rfl, hb, hc⟩
 ·have : ss.length = 0 := by simpa using congrArg List.length h2
  omega
 ·have hs : ss[i]? = some ss[i] := List.getElem?_eq_getElem hil
  obtain ⟨q1, q2, q3⟩ := h4 ss[i] (List.getElem_mem hil)
  refine ⟨b, off, ss[i], rfl, hs, ?_, q1, q2⟩
  have := hc i (by simpa using hil)
  rw [this]
  simp [hil]
def RowP (B gL : Nat) (w : World) (a : Option Addr) (n c : Nat) (ss : List Pk) : Prop :=
 w.ownsRow B 39 1 (.slice a n c) n (ss.map pkv) ∧ (∀ b, ownB a n c = some b → b ≠ gL) ∧ ∀ s ∈ ss, PkOk s ∧ (∃ xs, Rd .u8 w s.a s.n xs) ∧ ∀ b off, s.a = some ⟨b, off, none⟩ → B ≤ b ∧ b ≠ gL ∧ ownB a n c ≠ some b
theorem RowP.nil (B gL : Nat) (w : World) : RowP B gL w none 0 0 [] := ⟨World.ownsRow_nil w B _ 1, by simp [ownB, Value.ownBlock], by simp⟩
theorem RowP.gr {B gL n c : Nat} {w w' : World} {a : Option Addr} {ss : List Pk} (h : RowP B gL w a n c ss) (hg : Gr w w') : RowP B gL w' a n c ss :=
 ⟨own_stayG h.1 hg, h.2.1, fun s hs => ⟨(h.2.2 s hs).1, (let ⟨xs, hx⟩ := (h.2.2 s hs).2.1; ⟨xs, hx.kept hg⟩), (h.2.2 s hs).2.2⟩⟩
theorem RowP.but {B gL n c g : Nat} {w w' : World} {a : Option Addr} {ss : List Pk} (h : RowP B gL w a n c ss) (hg : w.grownBy w' (some g)) (hB : g < B ∨ g = gL) : RowP B gL w' a n c ss := by
 refine ⟨h.1.kept hg ?_, h.2.1, fun s hs => ?_⟩
 ·cases hv : (Value.slice a n c).ownBlock with
  | none => exact .inl rfl
  | some b =>
   right
   intro e
   injection e with e
   have h1 := (h.1.lt b hv).1
   have h2 := h.2.1 b hv
   omega
 ·obtain ⟨h1, ⟨xs, hx⟩, h3⟩ := h.2.2 s hs
  exact ⟨h1, ⟨xs, rd_keptBut hx hg (fun b off _ e => by have := h3 b off e; intro e2; injection e2 with e2; omega)⟩, h3⟩
theorem RowP.rd {B gL n c : Nat} {w : World} {a : Option Addr} {ss : List Pk} (h : RowP B gL w a n c ss) : RdP B w a n ss :=
 ⟨by have := h.1.1; simpa using this, own_segG h.1, fun b off e => (own_blockG h.1 e).2.2.1, fun s hs => ⟨(h.2.2 s hs).1, (h.2.2 s hs).2.1, fun b off e => ((h.2.2 s hs).2.2 b off e).1⟩⟩
theorem info_sl2 : (Tryd.prog.info? 39).map (fun i => (i.zero, i.size, i.bytes)) = some (some (.slice none 0 0), 1, 24) := by kernel_rfl
theorem RowP.app {B gL n c : Nat} {w : World} {a : Option Addr} {ss : List Pk} (h : RowP B gL w a n c ss) (s : Pk) (hok : PkOk s) (xs : List Int) (hs : Rd .u8 w s.a s.n xs) (hne : ∀ b off, s.a = some ⟨b, off, none⟩ → B ≤ b ∧ b ≠ gL ∧ ownB a n c ≠ some b)
  (q : Nat) (hq : w.heap[q]? = some (.cells #[pkv s] 39 (0, 0))) (hn : n ≤ 1000) (hB : B ≤ w.heap.size) (hgL : gL < w.heap.size) :
  ∃ a' c' w', (Builtin.append_ #[36, 36] 36 #[.slice a n c, .slice (some ⟨q, 0, none⟩) 1 1]).run Tryd.prog w = .ok (.slice a' (n + 1) c') w' ∧ RowP B gL w' a' (n + 1) c' (ss ++ [s]) ∧ w.grownBy w' (ownB a n c) := by
 have hseg : Seg w (some ⟨q, 0, none⟩) [pkv s] := .inr ⟨q, 0, rfl, heap_lt hq, fun i hi => by rw [Nat.zero_add, cell_of_block hq]; simp⟩
 obtain ⟨i0, hi, hz0, hz1, hz2⟩ := info_parts info_sl2
 obtain ⟨v', w', hr, ho, hg, hf, -⟩ := run_app (P := Tryd.prog) B 36 36 39 i0 (.slice none 0 0) 1 24 Tryd.underlying36 hi hz0 hz1 hz2 rfl (by omega) w _ n _ h.1 (some ⟨q, 0, none⟩) 1 1 [pkv s] rfl hseg (by intro u hu; simp at hu; subst hu; rfl) (by simp) (by simp only [maxLen]; omega) (by omega) hB
 have hv : ∃ a' c', v' = .slice a' (n + 1) c' := by
  rcases ho.2 with ⟨_, h0⟩ | ⟨g, cap', cur, rfl, _⟩
  ·omega
  ·exact ⟨_, _, rfl⟩
 obtain ⟨a', c', rfl⟩ := hv
 have hmem : ∀ t ∈ ss ++ [s], PkOk t ∧ (∃ ys, Rd .u8 w t.a t.n ys) ∧ ∀ b off, t.a = some ⟨b, off, none⟩ → B ≤ b ∧ b ≠ gL ∧ ownB a n c ≠ some b := by
  intro t ht
  rcases List.mem_append.1 ht with ht | ht
  ·exact h.2.2 t ht
  ·simp only [List.mem_singleton] at ht; subst ht
   exact ⟨hok, ⟨xs, hs⟩, hne⟩
 refine ⟨a', c', w', hr, ⟨by simpa using ho, fun b hb => ?_, fun t ht => ?_⟩, hg⟩
 ·rcases hf with hf | ⟨g, hf, hgl⟩
  ·exact h.2.1 b (hf.symm.trans hb)
  ·have h4 : ownB a' (n + 1) c' = some g := hf
   rw [hb] at h4
   injection h4 with h4
   omega
 ·obtain ⟨h1, ⟨ys, hy⟩, h3⟩ := hmem t ht
  refine ⟨h1, ⟨ys, rd_keptBut hy hg (fun b off _ e => fun e2 => (h3 b off e).2.2 e2.symm)⟩, fun b off e => ⟨(h3 b off e).1, (h3 b off e).2.1, fun hb => ?_⟩⟩
  rcases hf with hf | ⟨g, hf, hgl⟩
  ·exact (h3 b off e).2.2 (hf.symm.trans hb)
  ·have h4 : ownB a' (n + 1) c' = some g := hf
   rw [hb] at h4
   injection h4 with h4
   unfold PkOk at h1
   obtain ⟨b9, o9, e9, hb9, _⟩ := hy.some (by omega)
   rw [e] at e9
   injection e9 with e9
   injection e9 with e9
   omega
end Go.Proofs.YtlnkofpcidngoaaDoor
/- Dice: Packets. -/
namespace Go.Proofs.YtlnkofpcidngoaaDoor
open Go.ChangeShapes Go.WideShapes Go.ChangeAt Go.RowKit
def LsRel (p : Nat) (w : World) (v i : Value) (wr : World) : Prop := ∃ (j : Nat) (a : Option Addr) (c : Nat) (hs : List Hdr), j ≤ 2 ∧ v = .slice a j c ∧ i = .int .i64 j ∧ OwnHd w.heap.size wr a j c hs ∧ (∀ x ∈ hs, RngV x) ∧ Die wr p ∧ w.grownBy wr (some p)
def PkRel (p gL c : Nat) (w : World) (v i : Value) (wr : World) : Prop := ∃ (m nl cl : Nat) (al : Option Addr) (ss : List Pk) (hs : List Hdr), m ≤ 40 ∧ i = .int .i64 m ∧ v = .slice al nl cl ∧ nl + 2 * m ≤ 80 ∧ OwnHd w.heap.size wr (some ⟨gL, 0, none⟩) 2 c hs ∧ (∀ x ∈ hs, RngV x) ∧ RowP w.heap.size gL wr al nl cl ss ∧ Die wr p ∧ w.grownBy wr (some p)
def PktsPost (p : Nat) (w : World) (e : Ending) (w' : World) : Prop := ∃ a n c ss, e = .returned (.slice a n c) ∧ n ≤ 80 ∧ RdP w.heap.size w' a n ss ∧ Die w' p ∧ w.grownBy w' (some p)
theorem ownhd_row {B : Nat} {w : World} {g n c : Nat} {hs : List Hdr} (h : OwnHd B w (some ⟨g, 0, none⟩) n c hs) {i : Nat} {x : Hdr} (hx : hs[i]? = some x) : w.rangeAt g (i * 15) (HCells x) := fun j v hv => by
 have h1 := flat_atG hcells_len hs i j x hx (lt_someG hv)
 have h2 := h.cells (g := g) rfl (i * 15 + j) v (by rw [h1]; exact hv)
 rw [addr_add, Nat.zero_add] at h2
 exact h2
theorem ownhd_but {B : Nat} {w w' : World} {g n c q : Nat} {hs : List Hdr} (h : OwnHd B w (some ⟨g, 0, none⟩) n c hs) (hg : w.grownBy w' (some q)) (hq : q ≠ g) : OwnHd B w' (some ⟨g, 0, none⟩) n c hs :=
 h.kept hg (.inr (fun e => hq (Option.some.inj e).symm))
theorem range_but {w w' : World} {b o q : Nat} {cs : List Value} (h : w.rangeAt b o cs) (hb : b < w.heap.size) (hg : w.grownBy w' (some q)) (hq : q ≠ b) : w'.rangeAt b o cs := fun j v hv => by
 have h1 := h j v hv
 unfold World.cell? at h1 ⊢
 rw [hg.block b hb (by intro e; injection e with e; exact hq e.symm)]
 exact h1
theorem owni_cap2 {B : Nat} {e : TypeId} {k : IntKind} {w : World} {a : Option Addr} {n cap : Nat} {xs : List Int} (h : OwnI B e k w a n cap xs) : n ≤ cap := (own_capG h.row).1
theorem gr_p {w w1 w2 : World} {p : Nat} (h : w.grownBy w1 (some p)) (k : Gr w1 w2) : w.grownBy w2 (some p) := grown_trans' h (grown_weak k _)
theorem gr_new {w w1 w2 : World} {p : Nat} {r : Option Nat} (h : w.grownBy w1 (some p)) (k : w1.grownBy w2 r) (hr : ∀ g, r = some g → w.heap.size ≤ g) : w.grownBy w2 (some p) := by
 cases r with
 | none => exact gr_p h k
 | some g => exact grownBy_trans h k (.inr (.inr ⟨g, rfl, hr g rfl⟩))
set_option maxRecDepth 100000 in
set_option maxHeartbeats 4000000 in
theorem packets_any (p : Nat) (N : Int) (reg : Bool) (w : World) (hd : Die w p) (hN0 : 1 ≤ N) (hN : N ≤ 40) : Calls Tryd.prog 12 #[.pointer (some ⟨p, 0, none⟩), .int .i64 2, .int .i64 N, .bool reg] w (PktsPost p w) := by
 have hplt := hd.lt
 have HD := zqd hd
 clear hd
 go_enter Tryd.func12, Tryd.ntmps12
 go_wp2_with fail
 go_loopw [9, 10] (fun v i wr => LsRel p w v i wr) (fun _ i _ => (2 - intOf i).toNat)
 case atStart => exact ⟨0, none, 0, [], by omega, rfl, rfl, OwnHd.nil _ _, by simp, HD.out, grownBy_refl _ _⟩
 case round =>
  obtain ⟨j, a, c, hs, hj, rfl, rfl, ho, hv, hd1, hg1⟩ := hrel
  have HO1 := zqd ho
  have HV1 := zqd hv
  have HD1 := zqd hd1
  have HG1 := zqd hg1
  clear ho hv hd1 hg1
  by_cases hlt : j < 2
  ·go_wp2_with fail
   refine (header_any p j wr HD1.out (by omega) (by omega)).mono ?_
   rintro e w1 ⟨x, rfl, hmade, hd2, hg2⟩
   have hgal : Gr w1 (w1.alloc (.cells (HCells x).toArray 49)) := Gr.alloc _ _
   have hq : (w1.alloc (.cells (HCells x).toArray 49)).heap[w1.heap.size]? = some (.cells (HCells x).toArray 49 (0, 0)) := heap_alloc_new _ _
   have hseg : Seg (w1.alloc (.cells (HCells x).toArray 49)) (some ⟨w1.heap.size, 0, none⟩) ([x].flatMap HCells) := .inr ⟨w1.heap.size, 0, rfl, heap_lt hq, fun i hi => by rw [Nat.zero_add, cell_of_block hq]; simp⟩
   have hown2 : OwnHd w.heap.size w1 a j c hs := HO1.out.kept hg2 (by
    cases hv : (Value.slice a j c).ownBlock with
    | none => exact .inl rfl
    | some g => right; have := (HO1.out.lt g hv).1; simp; omega)
   obtain ⟨a', c', w2, hrun, ho2, hg3, _⟩ := app_hdr w.heap.size _ a j c hs (own_stayG hown2 hgal) (some ⟨w1.heap.size, 0, none⟩) 1 1 [x] rfl hseg (fun e => by cases e) (by omega) (by have h1 := HG1.out.size; have h2 := hg2.size; have h3 := hgal.size; omega)
   have hlow : ∀ g, (Value.slice a j c).ownBlock = some g → w.heap.size ≤ g := fun g hv => (HO1.out.lt g hv).1
   have HO2 := zqd ho2
   have HD2 := zqd ((hd2.kept hgal (by simp)).kept hg3 (fun g e => by have := hlow g e; omega))
   have HG2 := zqd (gr_new (gr_p (grown_trans' HG1.out hg2) hgal) hg3 hlow)
   have HX := zqd (rngv_of (made_valid hmade (by omega) (by omega)))
   simp only [HCells] at hrun
   have HRUN := zqd hrun
   clear hgal hq hseg hown2 hrun ho2 hg3 hlow hd2 hg2 hmade
   go_wp2_with (at_builtin; refine wpList_app rfl _ _ _ rfl rfl rfl HRUN.out ?_)
   go_roundw
   case rel => exact ⟨j + 1, a', c', hs ++ [x], by omega, rfl, by go_num, HO2.out, (fun y hy => by
    rcases List.mem_append.1 hy with hy | hy
    ·exact HV1.out y hy
    ·simp only [List.mem_singleton] at hy; subst hy; exact HX.out), HD2.out, HG2.out⟩
   case measure => (simp [intOf] <;> omega)
  ·obtain rfl : j = 2 := by omega
   obtain ⟨gL, rfl⟩ : ∃ gL, a = some ⟨gL, 0, none⟩ := by
    rcases HO1.out.2 with ⟨hv, h0⟩ | ⟨g, cap', cur, hv, _⟩
    ·omega
    ·injection hv with e1; exact ⟨g, e1⟩
   have hgL := (own_blockG HO1.out rfl).2.2
   go_wp2_with fail
   refine (next_any p (N + 1) _ HD1.out (by omega) (by omega)).mono ?_
   rintro e w2 ⟨v, rfl, v0, v1, hd2, hg2⟩
   obtain ⟨m0, rfl⟩ : ∃ m0 : Nat, v = m0 := ⟨v.toNat, by omega⟩
   have HO2 := zqd (ownhd_but HO1.out hg2 (by omega))
   have HD2 := zqd hd2
   have HG2 := zqd (grown_trans' HG1.out hg2)
   clear hd2 hg2 HO1 HD1 HG1
   go_wp2_with fail
   go_loopw [11, 12] (fun v i wr => PkRel p gL c w v i wr) (fun _ i _ => (intOf i).toNat)
   case atStart => exact ⟨m0, 0, 0, none, [], hs, by omega, rfl, rfl, by omega, HO2.out, HV1.out, RowP.nil _ _ _, HD2.out, HG2.out⟩
   case round =>
    obtain ⟨m, nl, cl, al, ss, hs', hm, rfl, rfl, hnl, ho, hv, hrow, hd3, hg3⟩ := hrel
    have HO3 := zqd ho
    have HV3 := zqd hv
    have HR3 := zqd hrow
    have HD3 := zqd hd3
    have HG3 := zqd hg3
    have hlen : hs'.length = 2 := ho.len
    clear ho hv hrow hd3 hg3
    by_cases hm0 : 0 < m
    ·go_wp2_with fail
     refine (next_any p 2 _ HD3.out (by omega) (by omega)).mono ?_
     rintro e w4 ⟨v, rfl, v0, v1, hd4, hg4⟩
     obtain ⟨k, rfl⟩ : ∃ k : Nat, v = k := ⟨v.toNat, by omega⟩
     obtain ⟨x, hx⟩ : ∃ x, hs'[k]? = some x := ⟨hs'[k]'(by omega), List.getElem?_eq_getElem (by omega)⟩
     have HO4 := zqd (ownhd_but HO3.out hg4 (by omega))
     have HR4 := zqd (HR3.out.but hg4 (.inl (by omega)))
     have HD4 := zqd hd4
     have HG4 := zqd (grown_trans' HG3.out hg4)
     have HXV := zqd (HV3.out x (List.mem_of_getElem? hx))
     have HX := zqd hx
     have HG4S := zqd (show w.heap.size ≤ w4.heap.size from HG4.out.size)
     clear hd4 hg4 hx HO3 HR3 HD3 HG3
     have hkb : (k : Int) < 2 := by omega
     go_upto_region 11 with (fail)
     have HRG := zqd (ownhd_row HO4.out HX.out)
     refine Sched2.wp_region_sched (fun u => u.rangeAt gL (k * 15) (HCells x)) [0, 1, 2, 3, 4] [] [6, 7, 8, 9, 10] true (fun u hu => range_gr HRG.out hu) (by kernel_rfl) (by kernel_rfl) ?_
     repeat (first | (refine Sched2.walk1_ord rfl ?_) | ((first | (refine Sched2.walk1_no rfl rfl rfl (fun K hK => ?_)) | (refine Sched2.walk1_gr rfl rfl rfl rfl (fun K hK => ?_); apply Exists.intro; refine ⟨fun w1 hw1 => ?_, ?_⟩; (focus (go_simp; (try go_ints); (try (simp only [IntWalk.iteOmega]; go_simp)); first | done | (with_reducible rfl) | (with_reducible exact ⟨rfl, rfl⟩)))) | (refine Sched2.walk1_late rfl rfl rfl rfl (fun K hK => ?_); apply Exists.intro; refine ⟨fun w1 hw1 => ?_, ?_⟩; (focus (go_simp; (try go_ints); (try (simp only [IntWalk.iteOmega]; go_simp)); first | done | (with_reducible rfl) | (with_reducible exact ⟨rfl, rfl⟩))))); simp only [Act.put, zqa, zqb, zqc]; refine hK _ ?_; clear hK K))
     refine Sched2.walk1_late rfl rfl rfl rfl (fun K hK => ?_)
     refine ⟨HVal x, fun w1 hw1 => Sched2.gq_load_mid 49 _ rfl gL (k * 15) rfl (HCells x) _ ((fun _ h => h) w1 hw1) Tryd.underlying49 rfl (by kernel_rfl), ?_⟩
     simp only [Act.put, zqa, zqb, zqc]
     refine hK _ ?_
     clear hK K
     repeat (first | (refine Sched2.walk1_ord rfl ?_) | ((first | (refine Sched2.walk1_no rfl rfl rfl (fun K hK => ?_)) | (refine Sched2.walk1_gr rfl rfl rfl rfl (fun K hK => ?_); apply Exists.intro; refine ⟨fun w1 hw1 => ?_, ?_⟩; (focus (go_simp; (try go_ints); (try (simp only [IntWalk.iteOmega]; go_simp)); first | done | (with_reducible rfl) | (with_reducible exact ⟨rfl, rfl⟩)))) | (refine Sched2.walk1_late rfl rfl rfl rfl (fun K hK => ?_); apply Exists.intro; refine ⟨fun w1 hw1 => ?_, ?_⟩; (focus (go_simp; (try go_ints); (try (simp only [IntWalk.iteOmega]; go_simp)); first | done | (with_reducible rfl) | (with_reducible exact ⟨rfl, rfl⟩))))); simp only [Act.put, zqa, zqb, zqc]; refine hK _ ?_; clear hK K))
     refine Sched2.walk1_nil ?_
     intro wq hwq
     dsimp only [Sched.EndN, List.nil_append, List.cons_append, Act.put]
     (try simp only [zqa, zqb, zqc])
     simp only [Sched2.lasts, List.filterMap_cons, List.filterMap_nil, List.getElem?_toArray, List.getElem?_cons_succ, List.getElem?_cons_zero]
     have HOq := zqd (own_stayG HO4.out hwq)
     have HRq := zqd (HR4.out.gr hwq)
     have HDq := zqd (HD4.out.kept hwq (by simp))
     have HGq := zqd (gr_p HG4.out hwq)
     have hxq := range_gr HRG.out hwq
     have hgq : gL < wq.heap.size := by have := hwq.size; have := HG4.out.size; have := (own_blockG HO4.out rfl).2.2.2; omega
     have hwqs := hwq.size
     clear hwq HO4 HR4 HD4 HG4
     refine Sched2.walk2_go rfl (fun K hK => ?_)
     go_simp
     go_at_call 29
     refine (bytes_any p 6 6 wq rfl HDq.out (by omega)).mono ?_
     rintro e w5 ⟨ab, nb, cb, xb, rfl, hnb, hdb⟩
     have hsz5 := hdb.2.2.1.size
     have hx5 := range_but hxq hgq hdb.2.2.1 (by omega)
     have HO5 := zqd (ownhd_but HOq.out hdb.2.2.1 (by omega))
     have HR5 := zqd (HRq.out.but hdb.2.2.1 (.inl (by omega)))
     have ROW5 := zqd (show ∀ b, ownB al nl cl = some b → b < w5.heap.size from fun b hb => (HR5.out.1.lt b hb).2)
     have HD5 := zqd hdb.1
     have HG5 := zqd (grown_trans' HGq.out hdb.2.2.1)
     have HB5 := zqd hdb.2.1.rd
     clear hdb HOq HRq HDq HGq hxq
     refine ⟨_, rfl, ?_⟩
     refine hK _ _ (.inr hx5) ?_
     clear hK K
     (try dsimp only [Act.put])
     (try simp only [zqa, zqb, zqc])
     refine Sched2.walk2_go rfl (fun K hK => ?_)
     go_simp
     go_at_call 27
     refine (mpacket_any x ab nb cb xb w5 HXV.out.valid HB5.out (by omega)).mono ?_
     rintro e w6 ⟨ap, np, cp, rfl, hnp, hop, hg6⟩
     have hx6 := range_gr hx5 hg6
     have hsz6 := hg6.size
     have HO6 := zqd (own_stayG HO5.out hg6)
     have HR6 := zqd (HR5.out.gr hg6)
     have HD6 := zqd (HD5.out.kept hg6 (by simp))
     have HG6 := zqd (gr_p HG5.out hg6)
     have HP6 := zqd hop
     have hnp2 : 28 ≤ np ∧ np ≤ 46 := by
      rw [hnp, bldL_len]
      have h1 := HB5.out.1
      have h2 : (headL x ++ xb).length = (headL x).length + nb := by simp [h1]
      have h3 : (headL x).length = 28 ∨ (headL x).length = 40 := by unfold headL; split <;> simp [putR_len]
      omega
     have hcp := owni_cap2 hop
     clear hop hg6 hnp HO5 HR5 HD5 HG5 hx5
     refine ⟨_, rfl, ?_⟩
     refine hK _ _ (.inr hx6) ?_
     clear hK K
     (try dsimp only [Act.put])
     (try simp only [zqa, zqb, zqc])
     refine Sched2.walk2_go rfl (fun K hK => ?_)
     go_simp
     obtain ⟨w7, hw7⟩ : ∃ y, y = w6.alloc (.cells #[.slice ap np cp] 39) := ⟨_, rfl⟩
     have hg7 : Gr w6 w7 := by rw [hw7]; exact Gr.alloc _ _
     have hq7 : w7.heap[w6.heap.size]? = some (.cells #[.slice ap np cp] 39 (0, 0)) := by rw [hw7]; exact heap_alloc_new _ _
     rw [← hw7]
     clear hw7
     have hx7 := range_gr hx6 hg7
     have hgL6 : gL < w6.heap.size := by omega
     have hwl : w.heap.size ≤ w5.heap.size := by have := HG4S.out; omega
     have hnp : ∀ b off, ap = some ⟨b, off, none⟩ → w5.heap.size ≤ b ∧ b < w6.heap.size := fun b off e => by
      have h1 := own_blockG HP6.out.row e
      exact ⟨h1.2.2.1, h1.2.2.2⟩
     obtain ⟨a8, c8, w8, hrun, hrow8, hg8⟩ := (HR6.out.gr hg7).app ⟨ap, np, cp⟩ ⟨by show 1 ≤ np; omega, by show np ≤ 1500; omega, hcp⟩ _ (HP6.out.rd.kept hg7) (fun b off e => by
      have h1 := hnp b off e
      refine ⟨by omega, by omega, fun h2 => ?_⟩
      have h3 := ROW5.out b h2
      omega) w6.heap.size hq7 (by omega) (by have := hg7.size; omega) (by have := hg7.size; omega)
     have hlow : ∀ g, ownB al nl cl = some g → w.heap.size ≤ g := fun g hv => (HR6.out.1.lt g hv).1
     have hnel : ∀ g, ownB al nl cl = some g → g ≠ gL := fun g hv => HR6.out.2.1 g hv
     have hO8 : OwnHd w.heap.size w8 (some ⟨gL, 0, none⟩) 2 c hs' := (own_stayG HO6.out hg7).kept hg8 (.inr (fun e => hnel gL e.symm rfl))
     have HO8 := zqd hO8
     have HR8 := zqd hrow8
     have HD8 := zqd ((HD6.out.kept hg7 (by simp)).kept hg8 (fun g e => by have := hlow g e; omega))
     have HG8 := zqd (gr_new (gr_p HG6.out hg7) hg8 hlow)
     have hx8 := ownhd_row hO8 HX.out
     refine hK _ _ (.inr hx7) ?_
     clear hK K hO8 hrow8 hg8 hlow hnel hnp hx7 hx6 hg7 hq7 HO6 HR6 HD6 HG6 HP6
     (try dsimp only [Act.put])
     (try simp only [zqa, zqb, zqc])
     refine Sched2.walk2_go rfl (fun K hK => ?_)
     refine tq_app _ _ _ rfl rfl rfl hrun ?_
     clear hrun
     refine hK _ _ (.inr hx8) ?_
     clear hK K
     (try dsimp only [Act.put])
     (try simp only [zqa, zqb, zqc])
     refine Sched2.walk2_go rfl (fun K hK => ?_)
     go_simp
     refine hK _ _ (.inr hx8) ?_
     clear hK K
     (try dsimp only [Act.put])
     (try simp only [zqa, zqb, zqc])
     refine Sched2.walk2_nil ?_
     have HX8 := zqd hx8
     clear hx8
     go_wp2_with (refine rng_load rfl 49 _ rfl gL (k * 15) rfl (HCells x) HX8.out Tryd.underlying49 rfl (by kernel_rfl) ?_)
     refine (followv_any p x reg w8 HD8.out HXV.out).mono ?_
     rintro e w9 ⟨r, rfl, hrv, hd9, hg9⟩
     have HO9 := zqd (ownhd_but HO8.out hg9 (by omega))
     have HR9 := zqd (HR8.out.but hg9 (.inl (by omega)))
     have HD9 := zqd hd9
     have HG9 := zqd (grown_trans' HG8.out hg9)
     have HRV := zqd hrv
     clear hd9 hg9 hrv HO8 HR8 HD8 HG8 HX8
     have HTH := zqd (show w9.there gL (k * 15) 15 by
      have := own_thereG hcells_len HO9.out k (by omega) 0 15 (by omega)
      rwa [Nat.add_zero] at this)
     go_upto_region 13 with (refine wpList_store_mid rfl 49 _ _ rfl gL (k * 15) (HCells r).toArray rfl rfl HTH.out (by kernel_rfl) (all_oneCell_toArray (hcells_1 r)) ?_)
     obtain ⟨w10, hw10⟩ : ∃ y, y = w9.setCells gL (k * 15) (HCells r) := ⟨_, rfl⟩
     first | rw [← hw10] | (go_show; fail)
     have hg10 : w9.grownBy w10 (some gL) := by rw [hw10]; exact grown_setCells gL _ _ w9
     have HO10 := zqd (show OwnHd w.heap.size w10 (some ⟨gL, 0, none⟩) 2 c (hs'.set k r) by
      have := own_set hcells_len HO9.out k 0 x r (HCells r) HX.out (by simp) (setM_whole _ _ rfl)
      rw [Nat.add_zero, ← hw10] at this
      exact this)
     have HR10 := zqd (HR9.out.but hg10 (.inr rfl))
     have HD10 := zqd (HD9.out.kept hg10 (fun g e => by injection e with e; omega))
     have HG10 := zqd (gr_new HG9.out hg10 (fun g e => by injection e with e; omega))
     have HV10 := zqd (show ∀ y ∈ hs'.set k r, RngV y from fun y hy => by
      rcases List.mem_or_eq_of_mem_set hy with hy | rfl
      ·exact HV3.out y hy
      ·exact HRV.out)
     clear hw10 hg10 HO9 HR9 HD9 HG9 HTH
     cases reg
     rotate_left
     ·go_wp2_with fail
      go_roundw
      case rel => exact ⟨m - 1, nl + 1, c8, a8, _, _, by omega, by go_num, rfl, by omega, HO10.out, HV10.out, HR10.out, HD10.out, HG10.out⟩
      case measure => (simp [intOf] <;> omega)
     go_wp2_with fail
     refine (one_any p 15 _ HD10.out (by omega) (by omega)).mono ?_
     rintro e w11 ⟨b, rfl, hd11, hg11⟩
     have HO11 := zqd (ownhd_but HO10.out hg11 (by omega))
     have HR11 := zqd (HR10.out.but hg11 (.inl (by omega)))
     have HD11 := zqd hd11
     have HG11 := zqd (grown_trans' HG10.out hg11)
     clear hd11 hg11 HO10 HR10 HD10 HG10
     cases b
     ·go_wp2_with fail
      go_roundw
      case rel => exact ⟨m - 1, nl + 1, c8, a8, _, _, by omega, by go_num, rfl, by omega, HO11.out, HV10.out, HR11.out, HD11.out, HG11.out⟩
      case measure => (simp [intOf] <;> omega)
     go_wp2_with fail
     refine (some_any p w11 HD11.out).mono ?_
     rintro e w12 ⟨ap2, np2, cp2, xp2, rfl, hn1, hn2, hn3, hdb⟩
     have hs11 := HG11.out.size
     have hs12 := hdb.2.2.1.size
     have ROW11 : ∀ b, ownB a8 (nl + 1) c8 = some b → b < w11.heap.size := fun b hb => (HR11.out.1.lt b hb).2
     have hO12 := ownhd_but HO11.out hdb.2.2.1 (by omega)
     have hR12 := HR11.out.but hdb.2.2.1 (.inl (by omega))
     have hG12 := grown_trans' HG11.out hdb.2.2.1
     obtain ⟨w13, hw13⟩ : ∃ y, y = w12.alloc (.cells #[.slice ap2 np2 cp2] 39) := ⟨_, rfl⟩
     have hg13 : Gr w12 w13 := by rw [hw13]; exact Gr.alloc _ _
     have hq13 : w13.heap[w12.heap.size]? = some (.cells #[.slice ap2 np2 cp2] 39 (0, 0)) := by rw [hw13]; exact heap_alloc_new _ _
     have hgL11 : gL < w11.heap.size := (own_blockG HO11.out rfl).2.2.2
     obtain ⟨a14, c14, w14, hrun, hrow14, hg14⟩ := (hR12.gr hg13).app ⟨ap2, np2, cp2⟩ ⟨hn1, by show np2 ≤ 1500; omega, hn3⟩ _ (hdb.2.1.rd.kept hg13) (fun b off e => by
      have h1 := own_blockG hdb.2.1.row e
      have h2 := h1.2.2.1
      refine ⟨by omega, by omega, fun h3 => ?_⟩
      have h4 := ROW11 b h3
      omega) w12.heap.size hq13 (by omega) (by have := hg13.size; omega) (by have := hg13.size; omega)
     have hlow : ∀ g, ownB a8 (nl + 1) c8 = some g → w.heap.size ≤ g := fun g hv => (HR11.out.1.lt g hv).1
     have hnel : ∀ g, ownB a8 (nl + 1) c8 = some g → g ≠ gL := fun g hv => HR11.out.2.1 g hv
     have HO14 := zqd (show OwnHd w.heap.size w14 (some ⟨gL, 0, none⟩) 2 c (hs'.set k r) from (own_stayG hO12 hg13).kept hg14 (.inr (fun e => hnel gL e.symm rfl)))
     have HR14 := zqd hrow14
     have HD14 := zqd ((hdb.1.kept hg13 (by simp)).kept hg14 (fun g e => by have := hlow g e; omega))
     have HG14 := zqd (gr_new (gr_p hG12 hg13) hg14 hlow)
     have HRUN := zqd hrun
     have HW13 := zqd hw13
     clear hdb hO12 hR12 hG12 hg13 hq13 hrun hrow14 hg14 hlow hnel hw13 ROW11 HO11 HR11 HD11 HG11
     go_wp2_with (at_builtin; (have hw1 := HW13.out; rw [← hw1]; clear hw1); refine wpList_app rfl _ _ _ rfl rfl rfl HRUN.out ?_)
     go_roundw
     case rel => exact ⟨m - 1, nl + 1 + 1, c14, a14, _, _, by omega, by go_num, rfl, by omega, HO14.out, HV10.out, HR14.out, HD14.out, HG14.out⟩
     case measure => (simp [intOf] <;> omega)
    ·go_wp2_with fail
     go_ret
     exact ⟨al, nl, cl, ss, rfl, by omega, HR3.out.rd, HD3.out, HG3.out⟩
end Go.Proofs.YtlnkofpcidngoaaDoor
/- Layer 9 (compressor): New and begin of the reference. -/
namespace Go.Proofs.YtlnkofpcidngoaaDoor
open Go.ChangeShapes Go.WideShapes Go.ChangeAt Go.RowKit
abbrev L0 : List Snd := List.replicate 16 zeroS
theorem made_snd : madeCells (SVal zeroS).cells (16 * 9) = (L0.flatMap SCells).toArray := by kernel_rfl
theorem make_snd (w : World) : (Instr.makeSlice 22 (.int .i64 16) (.int .i64 16)).run Tryd.prog w = .ok (.slice (some ⟨w.heap.size, 0, none⟩) 16 16) (w.alloc (.cells (L0.flatMap SCells).toArray 46)) := by
 obtain ⟨i0, hi, hz0, hz1, hz2⟩ := info_parts info_snd
 have h := run_make (P := Tryd.prog) w 22 46 i0 _ Tryd.underlying22 hi hz0 .i64 .i64 16 16 (by omega) (by omega) (by rw [hz2]; omega) (by omega)
 rw [hz1] at h
 rw [← made_snd]
 exact h
theorem rd_L0 {w : World} {g : Nat} (h : w.heap[g]? = some (.cells (L0.flatMap SCells).toArray 46 (0, 0))) : RdC w (some ⟨g, 0, none⟩) 16 16 L0 := by
 refine ⟨by simp, Nat.le_refl _, by simp [maxLen], (fun e => by cases e), .inr ⟨g, 0, rfl, heap_lt h, fun i hi => ?_⟩, fun s hs => ?_⟩
 ·rw [Nat.zero_add, cell_of_block h]; simp
 ·obtain rfl : s = zeroS := (List.mem_replicate.1 hs).2
  exact ⟨rfl, Nat.le_refl _, by simp [zeroS, maxLen], (fun _ => ⟨rfl, rfl⟩), .inl rfl, by simp [zeroS]⟩
theorem valid_L0 {mode width : Int} (h : shapedB mode width = true) : validC mode width L0 = true := by
 refine valid_yes h (by simp) (fun i hi => ?_)
 have hi2 : i < 16 := by simpa using hi
 have hz : L0[i]? = some zeroS := by rw [List.getElem?_replicate, if_pos hi2]
 rw [okAt_at hz]
 have h1 : ctxB mode width zeroS = true := rfl
 have h2 : (L0.take i).any (likeB zeroS) = false := by rw [List.any_eq_false]; intro t _; simp [likeB, zeroS]
 rw [h1, h2]; rfl
end Go.Proofs.YtlnkofpcidngoaaDoor
/- Layer 9 (compressor), the reference: New once more: where its contexts lie. -/
namespace Go.Proofs.YtlnkofpcidngoaaDoor
open Go.ChangeShapes Go.WideShapes Go.ChangeAt Go.RowKit
def NewPost2 (mode width : Int) (w : World) (e : Ending) (w' : World) : Prop := ∃ a c, e = .returned (.tuple #[CVal mode width a 16 c, .int .i64 0]) ∧ RdC w' a 16 c L0 ∧ Gr w w' ∧ ∀ b off, a = some ⟨b, off, none⟩ → w.heap.size ≤ b
set_option maxRecDepth 20000 in
set_option maxHeartbeats 2000000 in
theorem new2_any (mode width : Int) (w : World) (h : shapedB mode width = true) : Calls Tryd.prog 10 #[.int .i64 mode, .int .i64 width] w (NewPost2 mode width w) := by
 obtain ⟨m1, m2, q1, q2⟩ := shaped_yes h
 clear h
 go_enter Tryd.func10, Tryd.ntmps10
 go_upto_region 1 with (fail)
 obtain ⟨w1, hw1⟩ : ∃ y, y = w.alloc (.cells #[.int .i64 0, .int .i64 0, .slice none 0 0] 24) := ⟨_, rfl⟩
 have HZ1 := zqd (show CBlk w.heap.size 24 [.int .i64 0, .int .i64 0, .slice none 0 0] w1 by rw [hw1]; exact CBlk.new _ _ _)
 have HG1 := zqd (show Gr w w1 by rw [hw1]; exact Gr.alloc _ _)
 rw [← hw1]
 clear hw1
 have d1 : decide (mode < 1) = false := decide_eq_false (by omega)
 have d2 : decide (3 < mode) = false := decide_eq_false (by omega)
 have d3 : decide (width < 1) = false := decide_eq_false (by omega)
 have d4 : decide (8 < width) = false := decide_eq_false (by omega)
 have hmk := make_snd w1
 obtain ⟨w2, hw2⟩ : ∃ y, y = w1.alloc (.cells (L0.flatMap SCells).toArray 46) := ⟨_, rfl⟩
 have HR2 := zqd (show RdC w2 (some ⟨w1.heap.size, 0, none⟩) 16 16 L0 from rd_L0 (by rw [hw2]; exact heap_alloc_new _ _))
 have hg2 : Gr w1 w2 := by rw [hw2]; exact Gr.alloc _ _
 rw [← hw2] at hmk
 have HZ2 := zqd (HZ1.out.kept hg2)
 have HG2 := zqd (HG1.out.trans hg2)
 have hlz := HZ1.out.lt
 clear hw2 hg2 m1 m2 q1 q2
 go_wp2_with (refine cblk_store rfl 24 _ _ rfl w.heap.size [.int .i64 mode, .int .i64 width, .slice (some ⟨w1.heap.size, 0, none⟩) 16 16] HZ2.out rfl rfl rfl (by kernel_rfl) rfl ?_; intro w9 hb9 he9; have HB9 := zqd hb9; have HGE := zqd (show Gr w w9 by rw [← he9]; exact gr_setCells HG2.out (Nat.le_refl _) _ _); have hgs := grown_setCells w.heap.size [.int .i64 mode, .int .i64 width, .slice (some ⟨w1.heap.size, 0, none⟩) 16 16] 0 w2; have HGS := zqd (show w2.grownBy w9 (some w.heap.size) by rw [← he9]; exact hgs); clear hb9 he9 hgs)
 refine bodyPost_ret (results_c1 Tryd.results10 _ _ w.heap.size _ _ rfl HB9.out Tryd.underlying24 rfl (by kernel_rfl)) rfl ⟨_, _, rfl, ?_, HGE.out, fun b off e => by injection e with e; injection e with e1 e2; omega⟩
 obtain ⟨r1, r2, r3, r4, r5, r6⟩ := HR2.out
 refine ⟨r1, r2, r3, r4, seg_but r5 HGS.out (fun b off _ e => by injection e with e; injection e with e1 e2; subst e1; simp; omega), fun s hs => ?_⟩
 obtain rfl : s = zeroS := (List.mem_replicate.1 hs).2
 exact ⟨rfl, Nat.le_refl _, by simp [zeroS, maxLen], (fun _ => ⟨rfl, rfl⟩), .inl rfl, by simp [zeroS]⟩
end Go.Proofs.YtlnkofpcidngoaaDoor
/- Layer 11 (feedback): what both Apply return, in one form. -/
namespace Go.Proofs.YtlnkofpcidngoaaDoor
open Go.ChangeShapes Go.WideShapes Go.ChangeAt Go.RowKit
def AwayC (g p : Nat) (a : Option Addr) (M : List Snd) : Prop := (∀ b off, a = some ⟨b, off, none⟩ → b ≠ g ∧ b ≠ p) ∧ ∀ t ∈ M, ∀ b off, t.a = some ⟨b, off, none⟩ → b ≠ g ∧ b ≠ p
theorem AboveC.away {B g p : Nat} {a : Option Addr} {M : List Snd} (h : AboveC B a M) (hg : g < B) (hp : p < B) : AwayC g p a M :=
 ⟨fun b off e => by have := h.1 b off e; omega, fun t ht b off e => by have := h.2 t ht b off e; omega⟩
theorem rdc_away {w w' : World} {a : Option Addr} {n c g p r : Nat} {M : List Snd} (h : RdC w a n c M) (ha : AwayC g p a M) (hg : w.grownBy w' (some r)) (hr : r = g ∨ r = p) : RdC w' a n c M :=
 rdc_but h hg (fun b off e => by have := ha.1 b off e; omega) (fun t ht b off e => by have := ha.2 t ht b off e; omega)
def KpSt (mode W : Int) (w : World) (gC p B : Nat) (al : Option Addr) (nl : Nat) (ss : List Pk) (wr : World) : Prop := ∃ (a : Option Addr) (c : Nat) (L : List Snd), CBlk gC 24 [.int .i64 mode, .int .i64 W, .slice a 16 c] wr ∧ RdC wr a 16 c L ∧ validC mode W L = true ∧ AwayC gC p a L ∧ RdP B wr al nl ss ∧ Die wr p ∧ Gr w wr
def KpRel (mode W : Int) (w : World) (gC p B : Nat) (al : Option Addr) (nl : Nat) (ss : List Pk) (v : Value) (wr : World) : Prop := ∃ j : Nat, j ≤ nl ∧ v = .int .i64 j ∧ KpSt mode W w gC p B al nl ss wr
theorem KpSt.gr {mode W : Int} {w : World} {gC p B : Nat} {al : Option Addr} {nl : Nat} {ss : List Pk} {wr w' : World} (h : KpSt mode W w gC p B al nl ss wr) (hg : Gr wr w') : KpSt mode W w gC p B al nl ss w' := by
 obtain ⟨a, c, L, h1, h2, h3, h4, h5, h6, h7⟩ := h
 exact ⟨a, c, L, h1.kept hg, h2.kept hg, h3, h4, h5.kept hg, h6.kept hg (by simp), h7.trans hg⟩
theorem gr_die {w w1 w2 : World} {p : Nat} (h : Gr w w1) (k : w1.grownBy w2 (some p)) (hp : w.heap.size ≤ p) : Gr w w2 := grownBy_trans h k (.inr (.inr ⟨p, rfl, hp⟩))
theorem KpSt.dice {mode W : Int} {w : World} {gC p B : Nat} {al : Option Addr} {nl : Nat} {ss : List Pk} {wr w' : World} (h : KpSt mode W w gC p B al nl ss wr) (hd : Die w' p) (hg : wr.grownBy w' (some p)) (hpB : p < B) (hp : w.heap.size ≤ p) (hpc : gC ≠ p) : KpSt mode W w gC p B al nl ss w' := by
 obtain ⟨a, c, L, h1, h2, h3, h4, h5, h6, h7⟩ := h
 exact ⟨a, c, L, h1.but hg (by simpa using hpc), rdc_away h2 h4 hg (.inr rfl), h3, h4, h5.but hg hpB, hd, gr_die h7 hg hp⟩
theorem kp_die {mode W : Int} {w : World} {gC p B : Nat} {al : Option Addr} {nl : Nat} {ss : List Pk} {wr : World} (h : KpSt mode W w gC p B al nl ss wr) : Die wr p := by
 obtain ⟨a, c, L, h1, h2, h3, h4, h5, h6, h7⟩ := h
 exact h6
theorem ctx_small {mode W : Int} {s : Snd} (hw1 : 1 ≤ W) (hw8 : W ≤ 8) (hn : s.refs.length = s.n) (h : ctxB mode W s = true) : s.n ≤ 1000 := by
 unfold ctxB at h
 split at h
 ·have := ((act_iff hn hw1 hw8).1 h).1.2.2.2.2.2.2.1.2
  omega
 ·simp only [emptyB, Bool.and_eq_true, decide_eq_true_eq] at h
  omega
theorem small_of {mode W : Int} {M : List Snd} {w : World} {a : Option Addr} {n c : Nat} (hv : validC mode W M = true) (hr : RdC w a n c M) : ∀ s ∈ M, s.n ≤ 1000 := by
 obtain ⟨hs, -, hat⟩ := valid_parts hv
 obtain ⟨-, -, q1, q2⟩ := shaped_yes hs
 intro s hm
 obtain ⟨i, hi⟩ := List.getElem?_of_mem hm
 have hl := (List.getElem?_eq_some_iff.1 hi).1
 have := hat i hl
 rw [okAt_at hi, Bool.and_eq_true] at this
 exact ctx_small q1 q2 (hr.2.2.2.2.2 s hm).1 this.1
def apM (E mode : Int) : Int := if E = 0 then mode else 0
def ApU (mode W E : Int) (PL : List Snd) (w : World) (e : Ending) (w' : World) : Prop :=
 ∃ (a' : Option Addr) (n' c' : Nat) (M : List Snd), e = .returned (.tuple #[CVal (apM E mode) (apM E W) a' n' c', .int .i64 E]) ∧ RdC w' a' n' c' M ∧ M.map plainS = (if E = 0 then PL else []) ∧ n' ≤ 1000 ∧ (∀ s ∈ M, s.n ≤ 1000) ∧ AboveC w.heap.size a' M ∧ (E = 0 → n' = 16) ∧ Gr w w'
theorem rdc_nil (w : World) : RdC w none 0 0 [] := ⟨rfl, Nat.le_refl _, by decide, fun _ => ⟨rfl, rfl⟩, .inl rfl, fun s hs => by cases hs⟩
theorem apE_valid {mode W : Int} {L : List Snd} {c k n : Int} (hE : apE mode W L c k n = 0) : validC mode W L = true := by
 unfold apE at hE
 split at hE
 ·cases hE
 ·rename_i h1
  rw [Bool.not_eq_false, Bool.and_eq_true] at h1
  exact h1.1
theorem apu_of {mode W : Int} {L : List Snd} {fc fk fn : Int} {w w' : World} {e : Ending} (h : ApPost2 mode W (apE mode W L fc fk fn) (apL mode W L fc fk fn) w e w') : ApU mode W (apE mode W L fc fk fn) (apL mode W L fc fk fn) w e w' := by
 obtain ⟨hg, ⟨hE, a', c', M, rfl, hM, hr, hab⟩ | ⟨hE, rfl⟩⟩ := h
 ·have hv := apL_ok (apE_valid hE) hE hM
  exact ⟨a', 16, c', M, by rw [apM, apM, if_pos hE, if_pos hE, hE], hr, by rw [if_pos hE]; exact hM, by omega, small_of hv hr, hab, fun _ => rfl, hg⟩
 ·exact ⟨none, 0, 0, [], by rw [apM, apM, if_neg hE, if_neg hE], rdc_nil _, by rw [if_neg hE]; rfl, by omega, (fun s hs => by cases hs), ⟨fun b off e => (by cases e), fun t ht => (by cases ht)⟩, fun h0 => absurd h0 hE, hg⟩
theorem ap1_any {mode W : Int} {a : Option Addr} {n c : Nat} {L : List Snd} {fc fk fn E : Int} {PL : List Snd} (hE : apE mode W L fc fk fn = E) (hP : apL mode W L fc fk fn = PL) (w : World) (hr : RdC w a n c L) :
  Calls Tryd.prog 16 #[CVal mode W a n c, FVal fc fk fn] w (ApU mode W E PL w) := by
 subst hE hP
 exact (apply2_any mode W a n c L fc fk fn w hr).mono fun _ _ h => apu_of h
theorem ap2_any {mode W : Int} {a : Option Addr} {n c : Nat} {L : List Snd} {fc fk fn E : Int} {PL : List Snd} (hE : apE mode W L fc fk fn = E) (hP : apL mode W L fc fk fn = PL) (w : World) (hr : RdC w a n c L) :
  Calls Tryd.prog 17 #[CVal mode W a n c, FVal fc fk fn] w (ApU mode W E PL w) := by
 subst hE hP
 exact (rapply_of mode W a n c L fc fk fn w hr (fun u hu => rcvalid_any mode W a n c L u (hr.kept hu) (by have := hr.2.2.1; have := hr.2.1; simp only [maxLen] at *; omega))).mono fun _ _ h => apu_of h
theorem ap_same {mode W : Int} {a b : Option Addr} {n c m d : Nat} {L M PL : List Snd} (w : World) (hr : RdC w a n c L) (hs : RdC w b m d M) (h1 : L.map plainS = PL) (h2 : M.map plainS = PL) (hn : n ≤ 1000) (hm : ∀ s ∈ L, s.n ≤ 1000) :
  Calls Tryd.prog 18 #[CVal mode W a n c, CVal mode W b m d] w fun e w' => e = .returned (.bool true) ∧ Gr w w' := by
 obtain rfl : m = n := by
  have h3 := congrArg List.length (h1.trans h2.symm)
  rw [List.length_map, List.length_map, hr.1, hs.1] at h3
  exact h3.symm
 exact same_yes mode W a b m c d L M w hr hs (h2.trans h1.symm) hn hm
/-! ### writing to a block that lies above all of them -/
def LowC (g : Nat) (a : Option Addr) (L : List Snd) : Prop := (∀ b off, a = some ⟨b, off, none⟩ → b < g) ∧ ∀ t ∈ L, 0 < t.n → ∀ b off, t.a = some ⟨b, off, none⟩ → b < g
def LowP (g : Nat) (al : Option Addr) (ss : List Pk) : Prop := (∀ s ∈ ss, ∀ b off, al = some ⟨b, off, none⟩ → b < g) ∧ ∀ s ∈ ss, ∀ b off, s.a = some ⟨b, off, none⟩ → b < g
theorem RdC.low {w : World} {a : Option Addr} {c : Nat} {L : List Snd} (h : RdC w a 16 c L) : LowC w.heap.size a L := by
 refine ⟨fun b off e => ?_, fun t ht hn b off e => ?_⟩
 ·obtain ⟨b1, o1, e1, hb, -⟩ := h.row (by omega)
  rw [e] at e1
  injection e1 with e1
  injection e1 with e1
  omega
 ·obtain ⟨b1, o1, e1, hb, -⟩ := (h.2.2.2.2.2 t ht).row hn
  rw [e] at e1
  injection e1 with e1
  injection e1 with e1
  omega
theorem rd_low {k : IntKind} {w : World} {a : Option Addr} {n : Nat} {xs : List Int} (h : Rd k w a n xs) (hn : 1 ≤ n) {b off : Nat} (e : a = some ⟨b, off, none⟩) : b < w.heap.size := by
 rcases h.2.2.2 with h0 | ⟨b1, o1, e1, hb, -⟩
 ·omega
 ·rw [e] at e1
  injection e1 with e1
  injection e1 with e1
  omega
theorem RdP.low {B n : Nat} {w : World} {a : Option Addr} {ss : List Pk} (h : RdP B w a n ss) : LowP w.heap.size a ss := by
 refine ⟨fun s hs b off e => ?_, fun s hs b off e => ?_⟩
 ·rcases h.2.1 with h2 | ⟨b1, o1, e1, hb, -⟩
  ·have : ss = [] := by simpa using h2
   rw [this] at hs; cases hs
  ·rw [e] at e1
   injection e1 with e1
   injection e1 with e1
   omega
 ·obtain ⟨h1, ⟨xs, hx⟩, -⟩ := h.2.2.2 s hs
  exact rd_low hx h1.1 e
theorem RdC.butL {w w' : World} {a : Option Addr} {n c g : Nat} {L : List Snd} (h : RdC w a n c L) (hg : w.grownBy w' (some g)) (hl : LowC g a L) : RdC w' a n c L := by
 refine ⟨h.1, h.2.1, h.2.2.1, h.2.2.2.1, seg_but h.2.2.2.2.1 hg (fun b off _ ha => by have := hl.1 b off ha; intro e; injection e with e; omega), fun s hs => ?_⟩
 have h1 := h.2.2.2.2.2 s hs
 by_cases hn : 0 < s.n
 ·exact rdh_but h1 hg (fun b off e => by have := hl.2 s hs hn b off e; intro e; injection e with e; omega)
 ·have h0 : s.refs = [] := List.length_eq_zero_iff.1 (by rw [h1.1]; omega)
  exact ⟨h1.1, h1.2.1, h1.2.2.1, h1.2.2.2.1, by rw [h0]; exact .inl rfl, h1.2.2.2.2.2⟩
theorem RdP.butL {B n g : Nat} {w w' : World} {a : Option Addr} {ss : List Pk} (h : RdP B w a n ss) (hg : w.grownBy w' (some g)) (hl : LowP g a ss) : RdP B w' a n ss := by
 refine ⟨h.1, ?_, h.2.2.1, fun s hs => ?_⟩
 ·cases hss : ss with
  | nil => exact .inl rfl
  | cons s r =>
   rw [← hss]
   exact seg_but h.2.1 hg (fun b off _ e => by have := hl.1 s (by rw [hss]; simp) b off e; intro e2; injection e2 with e2; omega)
 ·obtain ⟨h1, ⟨xs, hx⟩, h3⟩ := h.2.2.2 s hs
  exact ⟨h1, ⟨xs, rd_keptBut hx hg (fun b off _ e => by have := hl.2 s hs b off e; intro e2; injection e2 with e2; omega)⟩, h3⟩
def KpLo (mode W : Int) (w : World) (gC p B : Nat) (al : Option Addr) (nl : Nat) (ss : List Pk) (g : Nat) (wr : World) : Prop := ∃ (a : Option Addr) (c : Nat) (L : List Snd), (CBlk gC 24 [.int .i64 mode, .int .i64 W, .slice a 16 c] wr ∧ RdC wr a 16 c L ∧ validC mode W L = true ∧ AwayC gC p a L ∧ RdP B wr al nl ss ∧ Die wr p ∧ Gr w wr) ∧ LowC g a L ∧ LowP g al ss
theorem KpSt.lo {mode W : Int} {w : World} {gC p B : Nat} {al : Option Addr} {nl : Nat} {ss : List Pk} {wr : World} (h : KpSt mode W w gC p B al nl ss wr) : KpLo mode W w gC p B al nl ss wr.heap.size wr := by
 obtain ⟨a, c, L, h1, h2, h3, h4, h5, h6, h7⟩ := h
 exact ⟨a, c, L, ⟨h1, h2, h3, h4, h5, h6, h7⟩, h2.low, h5.low⟩
theorem KpLo.st {mode W : Int} {w : World} {gC p B g : Nat} {al : Option Addr} {nl : Nat} {ss : List Pk} {wr : World} (h : KpLo mode W w gC p B al nl ss g wr) : KpSt mode W w gC p B al nl ss wr := by
 obtain ⟨a, c, L, h, _⟩ := h
 exact ⟨a, c, L, h⟩
theorem KpLo.gr {mode W : Int} {w : World} {gC p B g : Nat} {al : Option Addr} {nl : Nat} {ss : List Pk} {wr w' : World} (h : KpLo mode W w gC p B al nl ss g wr) (hg : Gr wr w') : KpLo mode W w gC p B al nl ss g w' := by
 obtain ⟨a, c, L, ⟨h1, h2, h3, h4, h5, h6, h7⟩, h8⟩ := h
 exact ⟨a, c, L, ⟨h1.kept hg, h2.kept hg, h3, h4, h5.kept hg, h6.kept hg (by simp), h7.trans hg⟩, h8⟩
theorem KpLo.dice {mode W : Int} {w : World} {gC p B g : Nat} {al : Option Addr} {nl : Nat} {ss : List Pk} {wr w' : World} (h : KpLo mode W w gC p B al nl ss g wr) (hd : Die w' p) (hg : wr.grownBy w' (some p)) (hpB : p < B) (hp : w.heap.size ≤ p) (hpc : gC ≠ p) : KpLo mode W w gC p B al nl ss g w' := by
 obtain ⟨a, c, L, ⟨h1, h2, h3, h4, h5, h6, h7⟩, h8⟩ := h
 exact ⟨a, c, L, ⟨h1.but hg (by simpa using hpc), rdc_away h2 h4 hg (.inr rfl), h3, h4, h5.but hg hpB, hd, gr_die h7 hg hp⟩, h8⟩
theorem KpLo.own {mode W : Int} {w : World} {gC p B g : Nat} {al : Option Addr} {nl : Nat} {ss : List Pk} {wr w' : World} (h : KpLo mode W w gC p B al nl ss g wr) (hg : wr.grownBy w' (some g)) (hC : gC ≠ g) (hp : p < g) (hw : w.heap.size ≤ g) : KpSt mode W w gC p B al nl ss w' := by
 obtain ⟨a, c, L, ⟨h1, h2, h3, h4, h5, h6, h7⟩, h8, h9⟩ := h
 exact ⟨a, c, L, h1.but hg (by simpa using hC), h2.butL hg h8, h3, h4, h5.butL hg h9, h6.kept hg (fun g' e => by injection e with e; omega), gr_die h7 hg hw⟩
def ApRel (mode W : Int) (w : World) (gC p B : Nat) (al : Option Addr) (nl : Nat) (ss : List Pk) (gF : Nat) (k1 : Nat) (f2 : Int) (wr : World) : Prop := ∃ y : Int, CBlk gF 26 [.int .i64 (k1 : Int), .int .i64 f2, .int .i64 y] wr ∧ KpSt mode W w gC p B al nl ss wr
theorem rng_tload {P : Program} {o : Oper} {a : Act} {w : World} {K : Act → World → Prop} {b off : Nat} {cs : List Value} (hc : w.rangeAt b off cs) (ty : TypeId) (x : Operand) (ho : o.op = .load ty x) (hx : a.eval x = .pointer (some ⟨b, off, none⟩))
  {d : TypeDesc} (hu : P.underlying ty = some d) (hd : d.isRow = true) (hi : (P.info? ty).map (·.size) = some cs.length) (h : K (a.put o.dst (.agg cs.toArray)) w) : Sched.tq P o a w K := by
 unfold Sched.tq execOp
 simp only [ho, hx, Instr.loadAt, Instr.sureAddr, Sem.run_bind, Sem.run_pure, Result.andThen_ok, run_loadVar_mid w b off ty cs d hc hu hd hi]
 exact h
end Go.Proofs.YtlnkofpcidngoaaDoor
