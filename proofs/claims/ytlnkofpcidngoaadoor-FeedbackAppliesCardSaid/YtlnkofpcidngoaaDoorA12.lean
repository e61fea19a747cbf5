/- Several texts in one. -/
import Derived.Test.YtlnkofpcidngoaaDoorA0
import Derived.Test.YtlnkofpcidngoaaDoorA10
import Derived.Test.YtlnkofpcidngoaaDoorA11
import Derived.Lib.Hide
/- Layer 9 (compressor): owned contexts; appends; clones of rows. -/
namespace Go.Proofs.YtlnkofpcidngoaaDoor
open Go.ChangeShapes Go.WideShapes Go.ChangeAt Go.RowKit
theorem info_hdr : (Tryd.prog.info? 49).map (fun i => (i.zero, i.size, i.bytes)) = some (some (HVal zeroH), 15, 120) := by kernel_rfl
def zeroS : Snd := ⟨false, 0, 0, 0, 0, 0, 0, 0, none, 0, 0, []⟩
theorem info_snd : (Tryd.prog.info? 46).map (fun i => (i.zero, i.size, i.bytes)) = some (some (SVal zeroS), 9, 88) := by kernel_rfl
theorem hcells_1 (x : Hdr) : ∀ v ∈ HCells x, v.oneCell' = true := List.all_eq_true.1 (show (HCells x).all (·.oneCell') = true from rfl)
theorem scells_1 (x : Snd) : ∀ v ∈ SCells x, v.oneCell' = true := List.all_eq_true.1 (scells_one x)
abbrev OwnHd (B : Nat) (w : World) (a : Option Addr) (n c : Nat) (hs : List Hdr) : Prop := w.ownsRow B 49 15 (.slice a n c) n (hs.flatMap HCells)
theorem OwnHd.nil (B : Nat) (w : World) : OwnHd B w none 0 0 [] := World.ownsRow_nil w B _ 15
theorem OwnHd.len {B : Nat} {w : World} {a : Option Addr} {n c : Nat} {hs : List Hdr} (h : OwnHd B w a n c hs) : hs.length = n := by
 have h1 := h.1
 rw [flat_lenG hcells_len] at h1
 omega
theorem OwnHd.rd {B : Nat} {w : World} {a : Option Addr} {n c : Nat} {hs : List Hdr} (h : OwnHd B w a n c hs) (ho : ∀ x ∈ hs, HOk x) : RdH w a n c hs := by
 obtain ⟨h1, h2, h3⟩ := own_capG h
 exact ⟨h.len, h1, h2, h3, own_segG h, ho⟩
theorem app_hdr (B : Nat) (w : World) (a : Option Addr) (n cap : Nat) (l : List Hdr) (hown : OwnHd B w a n cap l) (b : Option Addr) (m c : Nat) (r : List Hdr) (hr : r.length = m) (hseg : Seg w b (r.flatMap HCells)) (hnil : b = none → m = 0 ∧ c = 0) (hn : n + m ≤ 1000000) (hB : B ≤ w.heap.size) :
  ∃ a' cap' w', (Builtin.append_ #[44, 44] 44 #[.slice a n cap, .slice b m c]).run Tryd.prog w = .ok (.slice a' (n + m) cap') w' ∧ OwnHd B w' a' (n + m) cap' (l ++ r) ∧ w.grownBy w' (Value.slice a n cap).ownBlock ∧ Follows w (.slice a n cap) (.slice a' (n + m) cap') := by
 obtain ⟨i0, hi, hz0, hz1, hz2⟩ := info_parts info_hdr
 exact app_rowG hcells_len hcells_1 B _ _ _ i0 _ 120 Tryd.underlying44 hi hz0 hz1 hz2 rfl (by omega) w a n cap l hown b m c r hr hseg hnil (by simp only [maxLen]; omega) (by omega) hB
theorem app_snd (B : Nat) (w : World) (a : Option Addr) (n cap : Nat) (l : List Snd) (hown : w.ownsRow B 46 9 (.slice a n cap) n (l.flatMap SCells)) (b : Option Addr) (m c : Nat) (r : List Snd) (hr : r.length = m) (hseg : Seg w b (r.flatMap SCells)) (hnil : b = none → m = 0 ∧ c = 0) (hn : n + m ≤ 1000000) (hB : B ≤ w.heap.size) :
  ∃ a' cap' w', (Builtin.append_ #[22, 22] 22 #[.slice a n cap, .slice b m c]).run Tryd.prog w = .ok (.slice a' (n + m) cap') w' ∧ w'.ownsRow B 46 9 (.slice a' (n + m) cap') (n + m) ((l ++ r).flatMap SCells) ∧ w.grownBy w' (Value.slice a n cap).ownBlock ∧ Follows w (.slice a n cap) (.slice a' (n + m) cap') := by
 obtain ⟨i0, hi, hz0, hz1, hz2⟩ := info_parts info_snd
 exact app_rowG scells_len scells_1 B _ _ _ i0 _ 88 Tryd.underlying22 hi hz0 hz1 hz2 rfl (by omega) w a n cap l hown b m c r hr hseg hnil (by simp only [maxLen]; omega) (by omega) hB
/-! ### plain parts -/
def plainS (s : Snd) : Snd := ⟨s.act, s.full, s.refr, s.ser, s.since, s.long, s.str, s.fol, none, 0, 0, s.refs⟩
def SameL (L M : List Snd) : Prop := M.map plainS = L.map plainS
theorem ctx_plain (mode width : Int) (s : Snd) : ctxB mode width (plainS s) = ctxB mode width s := rfl
theorem like_plain (s t : Snd) : likeB (plainS s) (plainS t) = likeB s t := rfl
theorem any_plain (s : Snd) : ∀ L : List Snd, (L.map plainS).any (likeB (plainS s)) = L.any (likeB s)
 | [] => rfl
 | t :: L => by simp only [List.map_cons, List.any_cons, any_plain s L, like_plain]
theorem okAt_plain (mode width : Int) (L : List Snd) (i : Nat) : okAt mode width (L.map plainS) i = okAt mode width L i := by
 unfold okAt
 rw [List.getElem?_map]
 cases h : L[i]? with
 | none => rfl
 | some s => simp only [Option.map_some, ctx_plain]; rw [← List.map_take, any_plain]
theorem valid_plain (mode width : Int) (L : List Snd) : validC mode width (L.map plainS) = validC mode width L := by
 unfold validC
 rw [List.length_map]
 congr 2
 exact congrArg _ (funext fun i => okAt_plain mode width L i)
theorem SameL.valid {L M : List Snd} (h : SameL L M) (mode width : Int) : validC mode width M = validC mode width L := by
 rw [← valid_plain mode width M, ← valid_plain mode width L, h]
theorem SameL.len {L M : List Snd} (h : SameL L M) : M.length = L.length := by simpa using congrArg List.length h
theorem SameL.refl (L : List Snd) : SameL L L := rfl
theorem SameL.trans {L M N : List Snd} (h : SameL L M) (k : SameL M N) : SameL L N := Eq.trans k h
theorem SameL.symm {L M : List Snd} (h : SameL L M) : SameL M L := Eq.symm h
theorem SameL.get {L M : List Snd} (h : SameL L M) {i : Nat} {s : Snd} (hs : L[i]? = some s) : ∃ t, M[i]? = some t ∧ plainS t = plainS s := by
 have h1 := congrArg (fun l => l[i]?) h
 simp only [List.getElem?_map, hs, Option.map_some] at h1
 cases hM : M[i]? with
 | none => rw [hM] at h1; cases h1
 | some t => rw [hM] at h1; exact ⟨t, rfl, by simpa using h1⟩
abbrev ownB (a : Option Addr) (n c : Nat) : Option Nat := (Value.slice a n c).ownBlock
def OwnC (B : Nat) (w : World) (a : Option Addr) (n c : Nat) (L : List Snd) : Prop :=
 w.ownsRow B 46 9 (.slice a n c) n (L.flatMap SCells) ∧ (∀ s ∈ L, OwnHd B w s.a s.n s.c s.refs ∧ ∀ x ∈ s.refs, HOk x) ∧ (∀ s ∈ L, ∀ g, ownB s.a s.n s.c = some g → ownB a n c ≠ some g) ∧
 L.Pairwise (fun s t => ∀ g, ownB s.a s.n s.c = some g → ownB t.a t.n t.c ≠ some g)
theorem OwnC.nil (B : Nat) (w : World) : OwnC B w none 0 0 [] := ⟨World.ownsRow_nil w B _ 9, by simp, by simp, List.Pairwise.nil⟩
theorem OwnC.stay {B : Nat} {w w' : World} {a : Option Addr} {n c : Nat} {L : List Snd} (h : OwnC B w a n c L) (hg : Gr w w') : OwnC B w' a n c L :=
 ⟨own_stayG h.1 hg, fun s hs => ⟨own_stayG (h.2.1 s hs).1 hg, (h.2.1 s hs).2⟩, h.2.2.1, h.2.2.2⟩
theorem OwnC.len {B : Nat} {w : World} {a : Option Addr} {n c : Nat} {L : List Snd} (h : OwnC B w a n c L) : L.length = n := by
 have h1 := h.1.1
 rw [flat_lenG scells_len] at h1
 omega
theorem OwnC.rd {B : Nat} {w : World} {a : Option Addr} {n c : Nat} {L : List Snd} (h : OwnC B w a n c L) : RdC w a n c L := by
 obtain ⟨h1, h2, h3⟩ := own_capG h.1
 exact ⟨h.len, h1, h2, h3, own_segG h.1, fun s hs => (h.2.1 s hs).1.rd (h.2.1 s hs).2⟩
theorem OwnC.weak {B B' : Nat} {w : World} {a : Option Addr} {n c : Nat} {L : List Snd} (h : OwnC B w a n c L) (hB : B' ≤ B) : OwnC B' w a n c L :=
 ⟨own_weakG h.1 hB, fun s hs => ⟨own_weakG (h.2.1 s hs).1 hB, (h.2.1 s hs).2⟩, h.2.2.1, h.2.2.2⟩
theorem OwnC.but {B : Nat} {w w' : World} {a : Option Addr} {n c : Nat} {L : List Snd} {r : Option Nat} (h : OwnC B w a n c L) (hg : w.grownBy w' r) (h1 : ∀ g, r = some g → g < B) : OwnC B w' a n c L := by
 have key : ∀ (x : Option Addr) (m k : Nat) (e : TypeId) (z : Nat) (vs : List Value), w.ownsRow B e z (.slice x m k) m vs → w'.ownsRow B e z (.slice x m k) m vs := fun x m k e z vs ho => ho.kept hg (by
  cases hv : (Value.slice x m k).ownBlock with
  | none => exact .inl rfl
  | some g => right; intro hr; have := h1 g hr.symm; have := (ho.lt g hv).1; omega)
 exact ⟨key _ _ _ _ _ _ h.1, fun s hs => ⟨key _ _ _ _ _ _ (h.2.1 s hs).1, (h.2.1 s hs).2⟩, h.2.2.1, h.2.2.2⟩
theorem OwnC.app {B : Nat} {w : World} {a : Option Addr} {n c : Nat} {L : List Snd} (h : OwnC B w a n c L) (s : Snd) (hs : OwnHd B w s.a s.n s.c s.refs) (ho : ∀ x ∈ s.refs, HOk x) (hd1 : ∀ g, ownB s.a s.n s.c = some g → ownB a n c ≠ some g) (hd2 : ∀ t ∈ L, ∀ g, ownB t.a t.n t.c = some g → ownB s.a s.n s.c ≠ some g)
  (q : Nat) (hq : w.heap[q]? = some (.cells (SCells s).toArray 46 (0, 0))) (hn : n ≤ 1000) (hB : B ≤ w.heap.size) (N : Nat) (hN : N = n + 1) :
  ∃ a' c' w', (Builtin.append_ #[22, 22] 22 #[.slice a n c, .slice (some ⟨q, 0, none⟩) 1 1]).run Tryd.prog w = .ok (.slice a' N c') w' ∧ OwnC B w' a' N c' (L ++ [s]) ∧ w.grownBy w' (ownB a n c) := by
 subst hN
 have hseg : Seg w (some ⟨q, 0, none⟩) ([s].flatMap SCells) := .inr ⟨q, 0, rfl, heap_lt hq, fun i hi => by rw [Nat.zero_add, cell_of_block hq]; simp⟩
 obtain ⟨a', c', w', hrun, hown, hg, hf⟩ := app_snd B w a n c L h.1 (some ⟨q, 0, none⟩) 1 1 [s] rfl hseg (fun e => by cases e) (by omega) hB
 have key : ∀ t ∈ L ++ [s], OwnHd B w t.a t.n t.c t.refs ∧ (∀ x ∈ t.refs, HOk x) ∧ ∀ g, ownB t.a t.n t.c = some g → ownB a n c ≠ some g := by
  intro t ht
  rcases List.mem_append.1 ht with ht | ht
  ·exact ⟨(h.2.1 t ht).1, (h.2.1 t ht).2, h.2.2.1 t ht⟩
  ·simp only [List.mem_singleton] at ht; subst ht
   exact ⟨hs, ho, hd1⟩
 refine ⟨a', c', w', hrun, ⟨hown, fun t ht => ⟨(key t ht).1.kept hg ?_, (key t ht).2.1⟩, fun t ht g hg2 => ?_, ?_⟩, hg⟩
 ·cases hv : (Value.slice t.a t.n t.c).ownBlock with
  | none => exact .inl rfl
  | some g => right; intro e; exact (key t ht).2.2 g hv e.symm
 ·rcases hf with e | ⟨g', e, hg'⟩
  ·show (Value.slice a' (n + 1) c').ownBlock ≠ some g
   rw [e]; exact (key t ht).2.2 g hg2
  ·show (Value.slice a' (n + 1) c').ownBlock ≠ some g
   rw [e]
   intro e2; injection e2 with e2
   have := ((key t ht).1.lt g hg2).2
   omega
 ·rw [List.pairwise_append]
  exact ⟨h.2.2.2, List.pairwise_singleton _ _, fun t ht u hu g hg2 => by simp only [List.mem_singleton] at hu; subst hu; exact hd2 t ht g hg2⟩
end Go.Proofs.YtlnkofpcidngoaaDoor
/- Layer 9 (compressor): clones; Clone of the program. -/
namespace Go.Proofs.YtlnkofpcidngoaaDoor
open Go.ChangeShapes Go.WideShapes Go.ChangeAt Go.RowKit
theorem own_lit0 (B : Nat) (w : World) (hB : B ≤ w.heap.size) (e : TypeId) (k : Nat) : (w.alloc (.cells #[] e)).ownsRow B e k (.slice (some ⟨w.heap.size, 0, none⟩) 0 0) 0 [] := by
 have h := World.ownsRow_lit (base := B) (e := e) (size := k) w (([] : List Int).map (Value.int .u8)).toArray 0 hB (by simp [maxLen]) (by simp)
 exact h
def ClHPost (n : Nat) (hs : List Hdr) (w : World) (e : Ending) (w' : World) : Prop := ∃ a' c', e = .returned (.slice a' n c') ∧ OwnHd w.heap.size w' a' n c' hs ∧ Gr w w'
set_option maxRecDepth 20000 in
set_option maxHeartbeats 2000000 in
theorem cloneH_any (a : Option Addr) (n c : Nat) (hs : List Hdr) (w : World) (hr : RdH w a n c hs) (hn : n ≤ 1000) : Calls Tryd.prog 74 #[.slice a n c] w (ClHPost n hs w) := by
 obtain ⟨h1, h2, h3, h4, h5, h6⟩ := hr
 cases a with
 | none =>
  obtain ⟨rfl, rfl⟩ := h4 rfl
  obtain rfl : hs = [] := List.eq_nil_of_length_eq_zero h1
  have hnil : ∀ u : World, (binOp .eql 44 (.slice none 0 0) (.slice none 0 0)).run Tryd.prog u = .ok (.bool true) u := fun u => Lib.run_eql_slice_nil u _ _ _ _ _ _ _ Tryd.underlying44
  clear h1 h2 h3 h4 h5 h6
  go_enter Tryd.func74, Tryd.ntmps74
  go_wp2_with fail
  go_ret
  exact ⟨none, 0, rfl, OwnHd.nil _ _, Gr.refl _⟩
 | some x =>
  have hnil : ∀ u : World, (binOp .eql 44 (.slice (some x) n c) (.slice none 0 0)).run Tryd.prog u = .ok (.bool false) u := fun u => Lib.run_eql_slice_nil u _ _ _ _ _ _ _ Tryd.underlying44
  obtain ⟨w1, hw1⟩ : ∃ y, y = w.alloc (.cells #[] 49) := ⟨_, rfl⟩
  have ho := own_lit0 w.heap.size w (Nat.le_refl _) 49 15
  rw [← hw1] at ho
  have hg1 : Gr w w1 := by rw [hw1]; exact Gr.alloc _ _
  obtain ⟨a3, cap3, w3, hrun, ho3, hg3, _⟩ := app_hdr w.heap.size w1 (some ⟨w.heap.size, 0, none⟩) 0 0 [] ho (some x) n c hs h1 (seg_kept h5 hg1) (fun e => by cases e) (by omega) hg1.size
  rw [Nat.zero_add] at hrun ho3
  rw [List.nil_append] at ho3
  have HRUN := zqd hrun
  have HO3 := zqd ho3
  have HG3 := zqd (grown_ownG hg1 ho (Nat.le_refl _) hg3)
  have HW1 := zqd hw1
  clear ho3 hrun hg1 ho hw1 hg3 h1 h2 h3 h4 h5 h6
  go_enter Tryd.func74, Tryd.ntmps74
  go_upto_region 3 with (fail)
  go_wp2_with (at_builtin; (have hw1 := HW1.out; rw [← hw1]; clear hw1); refine wpList_app rfl _ _ _ rfl rfl rfl HRUN.out ?_)
  go_ret
  exact ⟨a3, cap3, rfl, HO3.out, HG3.out⟩
def ClSPost (n : Nat) (L : List Snd) (w : World) (e : Ending) (w' : World) : Prop := ∃ a' c', e = .returned (.slice a' n c') ∧ w'.ownsRow w.heap.size 46 9 (.slice a' n c') n (L.flatMap SCells) ∧ Gr w w'
set_option maxRecDepth 20000 in
set_option maxHeartbeats 2000000 in
theorem cloneS_any (a : Option Addr) (n c : Nat) (L : List Snd) (w : World) (hr : RdC w a n c L) (hn : n ≤ 1000) : Calls Tryd.prog 73 #[.slice a n c] w (ClSPost n L w) := by
 obtain ⟨h1, h2, h3, h4, h5, h6⟩ := hr
 cases a with
 | none =>
  obtain ⟨rfl, rfl⟩ := h4 rfl
  obtain rfl : L = [] := List.eq_nil_of_length_eq_zero h1
  have hnil : ∀ u : World, (binOp .eql 22 (.slice none 0 0) (.slice none 0 0)).run Tryd.prog u = .ok (.bool true) u := fun u => Lib.run_eql_slice_nil u _ _ _ _ _ _ _ Tryd.underlying22
  clear h1 h2 h3 h4 h5 h6
  go_enter Tryd.func73, Tryd.ntmps73
  go_wp2_with fail
  go_ret
  exact ⟨none, 0, rfl, World.ownsRow_nil _ _ _ 9, Gr.refl _⟩
 | some x =>
  have hnil : ∀ u : World, (binOp .eql 22 (.slice (some x) n c) (.slice none 0 0)).run Tryd.prog u = .ok (.bool false) u := fun u => Lib.run_eql_slice_nil u _ _ _ _ _ _ _ Tryd.underlying22
  obtain ⟨w1, hw1⟩ : ∃ y, y = w.alloc (.cells #[] 46) := ⟨_, rfl⟩
  have ho := own_lit0 w.heap.size w (Nat.le_refl _) 46 9
  rw [← hw1] at ho
  have hg1 : Gr w w1 := by rw [hw1]; exact Gr.alloc _ _
  obtain ⟨a3, cap3, w3, hrun, ho3, hg3, _⟩ := app_snd w.heap.size w1 (some ⟨w.heap.size, 0, none⟩) 0 0 [] ho (some x) n c L h1 (seg_kept h5 hg1) (fun e => by cases e) (by omega) hg1.size
  rw [Nat.zero_add] at hrun ho3
  rw [List.nil_append] at ho3
  have HRUN := zqd hrun
  have HO3 := zqd ho3
  have HG3 := zqd (grown_ownG hg1 ho (Nat.le_refl _) hg3)
  have HW1 := zqd hw1
  clear ho3 hrun hg1 ho hw1 hg3 h1 h2 h3 h4 h5 h6
  go_enter Tryd.func73, Tryd.ntmps73
  go_upto_region 3 with (fail)
  go_wp2_with (at_builtin; (have hw1 := HW1.out; rw [← hw1]; clear hw1); refine wpList_app rfl _ _ _ rfl rfl rfl HRUN.out ?_)
  go_ret
  exact ⟨a3, cap3, rfl, HO3.out, HG3.out⟩
end Go.Proofs.YtlnkofpcidngoaaDoor
/- Layer 9 (compressor): Clone of the program. -/
namespace Go.Proofs.YtlnkofpcidngoaaDoor
open Go.ChangeShapes Go.WideShapes Go.ChangeAt Go.RowKit
def NHd (hs : List Hdr) (n : Nat) : Sched.NPred := fun lo _ v w => ∃ a c, v = .slice a n c ∧ OwnHd lo w a n c hs
theorem NHd.stable (hs : List Hdr) (n : Nat) : Sched.Stable (NHd hs n) := by
 rintro lo hi v w w' ⟨a, c, h1, h2⟩ hg
 exact ⟨a, c, h1, own_stayG h2 hg⟩
def setA (s : Snd) (a : Option Addr) (c : Nat) : Snd := ⟨s.act, s.full, s.refr, s.ser, s.since, s.long, s.str, s.fol, a, s.n, c, s.refs⟩
theorem setA_plain (s : Snd) (a : Option Addr) (c : Nat) : plainS (setA s a c) = plainS s := rfl
def ClRel (B0 B : Nat) (L : List Snd) (g0 c0 : Nat) (k : Nat) (wr : World) : Prop := ∃ M : List Snd, M.length = k ∧ SameL (L.take k) M ∧ (∀ s ∈ M, s.refs.length = s.n) ∧
 wr.ownsRow B0 46 9 (.slice (some ⟨g0, 0, none⟩) L.length c0) L.length ((M ++ L.drop k).flatMap SCells) ∧ (∀ s ∈ M, OwnHd B wr s.a s.n s.c s.refs ∧ ∀ x ∈ s.refs, HOk x) ∧ M.Pairwise (fun s t => ∀ g, ownB s.a s.n s.c = some g → ownB t.a t.n t.c ≠ some g)
theorem drop_mid {M L : List Snd} {k : Nat} {s t : Snd} (hk : M.length = k) (hs : L[k]? = some s) : (M ++ L.drop k)[k]? = some s ∧ (M ++ L.drop k).set k t = (M ++ [t]) ++ L.drop (k + 1) := by
 have hl := lt_someG hs
 have e : L.drop k = s :: L.drop (k + 1) := by
  rw [List.drop_eq_getElem_cons hl]
  congr 1
  rw [List.getElem?_eq_getElem hl] at hs
  exact Option.some.inj hs
 rw [e]
 subst hk
 constructor
 ·simp
 ·simp
theorem ClRel.step {B0 B : Nat} {L : List Snd} {g0 c0 k : Nat} {wr wq : World} {s : Snd} {a' : Option Addr} {c' lo : Nat} (h : ClRel B0 B L g0 c0 k wr) (hg : Gr wr wq) (hB : B ≤ wr.heap.size) (hgB : g0 < B) (hs : L[k]? = some s) (hsl : s.refs.length = s.n) (hso : ∀ x ∈ s.refs, HOk x) (hown : OwnHd lo wq a' s.n c' s.refs) (hlo : wr.heap.size ≤ lo) :
  ClRel B0 B L g0 c0 (k + 1) (wq.setCell ⟨g0, k * 9 + 8, none⟩ (.slice a' s.n c')) := by
 obtain ⟨M, h1, h2, h3, h4, h5, h6⟩ := h
 obtain ⟨e1, e2⟩ := drop_mid (t := setA s a' c') h1 hs
 have hrow := own_set scells_len (own_stayG h4 hg) k 8 s (setA s a' c') [.slice a' s.n c'] e1 (by simp) rfl
 rw [e2] at hrow
 have hgs : wq.grownBy (wq.setCell ⟨g0, k * 9 + 8, none⟩ (.slice a' s.n c')) (some g0) := grown_setAt wq g0 (k * 9 + 8) _
 have key : ∀ (x : Option Addr) (m q : Nat) (hs : List Hdr), OwnHd B wq x m q hs → OwnHd B (wq.setCell ⟨g0, k * 9 + 8, none⟩ (.slice a' s.n c')) x m q hs := fun x m q hs ho => ho.kept hgs (by
  cases hv : (Value.slice x m q).ownBlock with
  | none => exact .inl rfl
  | some g => right; intro hr; injection hr with hr; have := (ho.lt g hv).1; omega)
 refine ⟨M ++ [setA s a' c'], by simp [h1], ?_, ?_, hrow, ?_, ?_⟩
 ·unfold SameL at h2 ⊢
  rw [List.map_append, h2, List.take_add_one, hs]
  simp [setA_plain]
 ·intro t ht
  rcases List.mem_append.1 ht with ht | ht
  ·exact h3 t ht
  ·simp only [List.mem_singleton] at ht; subst ht; exact hsl
 ·intro t ht
  rcases List.mem_append.1 ht with ht | ht
  ·exact ⟨key _ _ _ _ (own_stayG (h5 t ht).1 hg), (h5 t ht).2⟩
  ·simp only [List.mem_singleton] at ht; subst ht
   exact ⟨key _ _ _ _ (own_weakG hown (by omega)), hso⟩
 ·rw [List.pairwise_append]
  refine ⟨h6, List.pairwise_singleton _ _, fun t ht u hu g hg1 hg2 => ?_⟩
  simp only [List.mem_singleton] at hu; subst hu
  have l1 := ((h5 t ht).1.lt g hg1).2
  have l2 := (hown.lt g hg2).1
  omega
def ClonePostC (mode width : Int) (n : Nat) (L : List Snd) (w : World) (e : Ending) (w' : World) : Prop :=
 ∃ a' c' M, e = .returned (CVal mode width a' n c') ∧ SameL L M ∧ OwnC w.heap.size w' a' n c' M ∧ Gr w w'
set_option maxHeartbeats 2000000 in
set_option maxRecDepth 100000 in
theorem clone_c (mode width : Int) (a : Option Addr) (n c : Nat) (L : List Snd) (w : World) (hr : RdC w a n c L) (hn : 1 ≤ n) (hn2 : n ≤ 1000) (hm : ∀ s ∈ L, s.n ≤ 1000) : Calls Tryd.prog 46 #[CVal mode width a n c] w (ClonePostC mode width n L w) := by
 have HR := zqd hr
 have HN := zqd hr.1
 have HM := zqd hm
 clear hr hm
 go_enter Tryd.func46, Tryd.ntmps46
 go_upto_region 1 with (fail)
 obtain ⟨w1, hw1⟩ : ∃ y, y = (w.alloc (.cells #[.int .i64 mode, .int .i64 width, .slice a n c] 24)).alloc (.cells #[.int .i64 0, .int .i64 0, .slice none 0 0] 24) := ⟨_, rfl⟩
 have hb1 : CBlk w.heap.size 24 [.int .i64 mode, .int .i64 width, .slice a n c] w1 := by rw [hw1]; exact (CBlk.new _ _ _).kept (Gr.alloc _ _)
 have hz1 : CBlk (w.heap.size + 1) 24 [.int .i64 0, .int .i64 0, .slice none 0 0] w1 := by rw [hw1]; exact heap_two _ _ _
 have hg1 : Gr w w1 := by rw [hw1]; exact (Gr.alloc _ _).trans (Gr.alloc _ _)
 first | rw [← hw1] | (go_show; fail)
 have HB1 := zqd hb1
 have HZ1 := zqd hz1
 have HG1 := zqd hg1
 have x2 := hb1.at 2 rfl
 have hsz : w.heap.size + 1 < w1.heap.size := hz1.lt
 clear hw1 hb1 hz1 hg1
 go_wp2_with fail
 refine (cloneS_any a n c L w1 (HR.out.kept HG1.out) hn2).mono ?_
 rintro e w2 ⟨a2, c2, rfl, ho2, hg2⟩
 obtain ⟨g0, rfl⟩ : ∃ g0, a2 = some ⟨g0, 0, none⟩ := by
  rcases ho2.2 with ⟨hv, h0⟩ | ⟨g, cap', cur, hv, _⟩
  ·omega
  ·injection hv with e1; exact ⟨g, e1⟩
 obtain ⟨-, -, hgl, hgu⟩ := own_blockG ho2 rfl
 have HO2 := zqd ho2
 have hb2 := HB1.out.kept hg2
 have hz2 := HZ1.out.kept hg2
 have y2 := hb2.at 2 rfl
 have yf2 := hb2.fz 2
 have HG2 := zqd (HG1.out.trans hg2)
 have HB2 := zqd hb2
 have HZ2 := zqd hz2
 clear ho2 hb2 hz2 x2 hg2
 go_upto_region 2 with (fail)
 obtain ⟨w3, hw3⟩ : ∃ y, y = w2.setCell ⟨w.heap.size, 2, none⟩ (.slice (some ⟨g0, 0, none⟩) n c2) := ⟨_, rfl⟩
 rw [← hw3]
 have HB3 := zqd (show CBlk w.heap.size 24 [.int .i64 mode, .int .i64 width, .slice (some ⟨g0, 0, none⟩) n c2] w3 by rw [hw3]; exact HB2.out.set 2 _ rfl)
 have HZ3 := zqd (show CBlk (w.heap.size + 1) 24 [.int .i64 0, .int .i64 0, .slice none 0 0] w3 by rw [hw3]; exact HZ2.out.other 2 _ (by omega))
 have HO3 := zqd (show w3.ownsRow w1.heap.size 46 9 (.slice (some ⟨g0, 0, none⟩) n c2) n (L.flatMap SCells) by rw [hw3]; exact ownsRow_setCell_other HO2.out (by simp only [Value.ownBlock]; intro h; injection h; omega) _)
 have HG3 := zqd (show Gr w w3 by rw [hw3]; exact gr_setCell HG2.out (Nat.le_refl _) _ _)
 have hgu3 := (own_blockG HO3.out rfl).2.2.2
 have hlb := HB3.out.lt
 have hlz := HZ3.out.lt
 clear hw3 y2 yf2 HO2 HG2 HB2 HZ2 hgu
 have z2 := HB3.out.at 2 rfl
 go_wp2_with fail
 go_loopw [11] (fun i wr => ∃ k : Nat, k ≤ n ∧ i = .int .i64 k ∧ ClRel w1.heap.size w3.heap.size L g0 c2 k wr ∧ CBlk w.heap.size 24 [.int .i64 mode, .int .i64 width, .slice (some ⟨g0, 0, none⟩) n c2] wr ∧ CBlk (w.heap.size + 1) 24 [.int .i64 0, .int .i64 0, .slice none 0 0] wr ∧ w3.heap.size ≤ wr.heap.size ∧ Gr w wr) (fun i _ => n - (intOf i).toNat)
 case atStart => exact ⟨0, by omega, rfl, ⟨[], rfl, rfl, by simp, by rw [HN.out]; exact HO3.out, by simp, List.Pairwise.nil⟩, HB3.out, HZ3.out, Nat.le_refl _, HG3.out⟩
 case round =>
  obtain ⟨k, hk, rfl, hcl, hb, hz, hle, hg⟩ := hrel
  have HCL := zqd hcl
  have HB := zqd hb
  have HZ := zqd hz
  have HG := zqd hg
  clear hcl hb hz hg z2
  by_cases hlt : k < n
  ·obtain ⟨s, hs, hrs⟩ := (HR.out.kept HG.out).get hlt
   have HS := zqd hs
   have HRS := zqd hrs
   obtain ⟨M, m1, m2, m3, hrow, m5, m6⟩ := HCL.out
   rw [HN.out] at hrow
   have hmid := (drop_mid (t := s) m1 hs).1
   have HROW := zqd hrow
   have hcells : wr.rangeAt g0 (k * 9) (SCells s) := fun j v hv => by
    have h1 := flat_atG scells_len (M ++ L.drop k) k j s hmid (by have := lt_someG hv; exact this)
    have h2 := hrow.cells (g := g0) rfl (k * 9 + j) v (by rw [h1]; exact hv)
    rw [addr_add, Nat.zero_add] at h2
    exact h2
   have HC8 := zqd (show ∀ u, Gr wr u → u.cell? ⟨g0, k * 9 + 8, none⟩ = some (.slice s.a s.n s.c) from fun u hu => hu.cell (hcells 8 _ rfl))
   have c8 := HC8.out
   have x2 : ∀ u, Gr wr u → u.cell? ⟨w.heap.size, 2, none⟩ = some (.slice (some ⟨g0, 0, none⟩) n c2) := fun u hu => (HB.out.kept hu).at 2 rfl
   clear hs hrs hrow hmid hcells m1 m2 m3 m5 m6
   go_upto_region 5 with (fail)
   refine Sched.wp_region_sched 10 [] [9] (by kernel_rfl) (by kernel_rfl) ?_
   simp only [List.take_succ_cons, List.take_zero, List.drop_succ_cons, List.drop_zero]
   repeat (first | ((first | (refine Sched.walk1_no rfl rfl (fun K hK => ?_)) | (refine Sched.walk1_gr rfl rfl rfl (fun K hK => ?_); apply Exists.intro; refine ⟨fun w1 hw1 => ?_, ?_⟩; (focus (go_simp; (try go_ints); (try (simp only [IntWalk.iteOmega]; go_simp)); first | done | (with_reducible rfl) | (with_reducible exact ⟨rfl, rfl⟩))))); simp only [Act.put, zqa, zqb, zqc]; refine hK _ ?_; clear hK K) | (refine Sched.walk1_box rfl rfl ?_; apply Exists.intro; refine ⟨fun w1 hw1 => ?_, ?_⟩; (focus (go_simp; exact ⟨Gr.alloc _ _, rfl, by simp, heap_alloc_new _ _⟩))))
   refine Sched.walk1_new (NHd s.refs s.n) rfl rfl (NHd.stable _ _) (fun u hu => ?_) ?_
   ·go_simp
    go_at_call 74
    refine (cloneH_any s.a s.n s.c s.refs u (HRS.out.kept hu) (HM.out s (List.mem_of_getElem? HS.out))).mono ?_
    rintro e w8 ⟨a8, c8, rfl, ho8, hgr⟩
    exact ⟨_, rfl, hgr, a8, c8, rfl, ho8⟩
   (with_reducible refine Sched.walk1_nil ?_)
   intro wq hwq
   dsimp only [Sched.EndN, List.nil_append, List.cons_append, Act.put]
   rintro lo hi v5 ⟨a5, c5, rfl, ho5⟩ hlo - - -
   (try simp only [zqa, zqb, zqc])
   have HO5 := zqd ho5
   have y8 := HC8.out wq hwq
   have yf8 := (own_stayG HROW.out hwq).frozenAt (k * 9 + 8)
   clear c8 x2 ho5
   repeat (first | (refine Sched.walk2_no rfl (fun K hK => ?_); simp only [Act.put, zqa, zqb, zqc]; refine hK _ ?_; clear hK K) | (refine Sched.walk2_go rfl (fun K hK => ?_); go_simp; (try go_ints); (try (simp only [IntWalk.iteOmega]; go_simp)); (refine hK _ _ ?_; clear hK K)))
   refine Sched.walk2_nil ?_
   obtain ⟨w5, hw5⟩ : ∃ y, y = wq.setCell ⟨g0, k * 9 + 8, none⟩ (.slice a5 s.n c5) := ⟨_, rfl⟩
   rw [← hw5]
   have HCL5 := zqd (show ClRel w1.heap.size w3.heap.size L g0 c2 (k + 1) w5 by rw [hw5]; exact HCL.out.step hwq hle hgu3 HS.out HRS.out.1 HRS.out.2.2.2.2.2 HO5.out hlo)
   have HB5 := zqd (show CBlk w.heap.size 24 [.int .i64 mode, .int .i64 width, .slice (some ⟨g0, 0, none⟩) n c2] w5 by rw [hw5]; exact (HB.out.kept hwq).other _ _ (by omega))
   have HZ5 := zqd (show CBlk (w.heap.size + 1) 24 [.int .i64 0, .int .i64 0, .slice none 0 0] w5 by rw [hw5]; exact (HZ.out.kept hwq).other _ _ (by omega))
   have HG5 := zqd (show Gr w w5 by rw [hw5]; exact gr_setCell (HG.out.trans hwq) (by omega) _ _)
   have hle5 : w3.heap.size ≤ w5.heap.size := by rw [hw5]; exact Nat.le_trans (Nat.le_trans hle hwq.size) (grown_setAt wq g0 (k * 9 + 8) _).size
   clear hw5 y8 yf8 hwq
   go_wp2_with fail
   go_roundw
   case rel => exact ⟨k + 1, by omega, by go_num, HCL5.out, HB5.out, HZ5.out, hle5, HG5.out⟩
   case measure => (simp [intOf] <;> omega)
  ·obtain rfl : k = n := by omega
   obtain ⟨M, m1, m2, m3, m4, m5, m6⟩ := HCL.out
   rw [← HN.out, List.drop_length, List.append_nil, HN.out] at m4
   rw [← HN.out, List.take_length] at m2
   have ho := own_blockG m4 rfl
   have hown : OwnC w1.heap.size wr (some ⟨g0, 0, none⟩) k c2 M := ⟨m4, fun t ht => ⟨own_weakG (m5 t ht).1 (by omega), (m5 t ht).2⟩, fun t ht g hg2 => by
    have := ((m5 t ht).1.lt g hg2).1
    intro h
    have h2 : some g0 = some g := h
    injection h2 with h2; omega, m6⟩
   have HOWN := zqd hown
   have HM2 := zqd m2
   clear m1 m2 m3 m4 m5 m6 ho hown HCL
   go_wp2_with (first | (refine cblk_load rfl 24 _ rfl w.heap.size rfl HB.out Tryd.underlying24 rfl (by kernel_rfl) ?_) | (refine cblk_store rfl 24 _ _ rfl (w.heap.size + 1) [.int .i64 mode, .int .i64 width, .slice (some ⟨g0, 0, none⟩) k c2] HZ.out rfl rfl rfl (by kernel_rfl) rfl ?_; intro w9 hb9 he9; have HB9 := zqd hb9; have HGE := zqd (show Gr w w9 by rw [← he9]; exact gr_setCells HG.out (by omega) _ _); have HO9 := zqd (show OwnC w.heap.size w9 (some ⟨g0, 0, none⟩) k c2 M by rw [← he9]; exact (HOWN.out.but (grown_setCells (w.heap.size + 1) _ 0 wr) (fun g hg => by injection hg with hg; omega)).weak (by omega)); clear hb9 he9))
   refine bodyPost_ret (results_c0 Tryd.results46 _ _ (w.heap.size + 1) _ _ rfl HB9.out Tryd.underlying24 rfl (by kernel_rfl)) rfl ?_
   exact ⟨_, _, M, rfl, HM2.out, HO9.out, HGE.out⟩
end Go.Proofs.YtlnkofpcidngoaaDoor
/- Layer 9 (compressor): Copy of the reference. -/
namespace Go.Proofs.YtlnkofpcidngoaaDoor
open Go.ChangeShapes Go.WideShapes Go.ChangeAt Go.RowKit
def CpRel (B g : Nat) (mode width : Int) (L : List Snd) (k : Nat) (wr : World) : Prop := ∃ (a' : Option Addr) (c' : Nat) (M : List Snd), SameL (L.take k) M ∧ OwnC B wr a' k c' M ∧ CBlk g 24 [.int .i64 mode, .int .i64 width, .slice a' k c'] wr
set_option maxHeartbeats 2000000 in
set_option maxRecDepth 100000 in
theorem copy_c (mode width : Int) (a : Option Addr) (n c : Nat) (L : List Snd) (w : World) (hr : RdC w a n c L) (hn2 : n ≤ 1000) (hm : ∀ s ∈ L, s.n ≤ 1000) : Calls Tryd.prog 32 #[CVal mode width a n c] w (ClonePostC mode width n L w) := by
 have HR := zqd hr
 have HN := zqd hr.1
 have HM := zqd hm
 clear hr hm
 go_enter Tryd.func32, Tryd.ntmps32
 go_upto_region 1 with (fail)
 obtain ⟨w1, hw1⟩ : ∃ y, y = (w.alloc (.cells #[.int .i64 mode, .int .i64 width, .slice a n c] 24)).alloc (.cells #[.int .i64 0, .int .i64 0, .slice none 0 0] 24) := ⟨_, rfl⟩
 have hb1 : CBlk w.heap.size 24 [.int .i64 mode, .int .i64 width, .slice a n c] w1 := by rw [hw1]; exact (CBlk.new _ _ _).kept (Gr.alloc _ _)
 have hz1 : CBlk (w.heap.size + 1) 24 [.int .i64 0, .int .i64 0, .slice none 0 0] w1 := by rw [hw1]; exact heap_two _ _ _
 have hg1 : Gr w w1 := by rw [hw1]; exact (Gr.alloc _ _).trans (Gr.alloc _ _)
 first | rw [← hw1] | (go_show; fail)
 have HB1 := zqd hb1
 have HZ1 := zqd hz1
 have HG1 := zqd hg1
 have hlz1 := hz1.lt
 clear hw1 hb1 hz1 hg1
 go_upto_region 2 with (refine cblk_load rfl 24 _ rfl w.heap.size rfl HB1.out Tryd.underlying24 rfl (by kernel_rfl) ?_)
 obtain ⟨w2, hw2⟩ : ∃ y, y = w1.alloc (.cells #[.int .i64 mode, .int .i64 width, .slice a n c] 24) := ⟨_, rfl⟩
 have ho2 : CBlk w1.heap.size 24 [.int .i64 mode, .int .i64 width, .slice a n c] w2 := by rw [hw2]; exact CBlk.new _ _ _
 have hg2 : Gr w1 w2 := by rw [hw2]; exact Gr.alloc _ _
 first | rw [← hw2] | (go_show; fail)
 have HO2 := zqd ho2
 have HB2 := zqd (HB1.out.kept hg2)
 have HZ2 := zqd (HZ1.out.kept hg2)
 have HG2 := zqd (HG1.out.trans hg2)
 have y2 := ho2.at 2 rfl
 have yf := ho2.fz 2
 clear hw2 ho2 hg2 HB1 HZ1 HG1
 go_upto_region 3 with (fail)
 obtain ⟨w3, hw3⟩ : ∃ y, y = w2.setCell ⟨w1.heap.size, 2, none⟩ (.slice none 0 0) := ⟨_, rfl⟩
 rw [← hw3]
 have HO3 := zqd (show CBlk w1.heap.size 24 [.int .i64 mode, .int .i64 width, .slice none 0 0] w3 by rw [hw3]; exact HO2.out.set 2 _ rfl)
 have HB3 := zqd (show CBlk w.heap.size 24 [.int .i64 mode, .int .i64 width, .slice a n c] w3 by rw [hw3]; exact HB2.out.other 2 _ (by omega))
 have HZ3 := zqd (show CBlk (w.heap.size + 1) 24 [.int .i64 0, .int .i64 0, .slice none 0 0] w3 by rw [hw3]; exact HZ2.out.other 2 _ (by omega))
 have HG3 := zqd (show Gr w w3 by rw [hw3]; exact gr_setCell HG2.out (by omega) _ _)
 have hlo := HO3.out.lt
 clear hw3 y2 yf HO2 HB2 HZ2 HG2
 go_wp2_with fail
 go_loopw [4] (fun i wr => ∃ k : Nat, k ≤ n ∧ i = .int .i64 k ∧ CpRel w3.heap.size w1.heap.size mode width L k wr ∧ CBlk w.heap.size 24 [.int .i64 mode, .int .i64 width, .slice a n c] wr ∧ CBlk (w.heap.size + 1) 24 [.int .i64 0, .int .i64 0, .slice none 0 0] wr ∧ w3.heap.size ≤ wr.heap.size ∧ Gr w wr) (fun i _ => n - (intOf i).toNat)
 case atStart => exact ⟨0, by omega, rfl, ⟨none, 0, [], rfl, OwnC.nil _ _, HO3.out⟩, HB3.out, HZ3.out, Nat.le_refl _, HG3.out⟩
 case round =>
  obtain ⟨k, hk, rfl, hcp, hb, hz, hle, hg⟩ := hrel
  obtain ⟨a', c', M, hsm, hown, hout⟩ := hcp
  have HSM := zqd hsm
  have HOWN := zqd hown
  have HOUT := zqd hout
  have HB := zqd hb
  have HZ := zqd hz
  have HG := zqd hg
  have b2 := hb.at 2 rfl
  clear hsm hown hout hb hz hg
  by_cases hlt : k < n
  ·obtain ⟨s, hs, hrs⟩ := (HR.out.kept HG.out).get hlt
   obtain ⟨b, off, ea, -, hrow⟩ := (HR.out.kept HG.out).row (by omega)
   subst ea
   have HS := zqd hs
   have HRG := zqd (hrow k s hs)
   have HRS := zqd hrs
   clear hs hrs hrow
   go_upto_region 7 with (refine rng_load rfl 46 _ rfl b (off + k * 9) rfl (SCells s) HRG.out Tryd.underlying46 rfl (by kernel_rfl) ?_)
   obtain ⟨w5, hw5⟩ : ∃ y, y = wr.alloc (.cells (SCells s).toArray 46) := ⟨_, rfl⟩
   have hs5 : CBlk wr.heap.size 46 (SCells s) w5 := by rw [hw5]; exact CBlk.new _ _ _
   have hg5 : Gr wr w5 := by rw [hw5]; exact Gr.alloc _ _
   simp only [SCells] at hw5
   first | rw [← hw5] | (go_show; fail)
   have HS5 := zqd hs5
   have HG5 := zqd hg5
   have HRS5 := zqd (HRS.out.kept hg5)
   have l5 := hs5.lt
   clear hw5 hs5 hg5 HRG b2
   obtain ⟨r1, r2, r3, r4, r5, r6⟩ := HRS5.out
   obtain ⟨a6, c6, w6, hrun6, ho6, hg6, -⟩ := app_hdr w5.heap.size w5 none 0 0 [] (OwnHd.nil _ _) s.a s.n s.c s.refs r1 r5 r4 (by have := HM.out s (List.mem_of_getElem? HS.out); omega) (Nat.le_refl _)
   rw [Nat.zero_add] at hrun6 ho6
   rw [List.nil_append] at ho6
   have HRUN6 := zqd hrun6
   have hg56 : Gr w5 w6 := hg6
   have HO6 := zqd ho6
   have hs6 := HS5.out.kept hg56
   have HS6 := zqd hs6
   have HG6 := zqd (HG5.out.trans hg56)
   have s8 := HS5.out.at 8 rfl
   have y8 := hs6.at 8 rfl
   have yf8 := hs6.fz 8
   have hle6 := hg56.size
   clear r1 r2 r3 r4 r5 r6 hrun6 ho6 hg6 hg56 hs6
   go_upto_region 8 with (at_builtin; refine wpList_app rfl _ _ _ rfl rfl rfl HRUN6.out ?_)
   obtain ⟨w7, hw7⟩ : ∃ y, y = w6.setCell ⟨wr.heap.size, 8, none⟩ (.slice a6 s.n c6) := ⟨_, rfl⟩
   rw [← hw7]
   have HS7 := zqd (show CBlk wr.heap.size 46 (SCells (setA s a6 c6)) w7 by rw [hw7]; exact HS6.out.set 8 _ rfl)
   have hgs : w6.grownBy w7 (some wr.heap.size) := by rw [hw7]; exact grown_setAt w6 _ 8 _
   have HO7 := zqd (show OwnHd w5.heap.size w7 a6 s.n c6 s.refs from HO6.out.kept hgs (by
    cases hv : (Value.slice a6 s.n c6).ownBlock with
    | none => exact .inl rfl
    | some g => right; intro e; injection e with e; have := (HO6.out.lt g hv).1; omega))
   have HG7 := zqd (show Gr wr w7 by rw [hw7]; exact gr_setCell HG6.out (Nat.le_refl _) _ _)
   clear hw7 s8 y8 yf8 hgs
   have HOUT7 := zqd (HOUT.out.kept HG7.out)
   have o2 := HOUT7.out.at 2 rfl
   have HOWN7 := zqd (HOWN.out.stay HG7.out)
   have hle7 := HO7.out
   have hdis : ∀ g, ownB a6 s.n c6 = some g → w5.heap.size ≤ g ∧ g < w7.heap.size := fun g hg => HO7.out.lt g hg
   have holt : ∀ g, ownB a' k c' = some g → g < wr.heap.size := fun g hg => (HOWN.out.1.lt g hg).2
   have htlt : ∀ t ∈ M, ∀ g, ownB t.a t.n t.c = some g → g < wr.heap.size := fun t ht g hg => ((HOWN.out.2.1 t ht).1.lt g hg).2
   obtain ⟨a9, c9, w9, hrun9, ho9, hg9⟩ := (HOWN7.out.stay (Gr.alloc w7 (.cells (SCells (setA s a6 c6)).toArray 46))).app (setA s a6 c6) (own_stayG (own_weakG HO7.out (by omega)) (Gr.alloc _ _)) HRS.out.2.2.2.2.2 (fun g hg => by
     have h1 := hdis g hg
     intro h2; have := holt g h2; omega) (fun t ht g hg => by
     have h1 := htlt t ht g hg
     intro h2; have := hdis g h2; omega) w7.heap.size (CBlk.new _ _ _) (by omega) (by have := HG7.out.size; simp; omega) (k + 1) rfl
   have HRUN9 := zqd hrun9
   have HO9 := zqd ho9
   have hgb : ∀ g, ownB a' k c' = some g → w3.heap.size ≤ g := fun g hg => (HOWN.out.1.lt g hg).1
   have key : ∀ g t cs, g < w3.heap.size → CBlk g t cs w7 → CBlk g t cs w9 := fun g t cs hlt hb => (hb.kept (Gr.alloc _ _)).but hg9 (fun e => by have := hgb g e.symm; omega)
   have hout9 := key _ _ _ hlo HOUT7.out
   have HOUT9 := zqd hout9
   have HB9 := zqd (key _ _ _ (by omega) (HB.out.kept HG7.out))
   have HZ9 := zqd (key _ _ _ (by omega) (HZ.out.kept HG7.out))
   have HG9 := zqd (show Gr w w9 from grown_ownG ((HG.out.trans HG7.out).trans (Gr.alloc _ _)) (HOWN7.out.stay (Gr.alloc _ _)).1 (by have := HG3.out.size; omega) hg9)
   have hle9 : w3.heap.size ≤ w9.heap.size := by have h1 := HG7.out.size; have h2 := hg9.size; simp at h2; omega
   have p2 := hout9.at 2 rfl
   have pf := hout9.fz 2
   clear hrun9 ho9 hg9 hdis holt htlt hgb key hout9 hle7
   have HSM9 := zqd (show SameL (L.take (k + 1)) (M ++ [setA s a6 c6]) by
    have h2 := HSM.out
    unfold SameL at h2 ⊢
    rw [List.map_append, h2, List.take_add_one, HS.out]
    simp [setA_plain])
   obtain ⟨s', hs'⟩ : ∃ x, setA s a6 c6 = x := ⟨_, rfl⟩
   rw [hs'] at HS7 HRUN9 HO9 HSM9
   clear hs'
   go_wp2_with (first | (at_builtin; refine wpList_app rfl _ _ _ rfl rfl rfl HRUN9.out ?_) | (refine cblk_load rfl 46 _ rfl wr.heap.size rfl HS7.out Tryd.underlying46 rfl (by kernel_rfl) ?_))
   refine ⟨⟨k + 1, by omega, by go_num, ⟨a9, c9, _, HSM9.out, HO9.out.but (grown_setAt w9 w1.heap.size 2 _) (fun g hg => by injection hg with hg; omega), HOUT9.out.set 2 _ rfl⟩, HB9.out.other 2 _ (by omega), HZ9.out.other 2 _ (by omega), Nat.le_trans hle9 (grown_setAt w9 w1.heap.size 2 _).size, gr_setCell HG9.out (by omega) 2 _⟩, by (simp [intOf] <;> omega)⟩
  ·obtain rfl : k = n := by omega
   have hsm := HSM.out
   rw [← HN.out, List.take_length] at hsm
   have HSM2 := zqd hsm
   clear hsm
   go_wp2_with (first | (refine cblk_load rfl 24 _ rfl w1.heap.size rfl HOUT.out Tryd.underlying24 rfl (by kernel_rfl) ?_) | (refine cblk_store rfl 24 _ _ rfl (w.heap.size + 1) [.int .i64 mode, .int .i64 width, .slice a' k c'] HZ.out rfl rfl rfl (by kernel_rfl) rfl ?_; intro w9 hb9 he9; have HB9 := zqd hb9; have HGE := zqd (show Gr w w9 by rw [← he9]; exact gr_setCells HG.out (by omega) _ _); have HO9 := zqd (show OwnC w.heap.size w9 a' k c' M by rw [← he9]; exact (HOWN.out.but (grown_setCells (w.heap.size + 1) _ 0 wr) (fun g hg => by injection hg with hg; omega)).weak (by omega)); clear hb9 he9))
   refine bodyPost_ret (results_c0 Tryd.results32 _ _ (w.heap.size + 1) _ _ rfl HB9.out Tryd.underlying24 rfl (by kernel_rfl)) rfl ?_
   exact ⟨_, _, M, rfl, HSM2.out, HO9.out, HGE.out⟩
end Go.Proofs.YtlnkofpcidngoaaDoor
/- Check values over bits: the plain theory (linear, one to one without input, a word fed in is a word added). No program in sight. -/
namespace Go.Proofs.YtlnkofpcidngoaaDoor
namespace Crc
def stp (k p r b : Nat) : Nat := (2 * r) % 2 ^ k ^^^ (if r / 2 ^ (k - 1) % 2 = b then 0 else p)
def feed (k p : Nat) (r : Nat) (bs : List Nat) : Nat := bs.foldl (stp k p) r
def val : List Nat → Nat
 | [] => 0
 | b :: t => b * 2 ^ t.length + val t
theorem half2 {k : Nat} (hk : 1 ≤ k) : 2 * 2 ^ (k - 1) = 2 ^ k := by
 obtain ⟨j, rfl⟩ : ∃ j, k = j + 1 := ⟨k - 1, by omega⟩
 rw [Nat.add_sub_cancel, Nat.pow_succ]; omega
theorem xor_lt {k a b : Nat} (ha : a < 2 ^ k) (hb : b < 2 ^ k) : a ^^^ b < 2 ^ k := Nat.xor_lt_two_pow ha hb
theorem stp_lt {k p : Nat} (hp : p < 2 ^ k) (r b : Nat) : stp k p r b < 2 ^ k := by
 unfold stp
 refine xor_lt (Nat.mod_lt _ (Nat.two_pow_pos k)) ?_
 split
 ·exact Nat.two_pow_pos k
 ·exact hp
theorem feed_lt {k p : Nat} (hp : p < 2 ^ k) : ∀ (bs : List Nat) (r : Nat), r < 2 ^ k → feed k p r bs < 2 ^ k
 | [], _, h => h
 | b :: t, r, _ => feed_lt hp t _ (stp_lt hp r b)
theorem feed_append (k p r : Nat) (a b : List Nat) : feed k p r (a ++ b) = feed k p (feed k p r a) b := by simp [feed]
end Crc
end Go.Proofs.YtlnkofpcidngoaaDoor
/- Layer 03 (check): bits of bytes, the registers behind them, and what the laws say of them (plain). -/
namespace Go.Proofs.YtlnkofpcidngoaaDoor
namespace Crc
def bits8 (c : Nat) : List Nat := [c / 128 % 2, c / 64 % 2, c / 32 % 2, c / 16 % 2, c / 8 % 2, c / 4 % 2, c / 2 % 2, c % 2]
def bitsI (xs : List Int) : List Nat := xs.flatMap fun x => bits8 x.toNat
theorem bitsI_append (xs ys : List Int) : bitsI (xs ++ ys) = bitsI xs ++ bitsI ys := by simp [bitsI]
def polyV (kind : Int) : Int := if kind = 3 then 3 else if kind = 7 then 9 else if kind = 8 then 7 else if kind = 16 then 4129 else if kind = 24 then 8801531 else 0
def isKind (kind : Int) : Prop := kind = 3 ∨ kind = 7 ∨ kind = 8 ∨ kind = 16 ∨ kind = 24
instance (kind : Int) : Decidable (isKind kind) := by unfold isKind; infer_instance
theorem polyV_no {kind : Int} (h : ¬ isKind kind) : polyV kind = 0 := by
 unfold isKind at h
 unfold polyV
 rw [if_neg (by omega), if_neg (by omega), if_neg (by omega), if_neg (by omega), if_neg (by omega)]
theorem polyV_yes {kind : Int} (h : isKind kind) : polyV kind ≠ 0 := by
 rcases h with rfl | rfl | rfl | rfl | rfl <;> decide
structure Kind (k p : Nat) : Prop where
 one : 1 ≤ k
 odd : p % 2 = 1
 lt : p < 2 ^ k
theorem kind_of {kind : Int} (h : isKind kind) : Kind kind.toNat (polyV kind).toNat := by
 rcases h with rfl | rfl | rfl | rfl | rfl <;> exact ⟨by decide, by decide, by decide⟩
def regN (kind : Int) (r : Nat) (xs : List Int) : Nat := feed kind.toNat (polyV kind).toNat r (bitsI xs)
def top (kind : Int) : Nat := 2 ^ kind.toNat - 1
theorem top_lt (kind : Int) : top kind < 2 ^ kind.toNat := by unfold top; have := Nat.two_pow_pos kind.toNat; omega
/-! ### Bursts -/
/-! ### The check value itself goes in -/
end Crc
end Go.Proofs.YtlnkofpcidngoaaDoor
