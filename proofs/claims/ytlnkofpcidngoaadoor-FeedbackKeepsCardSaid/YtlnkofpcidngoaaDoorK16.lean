/- Several texts in one. -/
import Derived.Test.YtlnkofpcidngoaaDoorK0
import Derived.Test.YtlnkofpcidngoaaDoorK15
import Derived.Test.YtlnkofpcidngoaaDoorK9
import Derived.Lib.Hide
namespace Go.Proofs.YtlnkofpcidngoaaDoor
open Go.ChangeShapes Go.WideShapes Go.ChangeAt Go.RowKit
theorem info_hdr : (Tryd.prog.info? 49).map (fun i => (i.zero, i.size, i.bytes)) = some (some (HVal zeroH), 15, 120) := by kernel_rfl
def zeroS : Snd := ⟨false, 0, 0, 0, 0, 0, 0, 0, none, 0, 0, []⟩
theorem info_snd : (Tryd.prog.info? 46).map (fun i => (i.zero, i.size, i.bytes)) = some (some (SVal zeroS), 9, 88) := by kernel_rfl
theorem hcells_1 (x : Hdr) : ∀ v ∈ HCells x, v.oneCell' = true := List.all_eq_true.1 (show (HCells x).all (·.oneCell') = true from rfl)
theorem scells_1 (x : Snd) : ∀ v ∈ SCells x, v.oneCell' = true := List.all_eq_true.1 (scells_one x)
abbrev OwnHd (B : Nat) (w : World) (a : Option Addr) (n c : Nat) (hs : List Hdr) : Prop := w.ownsRow B 49 15 (.slice a n c) n (hs.flatMap HCells)
theorem OwnHd.nil (B : Nat) (w : World) : OwnHd B w none 0 0 [] := World.ownsRow_nil w B _ 15
theorem OwnHd.len {B : Nat} {w : World} {a : Option Addr} {n c : Nat} {hs : List Hdr} (h : OwnHd B w a n c hs) : hs.length = n := by
 have h1 := h.1
 rw [flat_lenG hcells_len] at h1
 omega
theorem OwnHd.rd {B : Nat} {w : World} {a : Option Addr} {n c : Nat} {hs : List Hdr} (h : OwnHd B w a n c hs) (ho : ∀ x ∈ hs, HOk x) : RdH w a n c hs := by
 obtain ⟨h1, h2, h3⟩ := own_capG h
 exact ⟨h.len, h1, h2, h3, own_segG h, ho⟩
theorem app_hdr (B : Nat) (w : World) (a : Option Addr) (n cap : Nat) (l : List Hdr) (hown : OwnHd B w a n cap l) (b : Option Addr) (m c : Nat) (r : List Hdr) (hr : r.length = m) (hseg : Seg w b (r.flatMap HCells)) (hnil : b = none → m = 0 ∧ c = 0) (hn : n + m ≤ 1000000) (hB : B ≤ w.heap.size) :
   ∃ a' cap' w', (Builtin.append_ #[44, 44] 44 #[.slice a n cap, .slice b m c]).run Tryd.prog w = .ok (.slice a' (n + m) cap') w' ∧ OwnHd B w' a' (n + m) cap' (l ++ r) ∧ w.grownBy w' (Value.slice a n cap).ownBlock ∧ Follows w (.slice a n cap) (.slice a' (n + m) cap') := by
 obtain ⟨i0, hi, hz0, hz1, hz2⟩ := info_parts info_hdr
 exact app_rowG hcells_len hcells_1 B _ _ _ i0 _ 120 Tryd.underlying44 hi hz0 hz1 hz2 rfl (by omega) w a n cap l hown b m c r hr hseg hnil (by simp only [maxLen]; omega) (by omega) hB
theorem app_snd (B : Nat) (w : World) (a : Option Addr) (n cap : Nat) (l : List Snd) (hown : w.ownsRow B 46 9 (.slice a n cap) n (l.flatMap SCells)) (b : Option Addr) (m c : Nat) (r : List Snd) (hr : r.length = m) (hseg : Seg w b (r.flatMap SCells)) (hnil : b = none → m = 0 ∧ c = 0) (hn : n + m ≤ 1000000) (hB : B ≤ w.heap.size) :
   ∃ a' cap' w', (Builtin.append_ #[22, 22] 22 #[.slice a n cap, .slice b m c]).run Tryd.prog w = .ok (.slice a' (n + m) cap') w' ∧ w'.ownsRow B 46 9 (.slice a' (n + m) cap') (n + m) ((l ++ r).flatMap SCells) ∧ w.grownBy w' (Value.slice a n cap).ownBlock ∧ Follows w (.slice a n cap) (.slice a' (n + m) cap') := by
 obtain ⟨i0, hi, hz0, hz1, hz2⟩ := info_parts info_snd
 exact app_rowG scells_len scells_1 B _ _ _ i0 _ 88 Tryd.underlying22 hi hz0 hz1 hz2 rfl (by omega) w a n cap l hown b m c r hr hseg hnil (by simp only [maxLen]; omega) (by omega) hB
def plainS (s : Snd) : Snd := ⟨s.act, s.full, s.refr, s.ser, s.since, s.long, s.str, s.fol, none, 0, 0, s.refs⟩
def SameL (L M : List Snd) : Prop := M.map plainS = L.map plainS
theorem ctx_plain (mode width : Int) (s : Snd) : ctxB mode width (plainS s) = ctxB mode width s := rfl
theorem like_plain (s t : Snd) : likeB (plainS s) (plainS t) = likeB s t := rfl
theorem any_plain (s : Snd) : ∀ L : List Snd, (L.map plainS).any (likeB (plainS s)) = L.any (likeB s)
 | [] => rfl
 | t :: L => by simp only [List.map_cons, List.any_cons, any_plain s L, like_plain]
theorem okAt_plain (mode width : Int) (L : List Snd) (i : Nat) : okAt mode width (L.map plainS) i = okAt mode width L i := by
 unfold okAt
 rw [List.getElem?_map]
 cases h : L[i]? with
 | none => rfl
 | some s => simp only [Option.map_some, ctx_plain]; rw [← List.map_take, any_plain]
theorem valid_plain (mode width : Int) (L : List Snd) : validC mode width (L.map plainS) = validC mode width L := by
 unfold validC
 rw [List.length_map]
 congr 2
 exact congrArg _ (funext fun i => okAt_plain mode width L i)
theorem SameL.valid {L M : List Snd} (h : SameL L M) (mode width : Int) : validC mode width M = validC mode width L := by
 rw [← valid_plain mode width M, ← valid_plain mode width L, h]
theorem SameL.len {L M : List Snd} (h : SameL L M) : M.length = L.length := by simpa using congrArg List.length h
theorem SameL.refl (L : List Snd) : SameL L L := rfl
theorem SameL.trans {L M N : List Snd} (h : SameL L M) (k : SameL M N) : SameL L N := Eq.trans k h
theorem SameL.symm {L M : List Snd} (h : SameL L M) : SameL M L := Eq.symm h
theorem SameL.get {L M : List Snd} (h : SameL L M) {i : Nat} {s : Snd} (hs : L[i]? = some s) : ∃ t, M[i]? = some t ∧ plainS t = plainS s := by
 have h1 := congrArg (fun l => l[i]?) h
 simp only [List.getElem?_map, hs, Option.map_some] at h1
 cases hM : M[i]? with
 | none => rw [hM] at h1; cases h1
 | some t => rw [hM] at h1; exact ⟨t, rfl, by simpa using h1⟩
abbrev ownB (a : Option Addr) (n c : Nat) : Option Nat := (Value.slice a n c).ownBlock
def OwnC (B : Nat) (w : World) (a : Option Addr) (n c : Nat) (L : List Snd) : Prop :=
 w.ownsRow B 46 9 (.slice a n c) n (L.flatMap SCells) ∧ (∀ s ∈ L, OwnHd B w s.a s.n s.c s.refs ∧ ∀ x ∈ s.refs, HOk x) ∧ (∀ s ∈ L, ∀ g, ownB s.a s.n s.c = some g → ownB a n c ≠ some g) ∧
 L.Pairwise (fun s t => ∀ g, ownB s.a s.n s.c = some g → ownB t.a t.n t.c ≠ some g)
theorem OwnC.nil (B : Nat) (w : World) : OwnC B w none 0 0 [] := ⟨World.ownsRow_nil w B _ 9, by simp, by simp, List.Pairwise.nil⟩
theorem OwnC.stay {B : Nat} {w w' : World} {a : Option Addr} {n c : Nat} {L : List Snd} (h : OwnC B w a n c L) (hg : Gr w w') : OwnC B w' a n c L :=
 ⟨own_stayG h.1 hg, fun s hs => ⟨own_stayG (h.2.1 s hs).1 hg, (h.2.1 s hs).2⟩, h.2.2.1, h.2.2.2⟩
theorem OwnC.len {B : Nat} {w : World} {a : Option Addr} {n c : Nat} {L : List Snd} (h : OwnC B w a n c L) : L.length = n := by
 have h1 := h.1.1
 rw [flat_lenG scells_len] at h1
 omega
theorem OwnC.rd {B : Nat} {w : World} {a : Option Addr} {n c : Nat} {L : List Snd} (h : OwnC B w a n c L) : RdC w a n c L := by
 obtain ⟨h1, h2, h3⟩ := own_capG h.1
 exact ⟨h.len, h1, h2, h3, own_segG h.1, fun s hs => (h.2.1 s hs).1.rd (h.2.1 s hs).2⟩
theorem OwnC.weak {B B' : Nat} {w : World} {a : Option Addr} {n c : Nat} {L : List Snd} (h : OwnC B w a n c L) (hB : B' ≤ B) : OwnC B' w a n c L :=
 ⟨own_weakG h.1 hB, fun s hs => ⟨own_weakG (h.2.1 s hs).1 hB, (h.2.1 s hs).2⟩, h.2.2.1, h.2.2.2⟩
theorem OwnC.but {B : Nat} {w w' : World} {a : Option Addr} {n c : Nat} {L : List Snd} {r : Option Nat} (h : OwnC B w a n c L) (hg : w.grownBy w' r) (h1 : ∀ g, r = some g → g < B) : OwnC B w' a n c L := by
 have key : ∀ (x : Option Addr) (m k : Nat) (e : TypeId) (z : Nat) (vs : List Value), w.ownsRow B e z (.slice x m k) m vs → w'.ownsRow B e z (.slice x m k) m vs := fun x m k e z vs ho => ho.kept hg (by
   cases hv : (Value.slice x m k).ownBlock with
   | none => exact .inl rfl
   | some g => right; intro hr; have := h1 g hr.symm; have := (ho.lt g hv).1; omega)
 exact ⟨key _ _ _ _ _ _ h.1, fun s hs => ⟨key _ _ _ _ _ _ (h.2.1 s hs).1, (h.2.1 s hs).2⟩, h.2.2.1, h.2.2.2⟩
theorem OwnC.app {B : Nat} {w : World} {a : Option Addr} {n c : Nat} {L : List Snd} (h : OwnC B w a n c L) (s : Snd) (hs : OwnHd B w s.a s.n s.c s.refs) (ho : ∀ x ∈ s.refs, HOk x) (hd1 : ∀ g, ownB s.a s.n s.c = some g → ownB a n c ≠ some g) (hd2 : ∀ t ∈ L, ∀ g, ownB t.a t.n t.c = some g → ownB s.a s.n s.c ≠ some g)
   (q : Nat) (hq : w.heap[q]? = some (.cells (SCells s).toArray 46 (0, 0))) (hn : n ≤ 1000) (hB : B ≤ w.heap.size) (N : Nat) (hN : N = n + 1) :
   ∃ a' c' w', (Builtin.append_ #[22, 22] 22 #[.slice a n c, .slice (some ⟨q, 0, none⟩) 1 1]).run Tryd.prog w = .ok (.slice a' N c') w' ∧ OwnC B w' a' N c' (L ++ [s]) ∧ w.grownBy w' (ownB a n c) := by
 subst hN
 have hseg : Seg w (some ⟨q, 0, none⟩) ([s].flatMap SCells) := .inr ⟨q, 0, rfl, heap_lt hq, fun i hi => by rw [Nat.zero_add, cell_of_block hq]; simp⟩
 obtain ⟨a', c', w', hrun, hown, hg, hf⟩ := app_snd B w a n c L h.1 (some ⟨q, 0, none⟩) 1 1 [s] rfl hseg (fun e => by cases e) (by omega) hB
 have key : ∀ t ∈ L ++ [s], OwnHd B w t.a t.n t.c t.refs ∧ (∀ x ∈ t.refs, HOk x) ∧ ∀ g, ownB t.a t.n t.c = some g → ownB a n c ≠ some g := by
   intro t ht
   rcases List.mem_append.1 ht with ht | ht
   · exact ⟨(h.2.1 t ht).1, (h.2.1 t ht).2, h.2.2.1 t ht⟩
   · simp only [List.mem_singleton] at ht; subst ht
     exact ⟨hs, ho, hd1⟩
 refine ⟨a', c', w', hrun, ⟨hown, fun t ht => ⟨(key t ht).1.kept hg ?_, (key t ht).2.1⟩, fun t ht g hg2 => ?_, ?_⟩, hg⟩
 · cases hv : (Value.slice t.a t.n t.c).ownBlock with
   | none => exact .inl rfl
   | some g => right; intro e; exact (key t ht).2.2 g hv e.symm
 · rcases hf with e | ⟨g', e, hg'⟩
   · show (Value.slice a' (n + 1) c').ownBlock ≠ some g
     rw [e]; exact (key t ht).2.2 g hg2
   · show (Value.slice a' (n + 1) c').ownBlock ≠ some g
     rw [e]
     intro e2; injection e2 with e2
     have := ((key t ht).1.lt g hg2).2
     omega
 · rw [List.pairwise_append]
   exact ⟨h.2.2.2, List.pairwise_singleton _ _, fun t ht u hu g hg2 => by simp only [List.mem_singleton] at hu; subst hu; exact hd2 t ht g hg2⟩
theorem own_lit0 (B : Nat) (w : World) (hB : B ≤ w.heap.size) (e : TypeId) (k : Nat) : (w.alloc (.cells #[] e)).ownsRow B e k (.slice (some ⟨w.heap.size, 0, none⟩) 0 0) 0 [] := by
 have h := World.ownsRow_lit (base := B) (e := e) (size := k) w (([] : List Int).map (Value.int .u8)).toArray 0 hB (by simp [maxLen]) (by simp)
 exact h
def ClHPost (n : Nat) (hs : List Hdr) (w : World) (e : Ending) (w' : World) : Prop := ∃ a' c', e = .returned (.slice a' n c') ∧ OwnHd w.heap.size w' a' n c' hs ∧ Gr w w'
set_option maxRecDepth 20000 in
set_option maxHeartbeats 2000000 in
theorem cloneH_any (a : Option Addr) (n c : Nat) (hs : List Hdr) (w : World) (hr : RdH w a n c hs) (hn : n ≤ 1000) : Calls Tryd.prog 74 #[.slice a n c] w (ClHPost n hs w) := by
 obtain ⟨h1, h2, h3, h4, h5, h6⟩ := hr
 cases a with
 | none =>
   obtain ⟨rfl, rfl⟩ := h4 rfl
   obtain rfl : hs = [] := List.eq_nil_of_length_eq_zero h1
   have hnil : ∀ u : World, (binOp .eql 44 (.slice none 0 0) (.slice none 0 0)).run Tryd.prog u = .ok (.bool true) u := fun u => Lib.run_eql_slice_nil u _ _ _ _ _ _ _ Tryd.underlying44
   clear h1 h2 h3 h4 h5 h6
   go_enter Tryd.func74, Tryd.ntmps74
   go_wp2_with fail
   go_ret
   exact ⟨none, 0, rfl, OwnHd.nil _ _, Gr.refl _⟩
 | some x =>
   have hnil : ∀ u : World, (binOp .eql 44 (.slice (some x) n c) (.slice none 0 0)).run Tryd.prog u = .ok (.bool false) u := fun u => Lib.run_eql_slice_nil u _ _ _ _ _ _ _ Tryd.underlying44
   obtain ⟨w1, hw1⟩ : ∃ y, y = w.alloc (.cells #[] 49) := ⟨_, rfl⟩
   have ho := own_lit0 w.heap.size w (Nat.le_refl _) 49 15
   rw [← hw1] at ho
   have hg1 : Gr w w1 := by rw [hw1]; exact Gr.alloc _ _
   obtain ⟨a3, cap3, w3, hrun, ho3, hg3, _⟩ := app_hdr w.heap.size w1 (some ⟨w.heap.size, 0, none⟩) 0 0 [] ho (some x) n c hs h1 (seg_kept h5 hg1) (fun e => by cases e) (by omega) hg1.size
   rw [Nat.zero_add] at hrun ho3
   rw [List.nil_append] at ho3
   have HRUN := zqd hrun
   have HO3 := zqd ho3
   have HG3 := zqd (grown_ownG hg1 ho (Nat.le_refl _) hg3)
   have HW1 := zqd hw1
   clear ho3 hrun hg1 ho hw1 hg3 h1 h2 h3 h4 h5 h6
   go_enter Tryd.func74, Tryd.ntmps74
   go_upto_region 3 with (fail)
   go_wp2_with (at_builtin; (have hw1 := HW1.out; rw [← hw1]; clear hw1); refine wpList_app rfl _ _ _ rfl rfl rfl HRUN.out ?_)
   go_ret
   exact ⟨a3, cap3, rfl, HO3.out, HG3.out⟩
def ClSPost (n : Nat) (L : List Snd) (w : World) (e : Ending) (w' : World) : Prop := ∃ a' c', e = .returned (.slice a' n c') ∧ w'.ownsRow w.heap.size 46 9 (.slice a' n c') n (L.flatMap SCells) ∧ Gr w w'
set_option maxRecDepth 20000 in
set_option maxHeartbeats 2000000 in
theorem cloneS_any (a : Option Addr) (n c : Nat) (L : List Snd) (w : World) (hr : RdC w a n c L) (hn : n ≤ 1000) : Calls Tryd.prog 73 #[.slice a n c] w (ClSPost n L w) := by
 obtain ⟨h1, h2, h3, h4, h5, h6⟩ := hr
 cases a with
 | none =>
   obtain ⟨rfl, rfl⟩ := h4 rfl
   obtain rfl : L = [] := List.eq_nil_of_length_eq_zero h1
   have hnil : ∀ u : World, (binOp .eql 22 (.slice none 0 0) (.slice none 0 0)).run Tryd.prog u = .ok (.bool true) u := fun u => Lib.run_eql_slice_nil u _ _ _ _ _ _ _ Tryd.underlying22
   clear h1 h2 h3 h4 h5 h6
   go_enter Tryd.func73, Tryd.ntmps73
   go_wp2_with fail
   go_ret
   exact ⟨none, 0, rfl, World.ownsRow_nil _ _ _ 9, Gr.refl _⟩
 | some x =>
   have hnil : ∀ u : World, (binOp .eql 22 (.slice (some x) n c) (.slice none 0 0)).run Tryd.prog u = .ok (.bool false) u := fun u => Lib.run_eql_slice_nil u _ _ _ _ _ _ _ Tryd.underlying22
   obtain ⟨w1, hw1⟩ : ∃ y, y = w.alloc (.cells #[] 46) := ⟨_, rfl⟩
   have ho := own_lit0 w.heap.size w (Nat.le_refl _) 46 9
   rw [← hw1] at ho
   have hg1 : Gr w w1 := by rw [hw1]; exact Gr.alloc _ _
   obtain ⟨a3, cap3, w3, hrun, ho3, hg3, _⟩ := app_snd w.heap.size w1 (some ⟨w.heap.size, 0, none⟩) 0 0 [] ho (some x) n c L h1 (seg_kept h5 hg1) (fun e => by cases e) (by omega) hg1.size
   rw [Nat.zero_add] at hrun ho3
   rw [List.nil_append] at ho3
   have HRUN := zqd hrun
   have HO3 := zqd ho3
   have HG3 := zqd (grown_ownG hg1 ho (Nat.le_refl _) hg3)
   have HW1 := zqd hw1
   clear ho3 hrun hg1 ho hw1 hg3 h1 h2 h3 h4 h5 h6
   go_enter Tryd.func73, Tryd.ntmps73
   go_upto_region 3 with (fail)
   go_wp2_with (at_builtin; (have hw1 := HW1.out; rw [← hw1]; clear hw1); refine wpList_app rfl _ _ _ rfl rfl rfl HRUN.out ?_)
   go_ret
   exact ⟨a3, cap3, rfl, HO3.out, HG3.out⟩
end Go.Proofs.YtlnkofpcidngoaaDoor
