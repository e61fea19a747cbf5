/- Several texts in one. -/
import Derived.Test.YtlnkofpcidngoaaDoorK0
import Derived.Test.YtlnkofpcidngoaaDoorK1
import Derived.Deep.MidRow
namespace Go.Proofs.YtlnkofpcidngoaaDoor
open Go.ChangeShapes Go.WideShapes Go.ChangeAt Go.RowKit
def setM {α : Type} : List α → Nat → List α → List α
 | xs, _, [] => xs
 | xs, o, v :: r => setM (xs.set o v) (o + 1) r
theorem setM_mid {α : Type} : ∀ (vs A C D : List α), C.length = vs.length → setM (A ++ (C ++ D)) A.length vs = A ++ (vs ++ D)
 | [], A, C, D, h => by
   have : C = [] := List.eq_nil_of_length_eq_zero (by simpa using h)
   subst this; rfl
 | v :: r, A, [], D, h => by simp at h
 | v :: r, A, c :: C, D, h => by
   unfold setM
   have e : (A ++ (c :: C ++ D)).set A.length v = (A ++ [v]) ++ (C ++ D) := by simp [List.set_append_right]
   rw [e, show A.length + 1 = (A ++ [v]).length by simp, setM_mid r (A ++ [v]) C D (by simpa using h)]
   simp
theorem setM_whole {α : Type} (vs C : List α) (h : C.length = vs.length) : setM C 0 vs = vs := by
 have := setM_mid vs [] C [] h
 simpa using this
theorem heap_setCells {g : Nat} {e : TypeId} {fz : Nat × Nat} : ∀ (vs : List Value) (o : Nat) (w : World) (cs : List Value), w.heap[g]? = some (.cells cs.toArray e fz) → (w.setCells g o vs).heap[g]? = some (.cells (setM cs o vs).toArray e fz)
 | [], _, _, _, h => h
 | v :: r, o, w, cs, h => by
   have h1 := heap_setCell_eq h o v
   rw [List.setIfInBounds_toArray] at h1
   exact heap_setCells r (o + 1) _ _ h1
theorem grown_setCells (g : Nat) : ∀ (vs : List Value) (o : Nat) (w : World), w.grownBy (w.setCells g o vs) (some g)
 | [], _, w => grownBy_refl w _
 | v :: r, o, w => grown_trans' (grown_setAt w g o v) (grown_setCells g r (o + 1) _)
theorem grown_setCells_new {w0 w : World} {r : Option Nat} (h : w0.grownBy w r) {g : Nat} (hg : w0.heap.size ≤ g) (vs : List Value) (o : Nat) : w0.grownBy (w.setCells g o vs) r := by
 have k := grown_setCells g vs o w
 exact ⟨k.os.trans h.os, k.tape.trans h.tape, k.output.trans h.output, Nat.le_trans h.size k.size, fun i hi hne => by
   rw [k.block i (Nat.lt_of_lt_of_le hi h.size) (by simp; omega)]; exact h.block i hi hne⟩
theorem own_setCells {base : Nat} {e : TypeId} {size g n cap : Nat} : ∀ (vs : List Value) (o : Nat) (w : World) (xs : List Value), w.ownsRow base e size (.slice (some ⟨g, 0, none⟩) n cap) n xs →
   (w.setCells g o vs).ownsRow base e size (.slice (some ⟨g, 0, none⟩) n cap) n (setM xs o vs)
 | [], _, _, _, h => h
 | v :: r, o, _, _, h => own_setCells r (o + 1) _ _ (h.stored o v).1
theorem there_block {w : World} {g : Nat} {cs : Array Value} {e : TypeId} (h : w.heap[g]? = some (.cells cs e (0, 0))) {o n : Nat} (hn : o + n ≤ cs.size) : w.there g o n := by
 intro j hj
 rw [cell_of_block h, frozen_of_block h]
 exact ⟨by rw [Array.getElem?_eq_getElem (by omega)]; rfl, rfl⟩
theorem there_own {w : World} {base : Nat} {e : TypeId} {size g n cap : Nat} {xs : List Value} (h : w.ownsRow base e size (.slice (some ⟨g, 0, none⟩) n cap) n xs) {o k : Nat} (hk : o + k ≤ xs.length) : w.there g o k := by
 intro j hj
 have hl := h.1
 rw [h.cellAt (o + j) (by omega)]
 exact ⟨by simp [show o + j < xs.length by omega], h.frozenAt _⟩
def CBlk (g : Nat) (t : TypeId) (cs : List Value) (w : World) : Prop := w.heap[g]? = some (.cells cs.toArray t (0, 0))
theorem CBlk.new (w : World) (t : TypeId) (cs : List Value) : CBlk w.heap.size t cs (w.alloc (.cells cs.toArray t)) := heap_alloc_new _ _
theorem CBlk.lt {g : Nat} {t : TypeId} {cs : List Value} {w : World} (hb : CBlk g t cs w) : g < w.heap.size := heap_lt hb
theorem CBlk.kept {g : Nat} {t : TypeId} {cs : List Value} {w w' : World} (hb : CBlk g t cs w) (hg : Gr w w') : CBlk g t cs w' := by
 unfold CBlk; rw [hg.block _ (heap_lt hb) (by simp)]; exact hb
theorem CBlk.but {g : Nat} {t : TypeId} {cs : List Value} {w w' : World} {r : Option Nat} (hb : CBlk g t cs w) (hg : w.grownBy w' r) (hne : some g ≠ r) : CBlk g t cs w' := by
 unfold CBlk; rw [hg.block g (heap_lt hb) hne]; exact hb
theorem CBlk.at {g : Nat} {t : TypeId} {cs : List Value} {w : World} (hb : CBlk g t cs w) (i : Nat) {v : Value} (hv : cs[i]? = some v) : w.cell? ⟨g, i, none⟩ = some v := by
 rw [cell_of_block hb]; simpa using hv
theorem CBlk.fz {g : Nat} {t : TypeId} {cs : List Value} {w : World} (hb : CBlk g t cs w) (i : Nat) : w.frozen? ⟨g, i, none⟩ = false := frozen_of_block hb i
theorem CBlk.set {g : Nat} {t : TypeId} {cs ds : List Value} {w : World} (hb : CBlk g t cs w) (i : Nat) (v : Value) (hk : cs.set i v = ds) : CBlk g t ds (w.setCell ⟨g, i, none⟩ v) := by
 unfold CBlk
 rw [heap_setCell_eq hb i v, List.setIfInBounds_toArray, hk]
theorem CBlk.other {g p : Nat} {t : TypeId} {cs : List Value} {w : World} (hb : CBlk g t cs w) (i : Nat) (v : Value) (hne : g ≠ p) : CBlk g t cs (w.setCell ⟨p, i, none⟩ v) := by
 unfold CBlk
 rw [heap_setCell_ne _ _ _ _ hne]; exact hb
theorem CBlk.there {g : Nat} {t : TypeId} {cs : List Value} {w : World} (hb : CBlk g t cs w) {o n : Nat} (hn : o + n ≤ cs.length) : w.there g o n := there_block hb (by simpa using hn)
theorem CBlk.put {g : Nat} {t : TypeId} {cs : List Value} {w : World} (hb : CBlk g t cs w) (ds : List Value) (hl : ds.length = cs.length) : CBlk g t ds (w.setCells g 0 ds) := by
 have := heap_setCells ds 0 w cs hb
 unfold CBlk
 rw [this, setM_whole ds cs hl.symm]
theorem CBlk.puts {g p : Nat} {t : TypeId} {cs : List Value} {w : World} (hb : CBlk g t cs w) (o : Nat) (ds : List Value) (hne : g ≠ p) : CBlk g t cs (w.setCells p o ds) :=
 hb.but (grown_setCells p ds o w) (by simpa using hne)
theorem CBlk.load {P : Program} {g : Nat} {t : TypeId} {cs : List Value} {w : World} (hb : CBlk g t cs w) {o : Oper} {a : Act} {late : Bool} (x : Operand) (ho : o.op = .load t x) (hx : a.eval x = .pointer (some ⟨g, 0, none⟩))
   {d : TypeDesc} (hu : P.underlying t = some d) (hd : (match d with | .struct _ | .array _ _ => true | _ => false) = true) (hi : (P.info? t).map (·.size) = some cs.toArray.size) : Sched.gq P o a w (.agg cs.toArray) late := by
 unfold Sched.gq execOp
 simp only [ho, hx, Instr.loadAt, Instr.sureAddr, Sem.run_bind, Sem.run_pure, Result.andThen_ok, run_loadVar_row w g t t cs.toArray (0, 0) d hb hu hd hi]
 exact ⟨trivial, trivial⟩
theorem gr_setCell {w0 w : World} (h : Gr w0 w) {g : Nat} (hg : w0.heap.size ≤ g) (i : Nat) (v : Value) : Gr w0 (w.setCell ⟨g, i, none⟩ v) := grown_setCells_new h hg [v] i
theorem gr_setCells {w0 w : World} (h : Gr w0 w) {g : Nat} (hg : w0.heap.size ≤ g) (o : Nat) (vs : List Value) : Gr w0 (w.setCells g o vs) := grown_setCells_new h hg vs o
section
variable {P : Program} {ops : Array Oper} {rest : List Oper} {o : Oper} {a : Act} {w : World} {Q : Exit → Act → World → Prop}
theorem cblk_load (hw : Region.wanted o (yielded ops a.tmps) = true) (ty : TypeId) (x : Operand) (ho : o.op = .load ty x) (g : Nat) (hx : a.eval x = .pointer (some ⟨g, 0, none⟩)) {cs : List Value} (hb : CBlk g ty cs w)
   {d : TypeDesc} (hu : P.underlying ty = some d) (hd : (match d with | .struct _ | .array _ _ => true | _ => false) = true) (hi : (P.info? ty).map (·.size) = some cs.toArray.size)
   (h : wpList P ops Q rest (a.put o.dst (.agg cs.toArray)) w) : wpList P ops Q (o :: rest) a w := by
 unfold wpList
 rw [if_pos hw]
 left
 exact wp_load_row ty x ho g hx ty cs.toArray (0, 0) d hb hu hd hi h
theorem cblk_store (hgd : o.guard = none) (ty : TypeId) (x y : Operand) (ho : o.op = .store ty x y) (g : Nat) (ds : List Value) {cs : List Value} (hb : CBlk g ty cs w) (hl : ds.length = cs.length)
   (hx : a.eval x = .pointer (some ⟨g, 0, none⟩)) (hy : a.eval y = .agg ds.toArray) (hi : (P.info? ty).map (·.size) = some ds.toArray.size) (h1 : ds.all (·.oneCell') = true)
   (h : ∀ w9, CBlk g ty ds w9 → w.setCells g 0 ds = w9 → wpList P ops Q rest (a.put o.dst undef) w9) : wpList P ops Q (o :: rest) a w :=
 wpList_store_mid hgd ty x y ho g 0 ds.toArray hx hy (hb.there (by simp [hl])) hi (all_oneCell_toArray (List.all_eq_true.1 h1)) (h _ (hb.put ds hl) rfl)
theorem cblk_tstore {K : Act → World → Prop} (ty : TypeId) (x y : Operand) (ho : o.op = .store ty x y) (g : Nat) (ds : List Value) {cs : List Value} (hb : CBlk g ty cs w) (hl : ds.length = cs.length)
   (hx : a.eval x = .pointer (some ⟨g, 0, none⟩)) (hy : a.eval y = .agg ds.toArray) (hi : (P.info? ty).map (·.size) = some ds.toArray.size) (h1 : ds.all (·.oneCell') = true)
   (h : ∀ w9, CBlk g ty ds w9 → w.setCells g 0 ds = w9 → K (a.put o.dst undef) w9) : Sched.tq P o a w K := by
 unfold Sched.tq execOp
 simp only [ho, hx, hy, Instr.storeAt, Instr.sureAddr, Sem.run_bind, Sem.run_pure, Result.andThen_ok, run_storeVar_mid w g 0 ty ds.toArray (hb.there (by simp [hl])) hi (all_oneCell_toArray (List.all_eq_true.1 h1))]
 exact h _ (hb.put ds hl) rfl
end
theorem rng_load {P : Program} {ops : Array Oper} {rest : List Oper} {o : Oper} {a : Act} {w : World} {Q : Exit → Act → World → Prop} (hw : Region.wanted o (yielded ops a.tmps) = true) (ty : TypeId) (x : Operand) (ho : o.op = .load ty x)
   (b off : Nat) (hx : a.eval x = .pointer (some ⟨b, off, none⟩)) (cs : List Value) {d : TypeDesc} (hc : w.rangeAt b off cs) (hu : P.underlying ty = some d) (hd : d.isRow = true) (hi : (P.info? ty).map (·.size) = some cs.length)
   (h : wpList P ops Q rest (a.put o.dst (.agg cs.toArray)) w) : wpList P ops Q (o :: rest) a w := by
 unfold wpList
 rw [if_pos hw]
 left
 exact wp_load_mid ty x ho b off hx cs d hc hu hd hi h
theorem rng_gq {P : Program} {b off : Nat} {cs : List Value} {w : World} (hc : w.rangeAt b off cs) {o : Oper} {a : Act} {late : Bool} (ty : TypeId) (x : Operand) (ho : o.op = .load ty x) (hx : a.eval x = .pointer (some ⟨b, off, none⟩))
   {d : TypeDesc} (hu : P.underlying ty = some d) (hd : d.isRow = true) (hi : (P.info? ty).map (·.size) = some cs.length) : Sched.gq P o a w (.agg cs.toArray) late := by
 unfold Sched.gq execOp
 simp only [ho, hx, Instr.loadAt, Instr.sureAddr, Sem.run_bind, Sem.run_pure, Result.andThen_ok, run_loadVar_mid w b off ty cs d hc hu hd hi]
 exact ⟨trivial, trivial⟩
theorem CBlk.rng {g : Nat} {t : TypeId} {cs : List Value} {w : World} (hb : CBlk g t cs w) (o : Nat) (ds : List Value) (h : ∀ j v, ds[j]? = some v → cs[o + j]? = some v) : w.rangeAt g o ds := fun j v hv => hb.at (o + j) (h j v hv)
theorem range_gr {w w' : World} {b o : Nat} {cs : List Value} (h : w.rangeAt b o cs) (hg : Gr w w') : w'.rangeAt b o cs := fun j v hv => hg.cell (h j v hv)
theorem results_c1 {P : Program} {fn : Func} {p u : Tmp} {ty : TypeId} (h : fn.results = #[.cell p ty, .tmp u]) (tmps : Array Value) (w : World) (g : Nat) (cs : List Value) (d : TypeDesc)
   (hp : tmps.getD p undef = .pointer (some ⟨g, 0, none⟩)) (hg : CBlk g ty cs w)
   (hu : P.underlying ty = some d) (hd : (match d with | .struct _ | .array _ _ => true | _ => false) = true) (hi : (P.info? ty).map (·.size) = some cs.toArray.size) :
   (results fn tmps).run P w = .ok (.tuple #[.agg cs.toArray, tmps.getD u undef]) w := by
 have hp' : tmps[p]?.getD undef = .pointer (some ⟨g, 0, none⟩) := by simpa using hp
 simp [results, h, hp', asAddr, run_loadVar_row w g ty ty cs.toArray (0, 0) d hg hu hd hi]
theorem results_c2 {P : Program} {fn : Func} {p u v : Tmp} {ty : TypeId} (h : fn.results = #[.cell p ty, .tmp u, .tmp v]) (tmps : Array Value) (w : World) (g : Nat) (cs : List Value) (d : TypeDesc)
   (hp : tmps.getD p undef = .pointer (some ⟨g, 0, none⟩)) (hg : CBlk g ty cs w)
   (hu : P.underlying ty = some d) (hd : (match d with | .struct _ | .array _ _ => true | _ => false) = true) (hi : (P.info? ty).map (·.size) = some cs.toArray.size) :
   (results fn tmps).run P w = .ok (.tuple #[.agg cs.toArray, tmps.getD u undef, tmps.getD v undef]) w := by
 have hp' : tmps[p]?.getD undef = .pointer (some ⟨g, 0, none⟩) := by simpa using hp
 simp [results, h, hp', asAddr, run_loadVar_row w g ty ty cs.toArray (0, 0) d hg hu hd hi]
theorem results_c0 {P : Program} {fn : Func} {p : Tmp} {ty : TypeId} (h : fn.results = #[.cell p ty]) (tmps : Array Value) (w : World) (g : Nat) (cs : List Value) (d : TypeDesc)
   (hp : tmps.getD p undef = .pointer (some ⟨g, 0, none⟩)) (hg : CBlk g ty cs w)
   (hu : P.underlying ty = some d) (hd : (match d with | .struct _ | .array _ _ => true | _ => false) = true) (hi : (P.info? ty).map (·.size) = some cs.toArray.size) :
   (results fn tmps).run P w = .ok (.agg cs.toArray) w := by
 have hp' : tmps[p]?.getD undef = .pointer (some ⟨g, 0, none⟩) := by simpa using hp
 simp [results, h, hp', asAddr, run_loadVar_row w g ty ty cs.toArray (0, 0) d hg hu hd hi]
theorem info_u8 : (Tryd.prog.info? 5).map (fun i => (i.zero, i.size, i.bytes)) = some (some (.int .u8 0), 1, 1) := by kernel_rfl
theorem app_u8 (B : Nat) (w : World) (a : Option Addr) (n cap : Nat) (xs : List Int) (hown : OwnI B 5 .u8 w a n cap xs)
   (b : Option Addr) (m c : Nat) (ys : List Int) (hr : Rd .u8 w b m ys) (hlen : n + m ≤ 140737488355328) (hbase : B ≤ w.heap.size) :
   ∃ a' cap' w', (Builtin.append_ #[39, 39] 39 #[.slice a n cap, .slice b m c]).run Tryd.prog w = .ok (.slice a' (n + m) cap') w' ∧ OwnI B 5 .u8 w' a' (n + m) cap' (xs ++ ys) ∧
     w.grownBy w' (Value.slice a n cap).ownBlock ∧ Follows w (.slice a n cap) (.slice a' (n + m) cap') := by
 obtain ⟨i0, hi, hz0, hz1, hz2⟩ := info_parts info_u8
 exact run_appI B _ _ _ i0 (.int .u8 0) .u8 1 Tryd.underlying39 hi hz0 hz1 hz2 rfl w a n cap xs hown b m c ys hr (by omega) (by simp [maxLen]; omega) hbase
theorem app_u8_nil (B : Nat) (w : World) (b : Option Addr) (m c : Nat) (ys : List Int) (hr : Rd .u8 w b m ys) (hlen : m ≤ 140737488355328) (hbase : B ≤ w.heap.size) :
   ∃ a' cap' w', (Builtin.append_ #[39, 39] 39 #[.slice none 0 0, .slice b m c]).run Tryd.prog w = .ok (.slice a' m cap') w' ∧ OwnI B 5 .u8 w' a' m cap' ys ∧
     w.grownBy w' none ∧ Follows w (.slice none 0 0) (.slice a' m cap') := by
 have h := app_u8 B w none 0 0 [] (OwnI.nil _ _ _ _) b m c ys hr (by omega) hbase
 simp only [Nat.zero_add, List.nil_append] at h
 exact h
def putR (x : Int) : Nat → List Int
 | 0 => []
 | r + 1 => x / 2 ^ (8 * r) % 256 :: putR x r
theorem putR_len (x : Int) : ∀ r, (putR x r).length = r
 | 0 => rfl
 | r + 1 => by simp [putR, putR_len x r]
def AppPost (B : Nat) (e : TypeId) (k : IntKind) (w : World) (a : Option Addr) (n cap : Nat) (m : Nat) (zs : List Int) (en : Ending) (w' : World) : Prop :=
 ∃ a' cap' n', n' = n + m ∧ en = .returned (.slice a' n' cap') ∧ OwnI B e k w' a' n' cap' zs ∧ w.grownBy w' (Value.slice a n cap).ownBlock ∧ Follows w (.slice a n cap) (.slice a' n' cap')
set_option maxRecDepth 20000 in
set_option maxHeartbeats 2000000 in
theorem put_any (B : Nat) (a : Option Addr) (n cap : Nat) (xs : List Int) (K : Int) (k : Nat) (x : Int) (w : World) (hK : K = k) (hown : OwnI B 5 .u8 w a n cap xs) (hn : n ≤ 140737488355000) (hk : k ≤ 7) (hB : B ≤ w.heap.size) :
   Calls Tryd.prog 51 #[.slice a n cap, .int .i64 K, .int .i64 x] w (AppPost B 5 .u8 w a n cap k (xs ++ putR x k)) := by
 subst hK
 go_enter Tryd.func51, Tryd.ntmps51
 go_wp2_with fail
 go_loopw [0, 7] (fun s i wr => ∃ (a' : Option Addr) (n' cap' r : Nat) (ys : List Int), r ≤ k ∧ n' + r = n + k ∧ s = .slice a' n' cap' ∧ i = .int .i64 ((r : Int) - 1) ∧ OwnI B 5 .u8 wr a' n' cap' ys ∧ ys ++ putR x r = xs ++ putR x k ∧ w.grownBy wr (Value.slice a n cap).ownBlock ∧ Follows w (.slice a n cap) (.slice a' n' cap')) (fun _ i _ => (intOf i + 1).toNat)
 case atStart => exact ⟨a, n, cap, k, xs, by omega, rfl, rfl, rfl, hown, rfl, grownBy_refl _ _, Follows.refl _ _⟩
 case round =>
   obtain ⟨a', n', cap', r, ys, hr, hnr, rfl, rfl, hown', hys, hg, hf⟩ := hrel
   have HY := zqd hys
   have HN := zqd hnr
   have hn' : n' ≤ 140737488355010 := by omega
   clear hys hnr hown
   by_cases h : 1 ≤ r
   · obtain ⟨q, rfl⟩ : ∃ q, r = q + 1 := ⟨r - 1, by omega⟩
     have hq : ((q + 1 : Nat) : Int) - 1 = (q : Int) := by omega
     rw [hq]
     have hrd := rd_new (k := .u8) (w := wr) [x / 2 ^ (8 * q) % 256] 5 (0, 0) 1 rfl (by simp [maxLen]) (by intro y hy; simp at hy; subst hy; exact WalkArith.wf_u8 (by omega))
     obtain ⟨a2, c2, w2, hrun, ho2, hg2, hf2⟩ := app_u8 B (wr.alloc (.cells ([x / 2 ^ (8 * q) % 256].map (Value.int .u8)).toArray 5)) a' n' cap' ys (hown'.stay (World.grownBy_alloc _ _ _)) (some ⟨wr.heap.size, 0, none⟩) 1 1 _ hrd (by omega) (by have := hg.size; simp; omega)
     simp only [List.map_cons, List.map_nil] at hrun hg2 hf2
     have HR := zqd hrun
     have ho2' := ho2
     have hB2 := hg.size
     clear hrun hrd
     go_wp2_with (at_builtin; refine wpList_app rfl _ _ _ rfl rfl rfl HR.out ?_)
     have hrg := round_grown hg hf hg2 hf2
     exact ⟨⟨a2, n' + 1, c2, q, _, by omega, by have := HN.out; omega, rfl, rfl, ho2, by rw [← HY.out]; simp [putR], hrg.1, hrg.2⟩, by simp [intOf]⟩
   · obtain rfl : r = 0 := by omega
     go_wp2
     go_ret
     exact ⟨a', cap', n', by have := HN.out; omega, rfl, by have := HY.out; simp [putR] at this; rw [← this]; exact hown', hg, hf⟩
end Go.Proofs.YtlnkofpcidngoaaDoor
