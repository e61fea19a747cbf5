/- Layer 29 (harq): Start of the program. -/
import Derived.Test.YtcleegibdcphiaaDoorHarG
import Derived.Deep.Cut
import Derived.Deep.MidRow
namespace Go.Proofs.YtcleegibdcphiaaDoor
open Go.ChangeShapes Go.WideShapes Go.ChangeAt Go.RowKit

theorem results_cell_row1 {P : Program} {fn : Func} {p u : Tmp} {ty : TypeId} (h : fn.results = #[.cell p ty, .tmp u]) (tmps : Array Value) (w : World) (g : Nat) (t : TypeId) (cs : Array Value) (fr : Nat × Nat) (d : TypeDesc)
    (hp : tmps.getD p undef = .pointer (some ⟨g, 0, none⟩)) (hg : w.heap[g]? = some (.cells cs t fr))
    (hu : P.underlying ty = some d) (hd : (match d with | .struct _ | .array _ _ => true | _ => false) = true) (hi : (P.info? ty).map (·.size) = some cs.size) :
    (results fn tmps).run P w = .ok (.tuple #[.agg cs, tmps.getD u undef]) w := by
  have hp' : tmps[p]?.getD undef = .pointer (some ⟨g, 0, none⟩) := by simpa using hp
  simp [results, h, hp', asAddr, run_loadVar_row w g t ty cs fr d hg hu hd hi]
theorem tq_storeH {P : Program} {o : Oper} {a : Act} {w : World} {K : Act → World → Prop} (ty : TypeId) (x y : Operand) (ho : o.op = .store ty x y)
    (b off : Nat) (cells : Array Value) (hx : a.eval x = .pointer (some ⟨b, off, none⟩)) (hy : a.eval y = .agg cells)
    (ht : w.there b off cells.size) (hi : (P.info? ty).map (·.size) = some cells.size) (h1 : cells.all (·.oneCell') = true)
    (h : K (a.put o.dst undef) (w.setCells b off cells.toList)) : Sched.tq P o a w K := by
  unfold Sched.tq execOp
  simp only [ho, hx, hy, Instr.storeAt, Instr.sureAddr, Sem.run_bind, Sem.run_pure, Result.andThen_ok, run_storeVar_mid w b off ty cells ht hi h1]
  exact h
def NOwnB (B n : Nat) (xs : List Int) : Sched.NPred := fun _ _ v w => ∃ a cap, v = .slice a n cap ∧ OwnI B 5 .u8 w a n cap xs
theorem NOwnB.stable (B n : Nat) (xs : List Int) : Sched.Stable (NOwnB B n xs) := by
  rintro lo hi v w w' ⟨a, c, h1, h2⟩ hg
  exact ⟨a, c, h1, h2.stay hg⟩
def zeroP : Pc := ⟨false, none, 0, 0, 0, 0, 0, 0⟩
theorem hvalid_is {p : Pc} {V : Bool} (h : validPc p = V) (w : World) : Calls Tryd.prog 15 #[PVal p] w fun e w' => e = .returned (.bool V) ∧ Gr w w' := h ▸ hvalid_any p w
theorem pblk_at {g : Nat} {p : Pc} {w : World} (h : PBlk g p w) (i : Nat) {v : Value} (hv : (PCells p)[i]? = some v) : w.cell? ⟨g, i, none⟩ = some v := by
  rw [cell_of_block h]; exact hv
theorem pblk_there {g : Nat} {p : Pc} {w : World} (h : PBlk g p w) : w.there g 0 6 := there_block h (by simp [PCells])
theorem pblk_put {g : Nat} {p : Pc} {w : World} (h : PBlk g p w) (q : Pc) : PBlk g q (w.setCells g 0 (PList q)) := heap_setCells (PList q) 0 w (PList p) h
theorem pblk_other {g k : Nat} {p : Pc} {w : World} (h : PBlk g p w) (vs : List Value) (hk : g ≠ k) : PBlk g p (w.setCells k 0 vs) :=
  ((grown_setCells k vs 0 w).block g (heap_lt h) (by simpa using hk)).trans h
/-- What a function returns that gives a process and a number. -/
def ProcPost (q : Pc) (l : List Int) (E : Int) (w : World) (e : Ending) (w' : World) : Prop := ∃ a' c', e = .returned (.tuple #[PVal { q with a := a', cap := c' }, .int .i64 E]) ∧ OwnI w.heap.size 5 .u8 w' a' q.len c' l ∧ Gr w w'
def startE (p : Pc) (len : Nat) (n : Int) : Int := if validPc p = false then 1 else if p.act then 62 else if sizedB len = false then 2 else if codedB n = false then 3 else 0
def startQ (p : Pc) (len : Nat) (n : Int) : Pc := if startE p len n = 0 then ⟨true, none, len, 0, n, 1 - p.fresh, 0, 0⟩ else p
def startL (p : Pc) (blk ys : List Int) (len : Nat) (n : Int) : List Int := if startE p len n = 0 then ys else blk
theorem own_cells {B : Nat} {e : TypeId} {k : IntKind} {w : World} {a : Option Addr} {n cap : Nat} {xs : List Int} (h : OwnI B e k w a n cap xs) {g : Nat} (hg : g < B) (vs : List Value) : OwnI B e k (w.setCells g 0 vs) a n cap xs := by
  refine h.kept (grown_setCells g vs 0 w) ?_
  cases hv : (Value.slice a n cap).ownBlock with
  | none => exact .inl rfl
  | some b => exact .inr (by intro h2; have := (h.below b hv).1; cases h2; omega)
set_option maxRecDepth 20000 in
set_option maxHeartbeats 2000000 in
theorem start_any (p : Pc) (blk : List Int) (x : Option Addr) (len cap : Nat) (ys : List Int) (n : Int) (w : World) (hr : Rd .u8 w p.a p.len blk) (hl : p.len ≤ 17592186044000) (hy : Rd .u8 w x len ys) (hl2 : len ≤ 17592186044000) :
    Calls Tryd.prog 12 #[PVal p, .slice x len cap, .int .i64 n] w (ProcPost (startQ p len n) (startL p blk ys len n) (startE p len n) w) := by
  have HR := Lib.hid hr
  have HY := Lib.hid hy
  clear hr hy
  unfold PVal
  go_enter Tryd.func12, Tryd.ntmps12
  go_upto_region 1 with (fail)
  obtain ⟨w0, hw0⟩ : ∃ y, y = w.alloc (.cells #[.bool p.act, .slice p.a p.len p.cap, .int .i64 p.coded, .int .i64 p.fresh, .int .i64 p.ver, .int .i64 p.tries] 24) := ⟨_, rfl⟩
  have hb0 : PBlk w.heap.size p w0 := by rw [hw0]; exact heap_alloc_new _ _
  have hg0 : Gr w w0 := by rw [hw0]; exact Gr.alloc _ _
  have hs0 : w0.heap.size = w.heap.size + 1 := by rw [hw0]; simp
  rw [← hw0]
  obtain ⟨w1, hw1⟩ : ∃ y, y = w0.alloc (.cells #[.bool false, .slice none 0 0, .int .i64 0, .int .i64 0, .int .i64 0, .int .i64 0] 24) := ⟨_, rfl⟩
  have hg1 : Gr w0 w1 := by rw [hw1]; exact Gr.alloc _ _
  have hz1 : PBlk (w.heap.size + 1) zeroP w1 := by rw [hw1, ← hs0]; exact heap_alloc_new _ _
  rw [← hw1]
  have HB1 := Lib.hid (hb0.kept hg1)
  have HZ1 := Lib.hid hz1
  have HG1 := Lib.hid (hg0.trans hg1)
  clear hw0 hw1 hb0 hg0 hg1 hz1 hs0
  obtain ⟨V, hV⟩ : ∃ V, validPc p = V := ⟨_, rfl⟩
  have HV := Lib.hid hV
  clear hV
  have hb' := (HB1).out
  unfold PBlk PCells at hb'
  have HB1U := Lib.hid hb'
  clear hb'
  go_wp2_with (refine wpList_load_w rfl 24 _ rfl w.heap.size rfl 24 _ _ _ HB1U.out Tryd.underlying24 rfl (by kernel_rfl) ?_)
  refine (hvalid_is HV.out w1).mono ?_
  rintro e w2 ⟨rfl, hg2⟩
  have HB2 := Lib.hid (HB1.out.kept hg2)
  have HZ2 := Lib.hid (HZ1.out.kept hg2)
  have HG2 := Lib.hid (HG1.out.trans hg2)
  clear hg2 HB1 HZ1 HG1 HB1U
  have hb' := (HB2).out
  unfold PBlk PCells at hb'
  have HB2U := Lib.hid hb'
  clear hb'
  cases V
  · have hE : startE p len n = 1 := by unfold startE; rw [if_pos HV.out]
    have HQ := Lib.hid (show startQ p len n = p by unfold startQ; rw [hE]; rfl)
    have HLL := Lib.hid (show startL p blk ys len n = blk by unfold startL; rw [hE]; rfl)
    have HE := Lib.hid hE
    clear hE
    go_wp2_with (refine wpList_load_w rfl 24 _ rfl w.heap.size rfl 24 _ _ _ HB2U.out Tryd.underlying24 rfl (by kernel_rfl) ?_)
    refine (copied_any p blk w2 (rd_gr HR.out (HG2).out) hl).mono ?_
    rintro e w8 ⟨a', c', rfl, ho8, hg8⟩
    have hz8 := (HZ2).out.kept hg8
    obtain ⟨w9, hw9⟩ : ∃ y, y = w8.setCells (w.heap.size + 1) 0 (PList { p with a := a', cap := c' }) := ⟨_, rfl⟩
    have hz9 := pblk_put hz8 { p with a := a', cap := c' }
    have ho9 := own_cells ho8 (heap_lt (HZ2).out) (PList { p with a := a', cap := c' })
    have hg9 := grown_setCells_new ((HG2).out.trans hg8) (show w.heap.size ≤ w.heap.size + 1 by omega) (PList { p with a := a', cap := c' }) 0
    rw [← hw9] at hz9 ho9 hg9
    have HTH := Lib.hid (pblk_there hz8)
    have HZ9 := Lib.hid hz9
    have HO9 := Lib.hid (ho9.weak29 (B' := w.heap.size) (HG2).out.size)
    have HG9 := Lib.hid hg9
    have HW9 := Lib.hid hw9
    clear hz8 hw9 hz9 ho9 hg9 ho8 hg8
    go_wp2_with (refine wpList_store_mid rfl 24 _ _ rfl (w.heap.size + 1) 0 (PList { p with a := a', cap := c' }).toArray rfl rfl HTH.out (by kernel_rfl) (plist_one _) ?_; rw [← HW9.out])
    refine bodyPost_ret (results_cell_row1 Tryd.results12 _ _ (w.heap.size + 1) _ _ _ _ rfl HZ9.out Tryd.underlying24 rfl (by kernel_rfl)) rfl ?_
    rw [HQ.out, HLL.out, HE.out]
    exact ⟨a', c', rfl, HO9.out, HG9.out⟩
  have c0 := pblk_at HB2.out 0 (v := .bool p.act) rfl
  have hnv : ¬ validPc p = false := by rw [HV.out]; simp
  have HNV := Lib.hid hnv
  clear hnv
  by_cases ha : p.act = true
  · rw [ha] at c0
    have HA := Lib.hid ha
    clear ha
    have hE : startE p len n = 62 := by unfold startE; rw [if_neg HNV.out, if_pos HA.out]
    have HQ := Lib.hid (show startQ p len n = p by unfold startQ; rw [hE]; rfl)
    have HLL := Lib.hid (show startL p blk ys len n = blk by unfold startL; rw [hE]; rfl)
    have HE := Lib.hid hE
    clear hE
    go_wp2_with (refine wpList_load_w rfl 24 _ rfl w.heap.size rfl 24 _ _ _ HB2U.out Tryd.underlying24 rfl (by kernel_rfl) ?_)
    refine (copied_any p blk w2 (rd_gr HR.out (HG2).out) hl).mono ?_
    rintro e w8 ⟨a', c', rfl, ho8, hg8⟩
    have hz8 := (HZ2).out.kept hg8
    obtain ⟨w9, hw9⟩ : ∃ y, y = w8.setCells (w.heap.size + 1) 0 (PList { p with a := a', cap := c' }) := ⟨_, rfl⟩
    have hz9 := pblk_put hz8 { p with a := a', cap := c' }
    have ho9 := own_cells ho8 (heap_lt (HZ2).out) (PList { p with a := a', cap := c' })
    have hg9 := grown_setCells_new ((HG2).out.trans hg8) (show w.heap.size ≤ w.heap.size + 1 by omega) (PList { p with a := a', cap := c' }) 0
    rw [← hw9] at hz9 ho9 hg9
    have HTH := Lib.hid (pblk_there hz8)
    have HZ9 := Lib.hid hz9
    have HO9 := Lib.hid (ho9.weak29 (B' := w.heap.size) (HG2).out.size)
    have HG9 := Lib.hid hg9
    have HW9 := Lib.hid hw9
    clear hz8 hw9 hz9 ho9 hg9 ho8 hg8
    go_wp2_with (refine wpList_store_mid rfl 24 _ _ rfl (w.heap.size + 1) 0 (PList { p with a := a', cap := c' }).toArray rfl rfl HTH.out (by kernel_rfl) (plist_one _) ?_; rw [← HW9.out])
    refine bodyPost_ret (results_cell_row1 Tryd.results12 _ _ (w.heap.size + 1) _ _ _ _ rfl HZ9.out Tryd.underlying24 rfl (by kernel_rfl)) rfl ?_
    rw [HQ.out, HLL.out, HE.out]
    exact ⟨a', c', rfl, HO9.out, HG9.out⟩
  have ha' : p.act = false := by simpa using ha
  rw [ha'] at c0
  have HA := Lib.hid ha
  clear ha ha'
  obtain ⟨S, hS⟩ : ∃ S, sizedB len = S := ⟨_, rfl⟩
  have HS := Lib.hid hS
  clear hS
  go_wp2_with fail
  refine (sized_is HS.out w2).mono ?_
  rintro e w' ⟨rfl, rfl⟩
  cases S
  · have hE : startE p len n = 2 := by unfold startE; rw [if_neg HNV.out, if_neg HA.out, if_pos HS.out]
    have HQ := Lib.hid (show startQ p len n = p by unfold startQ; rw [hE]; rfl)
    have HLL := Lib.hid (show startL p blk ys len n = blk by unfold startL; rw [hE]; rfl)
    have HE := Lib.hid hE
    clear hE
    go_wp2_with (refine wpList_load_w rfl 24 _ rfl w.heap.size rfl 24 _ _ _ HB2U.out Tryd.underlying24 rfl (by kernel_rfl) ?_)
    refine (copied_any p blk w2 (rd_gr HR.out (HG2).out) hl).mono ?_
    rintro e w8 ⟨a', c', rfl, ho8, hg8⟩
    have hz8 := (HZ2).out.kept hg8
    obtain ⟨w9, hw9⟩ : ∃ y, y = w8.setCells (w.heap.size + 1) 0 (PList { p with a := a', cap := c' }) := ⟨_, rfl⟩
    have hz9 := pblk_put hz8 { p with a := a', cap := c' }
    have ho9 := own_cells ho8 (heap_lt (HZ2).out) (PList { p with a := a', cap := c' })
    have hg9 := grown_setCells_new ((HG2).out.trans hg8) (show w.heap.size ≤ w.heap.size + 1 by omega) (PList { p with a := a', cap := c' }) 0
    rw [← hw9] at hz9 ho9 hg9
    have HTH := Lib.hid (pblk_there hz8)
    have HZ9 := Lib.hid hz9
    have HO9 := Lib.hid (ho9.weak29 (B' := w.heap.size) (HG2).out.size)
    have HG9 := Lib.hid hg9
    have HW9 := Lib.hid hw9
    clear hz8 hw9 hz9 ho9 hg9 ho8 hg8
    go_wp2_with (refine wpList_store_mid rfl 24 _ _ rfl (w.heap.size + 1) 0 (PList { p with a := a', cap := c' }).toArray rfl rfl HTH.out (by kernel_rfl) (plist_one _) ?_; rw [← HW9.out])
    refine bodyPost_ret (results_cell_row1 Tryd.results12 _ _ (w.heap.size + 1) _ _ _ _ rfl HZ9.out Tryd.underlying24 rfl (by kernel_rfl)) rfl ?_
    rw [HQ.out, HLL.out, HE.out]
    exact ⟨a', c', rfl, HO9.out, HG9.out⟩
  have hns : ¬ sizedB len = false := by rw [HS.out]; simp
  have HNS := Lib.hid hns
  clear hns
  obtain ⟨C, hC⟩ : ∃ C, codedB n = C := ⟨_, rfl⟩
  have HC := Lib.hid hC
  clear hC
  go_wp2_with fail
  refine (coded_is HC.out w2).mono ?_
  rintro e w' ⟨rfl, rfl⟩
  cases C
  · have hE : startE p len n = 3 := by unfold startE; rw [if_neg HNV.out, if_neg HA.out, if_neg HNS.out, if_pos HC.out]
    have HQ := Lib.hid (show startQ p len n = p by unfold startQ; rw [hE]; rfl)
    have HLL := Lib.hid (show startL p blk ys len n = blk by unfold startL; rw [hE]; rfl)
    have HE := Lib.hid hE
    clear hE
    go_wp2_with (refine wpList_load_w rfl 24 _ rfl w.heap.size rfl 24 _ _ _ HB2U.out Tryd.underlying24 rfl (by kernel_rfl) ?_)
    refine (copied_any p blk w2 (rd_gr HR.out (HG2).out) hl).mono ?_
    rintro e w8 ⟨a', c', rfl, ho8, hg8⟩
    have hz8 := (HZ2).out.kept hg8
    obtain ⟨w9, hw9⟩ : ∃ y, y = w8.setCells (w.heap.size + 1) 0 (PList { p with a := a', cap := c' }) := ⟨_, rfl⟩
    have hz9 := pblk_put hz8 { p with a := a', cap := c' }
    have ho9 := own_cells ho8 (heap_lt (HZ2).out) (PList { p with a := a', cap := c' })
    have hg9 := grown_setCells_new ((HG2).out.trans hg8) (show w.heap.size ≤ w.heap.size + 1 by omega) (PList { p with a := a', cap := c' }) 0
    rw [← hw9] at hz9 ho9 hg9
    have HTH := Lib.hid (pblk_there hz8)
    have HZ9 := Lib.hid hz9
    have HO9 := Lib.hid (ho9.weak29 (B' := w.heap.size) (HG2).out.size)
    have HG9 := Lib.hid hg9
    have HW9 := Lib.hid hw9
    clear hz8 hw9 hz9 ho9 hg9 ho8 hg8
    go_wp2_with (refine wpList_store_mid rfl 24 _ _ rfl (w.heap.size + 1) 0 (PList { p with a := a', cap := c' }).toArray rfl rfl HTH.out (by kernel_rfl) (plist_one _) ?_; rw [← HW9.out])
    refine bodyPost_ret (results_cell_row1 Tryd.results12 _ _ (w.heap.size + 1) _ _ _ _ rfl HZ9.out Tryd.underlying24 rfl (by kernel_rfl)) rfl ?_
    rw [HQ.out, HLL.out, HE.out]
    exact ⟨a', c', rfl, HO9.out, HG9.out⟩
  have hfr : 0 ≤ p.fresh ∧ p.fresh ≤ 1 := by
    have hv := HV.out
    unfold validPc inPc at hv
    simp only [Bool.and_eq_true, decide_eq_true_eq] at hv
    exact ⟨hv.1.1, hv.1.2.1⟩
  have c3 := pblk_at HB2.out 3 (v := .int .i64 p.fresh) rfl
  have hE : startE p len n = 0 := by unfold startE; rw [if_neg HNV.out, if_neg HA.out, if_neg HNS.out, if_neg (by rw [HC.out]; simp)]
  have HQ := Lib.hid (show startQ p len n = ⟨true, none, len, 0, n, 1 - p.fresh, 0, 0⟩ by unfold startQ; rw [if_pos hE])
  have HLL := Lib.hid (show startL p blk ys len n = ys by unfold startL; rw [if_pos hE])
  have HE := Lib.hid hE
  clear hE
  go_upto_region 9 with (fail)
  have c4 : ∀ u, Gr w2 u → u.cell? ⟨w.heap.size, 3, none⟩ = some (.int .i64 p.fresh) := fun u h => h.cell c3
  refine Sched.wp_region_sched 6 [] [1] (by kernel_rfl) (by kernel_rfl) ?_
  simp only [List.take_succ_cons, List.take_zero, List.drop_succ_cons, List.drop_zero]
  repeat (first | (refine Sched.walk1_no rfl rfl (fun K hK => ?_); simp only [Act.put, List.setIfInBounds_toArray, List.set_cons_zero, List.set_cons_succ]; refine hK _ ?_; clear hK K) | (refine Sched.walk1_gr rfl rfl rfl (fun K hK => ?_); apply Exists.intro; refine ⟨fun w1 hw1 => ?_, ?_⟩; (focus (go_simp; (try go_ints); (try (simp only [IntWalk.iteOmega]; go_simp)); first | done | fail | (with_reducible rfl) | (with_reducible exact ⟨rfl, rfl⟩))); simp only [Act.put, List.setIfInBounds_toArray, List.set_cons_zero, List.set_cons_succ]; refine hK _ ?_; clear hK K) | (refine Sched.walk1_pure rfl rfl rfl (fun K hK => ?_); apply Exists.intro; refine ⟨fun w1 => ?_, ?_⟩; (focus (go_simp; (try go_ints); (try (simp only [IntWalk.iteOmega]; go_simp)); first | done | (with_reducible rfl) | (with_reducible exact ⟨rfl, rfl⟩))); simp only [Act.put, List.setIfInBounds_toArray, List.set_cons_zero, List.set_cons_succ]; refine hK _ ?_; clear hK K) | (refine Sched.walk1_box rfl rfl ?_; apply Exists.intro; refine ⟨fun w1 hw1 => ?_, ?_⟩; (focus (go_simp; exact ⟨Gr.alloc _ _, rfl, by simp, heap_alloc_new _ _⟩))))
  refine Sched.walk1_new (NOwnB (w.heap.size + 2) len ys) rfl rfl (NOwnB.stable _ _ _) (fun u hu => ?_) ?_
  · go_simp
    go_at_call 38
    refine (cloneB29 x len cap ys u ((rd_gr HY.out HG2.out).kept hu) (by omega)).mono ?_
    rintro e w8 ⟨a8, c8, rfl, ho8, hgr⟩
    exact ⟨_, rfl, hgr, a8, c8, rfl, ho8.weak29 (by have := heap_lt HZ2.out; have := hu.size; omega)⟩
  repeat (first | (refine Sched.walk1_no rfl rfl (fun K hK => ?_); simp only [Act.put, List.setIfInBounds_toArray, List.set_cons_zero, List.set_cons_succ]; refine hK _ ?_; clear hK K) | (refine Sched.walk1_gr rfl rfl rfl (fun K hK => ?_); apply Exists.intro; refine ⟨fun w1 hw1 => ?_, ?_⟩; (focus (go_simp; (try go_ints); (try (simp only [IntWalk.iteOmega]; go_simp)); first | done | fail | (with_reducible rfl) | (with_reducible exact ⟨rfl, rfl⟩))); simp only [Act.put, List.setIfInBounds_toArray, List.set_cons_zero, List.set_cons_succ]; refine hK _ ?_; clear hK K) | (refine Sched.walk1_pure rfl rfl rfl (fun K hK => ?_); apply Exists.intro; refine ⟨fun w1 => ?_, ?_⟩; (focus (go_simp; (try go_ints); (try (simp only [IntWalk.iteOmega]; go_simp)); first | done | (with_reducible rfl) | (with_reducible exact ⟨rfl, rfl⟩))); simp only [Act.put, List.setIfInBounds_toArray, List.set_cons_zero, List.set_cons_succ]; refine hK _ ?_; clear hK K) | (refine Sched.walk1_box rfl rfl ?_; apply Exists.intro; refine ⟨fun w1 hw1 => ?_, ?_⟩; (focus (go_simp; exact ⟨Gr.alloc _ _, rfl, by simp, heap_alloc_new _ _⟩))))
  (with_reducible refine Sched.walk1_nil ?_)
  intro wz hwz
  dsimp only [Sched.EndN, List.nil_append, List.cons_append, Act.put]
  rintro - - v5 ⟨a5, c5, rfl, ho5⟩ - - - -
  (try simp only [List.setIfInBounds_toArray, List.set_cons_zero, List.set_cons_succ])
  refine Sched.walk2_go rfl (fun K hK => ?_)
  go_simp
  (try go_ints)
  (try (simp only [IntWalk.iteOmega]; go_simp))
  refine hK _ _ ?_
  clear hK K
  have hz8 := HZ2.out.kept hwz
  obtain ⟨w9, hw9⟩ : ∃ y, y = wz.setCells (w.heap.size + 1) 0 (PList ⟨true, a5, len, c5, n, 1 - p.fresh, 0, 0⟩) := ⟨_, rfl⟩
  have hz9 := pblk_put hz8 ⟨true, a5, len, c5, n, 1 - p.fresh, 0, 0⟩
  have ho9 := own_cells ho5 (show w.heap.size + 1 < w.heap.size + 2 by omega) (PList ⟨true, a5, len, c5, n, 1 - p.fresh, 0, 0⟩)
  have hg9 := grown_setCells_new (HG2.out.trans hwz) (show w.heap.size ≤ w.heap.size + 1 by omega) (PList ⟨true, a5, len, c5, n, 1 - p.fresh, 0, 0⟩) 0
  rw [← hw9] at hz9 ho9 hg9
  have HTH := Lib.hid (pblk_there hz8)
  have HZ9 := Lib.hid hz9
  have HO9 := Lib.hid (ho9.weak29 (B' := w.heap.size) (by omega))
  have HG9 := Lib.hid hg9
  have HW9 := Lib.hid hw9
  clear hz8 hw9 hz9 ho9 hg9 ho5 hwz c4 c3 c0
  refine Sched.walk2_go rfl (fun K hK => ?_)
  refine tq_storeH 24 _ _ rfl (w.heap.size + 1) 0 (PList ⟨true, a5, len, c5, n, 1 - p.fresh, 0, 0⟩).toArray rfl rfl HTH.out (by kernel_rfl) (plist_one _) ?_
  rw [← HW9.out]
  dsimp only [Act.put]
  try simp only [List.setIfInBounds_toArray, List.set_cons_zero, List.set_cons_succ]
  refine hK _ _ ?_
  clear hK K
  repeat (first | (refine Sched.walk2_no rfl (fun K hK => ?_); simp only [Act.put, List.setIfInBounds_toArray, List.set_cons_zero, List.set_cons_succ]; refine hK _ ?_; clear hK K) | (refine Sched.walk2_go rfl (fun K hK => ?_); go_simp; (try go_ints); (try (simp only [IntWalk.iteOmega]; go_simp)); first | (refine hK _ _ ?_; clear hK K) | fail))
  refine Sched.walk2_nil ?_
  go_wp2_with fail
  refine bodyPost_ret (results_cell_row1 Tryd.results12 _ _ (w.heap.size + 1) _ _ _ _ rfl HZ9.out Tryd.underlying24 rfl (by kernel_rfl)) rfl ?_
  rw [HQ.out, HLL.out, HE.out]
  exact ⟨a5, c5, rfl, HO9.out, HG9.out⟩
end Go.Proofs.YtcleegibdcphiaaDoor
