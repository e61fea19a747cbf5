/- The law FlowExact (layer 06): its walk. -/
import Derived.Test.YtmojlengjoicoaaFlowW
import Derived.Test.YtmojlengjoicoaaSched2
namespace Go.Proofs.Ytmojlengjoicoaa
open Go.ChangeShapes Go.WideShapes Go.ChangeAt Go.RowKit

theorem Sched.gq_load_mid {P : Program} {o : Oper} {a : Act} {w : World} {late : Bool} (ty : TypeId) (x : Operand) (ho : o.op = .load ty x) (b off : Nat) (hx : a.eval x = .pointer (some ⟨b, off, none⟩)) (cs : List Value) (d : TypeDesc) (hc : w.rangeAt b off cs)
    (hu : P.underlying ty = some d) (hd : d.isRow = true) (hi : (P.info? ty).map (·.size) = some cs.length) : Sched.gq P o a w (.agg cs.toArray) late := by
  unfold Sched.gq execOp
  simp only [ho, hx, Instr.loadAt, Instr.sureAddr, Sem.run_bind, Sem.run_pure, Result.andThen_ok, run_loadVar_mid w b off ty cs d hc hu hd hi]
  exact ⟨trivial, trivial⟩
theorem Sched2.gq_load_mid {P : Program} {o : Oper} {a : Act} {w : World} {late : Bool} (ty : TypeId) (x : Operand) (ho : o.op = .load ty x) (b off : Nat) (hx : a.eval x = .pointer (some ⟨b, off, none⟩)) (cs : List Value) (d : TypeDesc) (hc : w.rangeAt b off cs)
    (hu : P.underlying ty = some d) (hd : d.isRow = true) (hi : (P.info? ty).map (·.size) = some cs.length) : Sched2.gq P o a w (.agg cs.toArray) late := by
  unfold Sched2.gq execOp
  simp only [ho, hx, Instr.loadAt, Instr.sureAddr, Sem.run_bind, Sem.run_pure, Result.andThen_ok, run_loadVar_mid w b off ty cs d hc hu hd hi]
  exact ⟨trivial, trivial⟩
theorem tq_store {P : Program} {o : Oper} {a : Act} {w : World} {K : Act → World → Prop} (ty : TypeId) (x y : Operand) (ho : o.op = .store ty x y)
    (b off : Nat) (cells : Array Value) (hx : a.eval x = .pointer (some ⟨b, off, none⟩)) (hy : a.eval y = .agg cells)
    (ht : w.there b off cells.size) (hi : (P.info? ty).map (·.size) = some cells.size) (h1 : cells.all (·.oneCell') = true)
    (h : K (a.put o.dst undef) (w.setCells b off cells.toList)) : Sched.tq P o a w K := by
  unfold Sched.tq execOp
  simp only [ho, hx, hy, Instr.storeAt, Instr.sureAddr, Sem.run_bind, Sem.run_pure, Result.andThen_ok, run_storeVar_mid w b off ty cells ht hi h1]
  exact h
theorem blk_kept {w w' : World} {g : Nat} {o : Obj} {r : Option Nat} (h : w.heap[g]? = some o) (hg : w.grownBy w' r) (hne : some g ≠ r) : w'.heap[g]? = some o := by
  rw [hg.block _ (heap_lt h) hne]; exact h
theorem range_block {w : World} {g : Nat} {e : TypeId} {fz : Nat × Nat} {A C D : List Value} (h : w.heap[g]? = some (.cells (A ++ (C ++ D)).toArray e fz)) : w.rangeAt g A.length C := by
  intro j v hv
  have hj : j < C.length := (List.getElem?_eq_some_iff.1 hv).1
  rw [cell_of_block h, List.getElem?_toArray, List.getElem?_append_right (by omega), show A.length + j - A.length = j by omega, List.getElem?_append_left hj]
  exact hv
theorem range_grown {W w : World} {b o : Nat} {cs : List Value} (h : W.rangeAt b o cs) (hg : Gr W w) : w.rangeAt b o cs := fun j v hv => hg.cell (h j v hv)
theorem stat_is {a R : Hdr} (h : statH a = R) (w : World) : Calls Try.prog 27 #[HVal a] w fun e w' => e = .returned (HVal R) ∧ Gr w w' := h ▸ stat_any a w
theorem rstat_is {a R : Hdr} (h : statH a = R) (w : World) : Calls Try.prog 28 #[HVal a] w fun e w' => e = .returned (HVal R) ∧ Gr w w' := h ▸ rstat_any a w
theorem chg_is {a b : Hdr} {R : Int} (h : chH a b = R) (w : World) : Calls Try.prog 30 #[HVal a, HVal b] w fun e w' => e = .returned (.int .i64 R) ∧ Gr w w' := h ▸ changed_any a b w
theorem rchg_is {a b : Hdr} {R : Int} (h : chH a b = R) (w : World) : Calls Try.prog 31 #[HVal a, HVal b] w fun e w' => e = .returned (.int .i64 R) ∧ Gr w w' := h ▸ rchanged_any a b w
set_option maxRecDepth 100000 in
set_option maxHeartbeats 4000000 in
theorem fexact_any (a b : Hdr) (cs : List Value) (s f n : Int) (w : World) (hcs : cs = HCells a ++ HCells b) (ha : HOk a) (hb : HOk b) : Calls Try.prog 4 #[.agg cs.toArray, DVal s f, .int .i64 n] w fun e w' => e = .returned (.bool true) ∧ Gr w w' := by
  have HOA := Lib.hid ha
  have HOB := Lib.hid hb
  have HCS := Lib.hid hcs
  clear ha hb hcs
  go_enter Try.func4, Try.ntmps4
  go_upto_region 1 with (fail)
  obtain ⟨w1, hw1⟩ : ∃ y, y = (w.alloc (.cells cs.toArray 41)).alloc (.cells #[.int .i64 s, .int .i64 f] 33) := ⟨_, rfl⟩
  have hl1 : w1.heap[w.heap.size]? = some (.cells (HCells a ++ HCells b).toArray 41 (0, 0)) := by rw [hw1, ← HCS.out]; exact heap_alloc2_old _ _ _
  have hd1 : DBlk (w.heap.size + 1) s f w1 := by rw [hw1]; exact heap_alloc2_new _ _ _
  have hg1 : Gr w w1 := by rw [hw1]; exact (Gr.alloc _ _).trans (Gr.alloc _ _)
  rw [← hw1]
  have HRA := Lib.hid (fun u (hu : Gr w1 u) => range_grown (range_block (A := []) (C := HCells a) (D := HCells b) hl1) hu)
  have HRB := Lib.hid (fun u (hu : Gr w1 u) => range_grown (range_block (A := HCells a) (C := HCells b) (D := []) (by rw [List.append_nil]; exact hl1)) hu)
  have HD1 := Lib.hid hd1
  have HG1 := Lib.hid hg1
  have HL1 := Lib.hid hl1
  clear hw1 hl1 hd1 hg1
  refine Sched2.wp_region_sched (fun u => u.rangeAt w.heap.size 15 (HCells b)) [2, 3] [4, 5] [6, 7] true (fun u hu => HRB.out u hu) (by kernel_rfl) (by kernel_rfl) ?_
  repeat (first | (refine Sched2.walk1_ord rfl ?_) | (refine Sched2.walk1_no rfl rfl rfl (fun K hK => ?_); simp only [Act.put, List.setIfInBounds_toArray, List.set_cons_zero, List.set_cons_succ]; refine hK _ ?_; clear hK K) | (refine Sched2.walk1_gr rfl rfl rfl rfl (fun K hK => ?_); apply Exists.intro; refine ⟨fun w1 hw1 => ?_, ?_⟩; (focus (go_simp; (try go_ints); (try (simp only [IntWalk.iteOmega]; go_simp)); first | done | fail | (with_reducible rfl) | (with_reducible exact ⟨rfl, rfl⟩))); simp only [Act.put, List.setIfInBounds_toArray, List.set_cons_zero, List.set_cons_succ]; refine hK _ ?_; clear hK K) | (refine Sched2.walk1_late rfl rfl rfl rfl (fun K hK => ?_); apply Exists.intro; refine ⟨fun w1 hw1 => ?_, ?_⟩; (focus (go_simp; (try go_ints); (try (simp only [IntWalk.iteOmega]; go_simp)); first | done | fail | (with_reducible rfl) | (with_reducible exact ⟨rfl, rfl⟩))); simp only [Act.put, List.setIfInBounds_toArray, List.set_cons_zero, List.set_cons_succ]; refine hK _ ?_; clear hK K) | (refine Sched2.walk1_box rfl rfl rfl ?_; apply Exists.intro; refine ⟨fun w1 hw1 => ?_, ?_⟩; (focus (go_simp; exact ⟨Gr.alloc _ _, rfl, by simp, heap_alloc_new _ _⟩))))
  refine Sched2.walk1_gr rfl rfl rfl rfl (fun K hK => ?_)
  refine ⟨HVal a, fun w1 hw1 => Sched2.gq_load_mid 29 _ rfl w.heap.size 0 rfl (HCells a) _ (HRA.out w1 hw1) Try.underlying29 rfl (by kernel_rfl), ?_⟩
  simp only [Act.put, List.setIfInBounds_toArray, List.set_cons_zero, List.set_cons_succ]
  refine hK _ ?_
  clear hK K
  repeat (first | (refine Sched2.walk1_ord rfl ?_) | (refine Sched2.walk1_no rfl rfl rfl (fun K hK => ?_); simp only [Act.put, List.setIfInBounds_toArray, List.set_cons_zero, List.set_cons_succ]; refine hK _ ?_; clear hK K) | (refine Sched2.walk1_gr rfl rfl rfl rfl (fun K hK => ?_); apply Exists.intro; refine ⟨fun w1 hw1 => ?_, ?_⟩; (focus (go_simp; (try go_ints); (try (simp only [IntWalk.iteOmega]; go_simp)); first | done | fail | (with_reducible rfl) | (with_reducible exact ⟨rfl, rfl⟩))); simp only [Act.put, List.setIfInBounds_toArray, List.set_cons_zero, List.set_cons_succ]; refine hK _ ?_; clear hK K) | (refine Sched2.walk1_late rfl rfl rfl rfl (fun K hK => ?_); apply Exists.intro; refine ⟨fun w1 hw1 => ?_, ?_⟩; (focus (go_simp; (try go_ints); (try (simp only [IntWalk.iteOmega]; go_simp)); first | done | fail | (with_reducible rfl) | (with_reducible exact ⟨rfl, rfl⟩))); simp only [Act.put, List.setIfInBounds_toArray, List.set_cons_zero, List.set_cons_succ]; refine hK _ ?_; clear hK K) | (refine Sched2.walk1_box rfl rfl rfl ?_; apply Exists.intro; refine ⟨fun w1 hw1 => ?_, ?_⟩; (focus (go_simp; exact ⟨Gr.alloc _ _, rfl, by simp, heap_alloc_new _ _⟩))))
  refine Sched2.walk1_late rfl rfl rfl rfl (fun K hK => ?_)
  refine ⟨HVal b, fun w1 hw1 => Sched2.gq_load_mid 29 _ rfl w.heap.size 15 rfl (HCells b) _ ((fun _ h => h) w1 hw1) Try.underlying29 rfl (by kernel_rfl), ?_⟩
  simp only [Act.put, List.setIfInBounds_toArray, List.set_cons_zero, List.set_cons_succ]
  refine hK _ ?_
  clear hK K
  repeat (first | (refine Sched2.walk1_ord rfl ?_) | (refine Sched2.walk1_no rfl rfl rfl (fun K hK => ?_); simp only [Act.put, List.setIfInBounds_toArray, List.set_cons_zero, List.set_cons_succ]; refine hK _ ?_; clear hK K) | (refine Sched2.walk1_gr rfl rfl rfl rfl (fun K hK => ?_); apply Exists.intro; refine ⟨fun w1 hw1 => ?_, ?_⟩; (focus (go_simp; (try go_ints); (try (simp only [IntWalk.iteOmega]; go_simp)); first | done | fail | (with_reducible rfl) | (with_reducible exact ⟨rfl, rfl⟩))); simp only [Act.put, List.setIfInBounds_toArray, List.set_cons_zero, List.set_cons_succ]; refine hK _ ?_; clear hK K) | (refine Sched2.walk1_late rfl rfl rfl rfl (fun K hK => ?_); apply Exists.intro; refine ⟨fun w1 hw1 => ?_, ?_⟩; (focus (go_simp; (try go_ints); (try (simp only [IntWalk.iteOmega]; go_simp)); first | done | fail | (with_reducible rfl) | (with_reducible exact ⟨rfl, rfl⟩))); simp only [Act.put, List.setIfInBounds_toArray, List.set_cons_zero, List.set_cons_succ]; refine hK _ ?_; clear hK K) | (refine Sched2.walk1_box rfl rfl rfl ?_; apply Exists.intro; refine ⟨fun w1 hw1 => ?_, ?_⟩; (focus (go_simp; exact ⟨Gr.alloc _ _, rfl, by simp, heap_alloc_new _ _⟩))))
  refine Sched2.walk1_nil ?_
  intro wq hwq
  dsimp only [Sched.EndN, List.nil_append, List.cons_append, Act.put]
  rintro lo1 hi1 v1 ⟨rfl, hlt1, hblk1⟩ hlo1 hle1 hhi1 - lo2 hi2 v2 ⟨rfl, hlt2, hblk2⟩ hlo2 hle2 hhi2 hap
  simp only [List.setIfInBounds_toArray, List.set_cons_zero, List.set_cons_succ]
  simp only [Sched2.lasts, List.filterMap_cons, List.filterMap_nil, List.getElem?_toArray, List.getElem?_cons_succ, List.getElem?_cons_zero]
  have hne12 : lo1 ≠ lo2 := by have := hap (lo1, hi1) (by simp); simp only at this; omega
  have hs1 := hlo1
  have hrb := HRB.out wq hwq
  have hw0 := heap_lt HL1.out
  have hrb1 : (wq.setCells lo1 0 (HCells a)).rangeAt w.heap.size 15 (HCells b) := World.rangeAt_setCells_apart hrb lo1 0 (HCells a) (.inl (by omega))
  obtain ⟨w3, hw3⟩ : ∃ y, y = wq.setCells lo1 0 (HCells a).toArray.toList := ⟨_, rfl⟩
  have hblk1' : HBlk lo1 a w3 := by rw [hw3]; exact heap_setCells (HCells a) 0 wq _ hblk1
  have hblk2' := blk_kept (w' := w3) hblk2 (by rw [hw3]; exact grown_setCells lo1 (HCells a) 0 wq) (by simp; omega)
  have hg3 : Gr w1 w3 := by rw [hw3]; exact grown_setCells_new hwq hlo1 _ _
  have ht2 : wq.there lo1 0 (HCells a).toArray.size := there_block hblk1 (by simp)
  have ht3 : w3.there lo2 0 (HCells b).toArray.size := there_block hblk2' (by simp)
  have hrb3 : w3.rangeAt w.heap.size 15 (HCells b) := by rw [hw3]; exact hrb1
  obtain ⟨w2, hw2⟩ : ∃ y, y = w3.setCells lo2 0 (HCells b).toArray.toList := ⟨_, rfl⟩
  refine Sched2.walk2_go rfl (fun K hK => ?_)
  refine tq_store 29 _ _ rfl lo1 0 (HCells a).toArray rfl rfl ht2 (by kernel_rfl) (hcells_one a) ?_
  rw [← hw3]
  simp only [Act.put]
  refine hK _ _ (.inr hrb3) ?_
  clear hK K
  refine Sched2.walk2_go rfl (fun K hK => ?_)
  refine tq_store 29 _ _ rfl lo2 0 (HCells b).toArray rfl rfl ht3 (by kernel_rfl) (hcells_one b) ?_
  rw [← hw2]
  simp only [Act.put]
  refine hK _ _ (.inl ⟨rfl, rfl⟩) ?_
  clear hK K
  refine Sched2.walk2_nil ?_
  have ha2 : HBlk lo1 a w2 := by rw [hw2]; exact blk_kept hblk1' (grown_setCells lo2 (HCells b) 0 _) (by simp; omega)
  have hb2 : HBlk lo2 b w2 := by rw [hw2]; exact heap_setCells (HCells b) 0 _ _ hblk2'
  have hg2 : Gr w1 w2 := by rw [hw2]; exact grown_setCells_new hg3 hlo2 _ _
  have hd2 : DBlk (w.heap.size + 1) s f w2 := HD1.out.kept hg2
  have HAK := Lib.hid (fun u (hu : Gr w2 u) => ha2.kept hu)
  have HBK := Lib.hid (fun u (hu : Gr w2 u) => hb2.kept hu)
  have HG2 := Lib.hid (HG1.out.trans hg2)
  have x0 : ∀ u, Gr w2 u → u.cell? ⟨w.heap.size + 1, 0, none⟩ = some (.int .i64 s) := fun u hu => (hd2.kept hu).c0
  have x1 : ∀ u, Gr w2 u → u.cell? ⟨w.heap.size + 1, 1, none⟩ = some (.int .i64 f) := fun u hu => (hd2.kept hu).c1
  clear hw2 ha2 hb2 hg2 hd2 hblk1' hblk2' hg3 ht2 ht3 hrb3 hw3 hrb hrb1 hs1 hne12 hap hblk1 hblk2 hwq hlt1 hlt2 hlo1 hlo2 hle1 hle2 hhi1 hhi2 hw0
  obtain ⟨V, hV⟩ : ∃ V, sameB a b = V := ⟨_, rfl⟩
  obtain ⟨R1, hR1⟩ : ∃ V, statH a = V := ⟨_, rfl⟩
  obtain ⟨N, hN⟩ : ∃ V, numH a = V := ⟨_, rfl⟩
  obtain ⟨C, hC⟩ : ∃ V, chH a b = V := ⟨_, rfl⟩
  obtain ⟨R2, hR2⟩ : ∃ V, predH s f a n = V := ⟨_, rfl⟩
  obtain ⟨S, hS⟩ : ∃ V, learnS a b = V := ⟨_, rfl⟩
  obtain ⟨F, hF⟩ : ∃ V, learnF a b = V := ⟨_, rfl⟩
  have HV := Lib.hid hV
  have HR1 := Lib.hid hR1
  have HN := Lib.hid hN
  have HC := Lib.hid hC
  have HR2 := Lib.hid hR2
  have HS := Lib.hid hS
  have HF := Lib.hid hF
  have he1 : ∀ u : World, (binOp .eql 29 (HVal R1) (HVal R1)).run Try.prog u = .ok (.bool true) u := fun u => by rw [run_eqH, eqH_refl]
  have he2 : ∀ u : World, (binOp .eql 29 (HVal R2) (HVal R2)).run Try.prog u = .ok (.bool true) u := fun u => by rw [run_eqH, eqH_refl]
  clear hV hR1 hN hC hR2 hS hF
  go_wp2_with fail
  refine Sched.wp_region_sched 53 [] [] (by kernel_rfl) (by kernel_rfl) ?_
  simp only [List.take_succ_cons, List.take_zero, List.drop_succ_cons, List.drop_zero]
  repeat (first | ((with_reducible refine Sched.walk1_no ?_ ?_ (fun K hK => ?_)); (focus rfl); (focus rfl); simp only [Act.put, List.setIfInBounds_toArray, List.set_cons_zero, List.set_cons_succ]; refine hK _ ?_; clear hK K) | ((with_reducible refine Sched.walk1_gr ?_ ?_ ?_ (fun K hK => ?_)); (focus rfl); (focus rfl); (focus rfl); apply Exists.intro; refine ⟨fun w1 hw1 => ?_, ?_⟩; (focus (go_simp; (try go_ints); (try (simp only [IntWalk.iteOmega]; go_simp)); first | done | (go_at_call 15; (with_reducible exact awake06 _)) | (with_reducible rfl) | (with_reducible exact ⟨rfl, rfl⟩))); simp only [Act.put, List.setIfInBounds_toArray, List.set_cons_zero, List.set_cons_succ]; refine hK _ ?_; clear hK K) | ((with_reducible refine Sched.walk1_pure ?_ ?_ ?_ (fun K hK => ?_)); (focus rfl); (focus rfl); (focus rfl); apply Exists.intro; refine ⟨fun w1 => ?_, ?_⟩; (focus (go_simp; (try go_ints); (try (simp only [IntWalk.iteOmega]; go_simp)); first | done | (with_reducible rfl) | (with_reducible exact ⟨rfl, rfl⟩))); simp only [Act.put, List.setIfInBounds_toArray, List.set_cons_zero, List.set_cons_succ]; refine hK _ ?_; clear hK K) | (refine Sched.walk1_box rfl rfl ?_; apply Exists.intro; refine ⟨fun w1 hw1 => ?_, ?_⟩; (focus (go_simp; exact ⟨Gr.alloc _ _, rfl, by simp, heap_alloc_new _ _⟩))))
  refine Sched.walk1_gr rfl rfl rfl (fun K hK => ?_)
  refine ⟨HVal a, fun w1 hw1 => (HAK.out w1 hw1).load _ rfl rfl, ?_⟩
  simp only [Act.put, List.setIfInBounds_toArray, List.set_cons_zero, List.set_cons_succ]
  refine hK _ ?_
  clear hK K
  refine Sched.walk1_gr rfl rfl rfl (fun K hK => ?_)
  refine ⟨HVal b, fun w1 hw1 => (HBK.out w1 hw1).load _ rfl rfl, ?_⟩
  simp only [Act.put, List.setIfInBounds_toArray, List.set_cons_zero, List.set_cons_succ]
  refine hK _ ?_
  clear hK K
  repeat (first | ((with_reducible refine Sched.walk1_no ?_ ?_ (fun K hK => ?_)); (focus rfl); (focus rfl); simp only [Act.put, List.setIfInBounds_toArray, List.set_cons_zero, List.set_cons_succ]; refine hK _ ?_; clear hK K) | ((with_reducible refine Sched.walk1_gr ?_ ?_ ?_ (fun K hK => ?_)); (focus rfl); (focus rfl); (focus rfl); apply Exists.intro; refine ⟨fun w1 hw1 => ?_, ?_⟩; (focus (go_simp; (try go_ints); (try (simp only [IntWalk.iteOmega]; go_simp)); first | done | (go_at_call 25; (with_reducible exact same_is HV.out _)) | (with_reducible rfl) | (with_reducible exact ⟨rfl, rfl⟩))); simp only [Act.put, List.setIfInBounds_toArray, List.set_cons_zero, List.set_cons_succ]; refine hK _ ?_; clear hK K) | ((with_reducible refine Sched.walk1_pure ?_ ?_ ?_ (fun K hK => ?_)); (focus rfl); (focus rfl); (focus rfl); apply Exists.intro; refine ⟨fun w1 => ?_, ?_⟩; (focus (go_simp; (try go_ints); (try (simp only [IntWalk.iteOmega]; go_simp)); first | done | (with_reducible rfl) | (with_reducible exact ⟨rfl, rfl⟩))); simp only [Act.put, List.setIfInBounds_toArray, List.set_cons_zero, List.set_cons_succ]; refine hK _ ?_; clear hK K) | (refine Sched.walk1_box rfl rfl ?_; apply Exists.intro; refine ⟨fun w1 hw1 => ?_, ?_⟩; (focus (go_simp; exact ⟨Gr.alloc _ _, rfl, by simp, heap_alloc_new _ _⟩))))
  refine Sched.walk1_gr rfl rfl rfl (fun K hK => ?_)
  refine ⟨HVal a, fun w1 hw1 => (HAK.out w1 hw1).load _ rfl rfl, ?_⟩
  simp only [Act.put, List.setIfInBounds_toArray, List.set_cons_zero, List.set_cons_succ]
  refine hK _ ?_
  clear hK K
  refine Sched.walk1_gr rfl rfl rfl (fun K hK => ?_)
  refine ⟨HVal b, fun w1 hw1 => (HBK.out w1 hw1).load _ rfl rfl, ?_⟩
  simp only [Act.put, List.setIfInBounds_toArray, List.set_cons_zero, List.set_cons_succ]
  refine hK _ ?_
  clear hK K
  repeat (first | ((with_reducible refine Sched.walk1_no ?_ ?_ (fun K hK => ?_)); (focus rfl); (focus rfl); simp only [Act.put, List.setIfInBounds_toArray, List.set_cons_zero, List.set_cons_succ]; refine hK _ ?_; clear hK K) | ((with_reducible refine Sched.walk1_gr ?_ ?_ ?_ (fun K hK => ?_)); (focus rfl); (focus rfl); (focus rfl); apply Exists.intro; refine ⟨fun w1 hw1 => ?_, ?_⟩; (focus (go_simp; (try go_ints); (try (simp only [IntWalk.iteOmega]; go_simp)); first | done | (go_at_call 26; (with_reducible exact rsame_is HV.out _)) | (with_reducible rfl) | (with_reducible exact ⟨rfl, rfl⟩))); simp only [Act.put, List.setIfInBounds_toArray, List.set_cons_zero, List.set_cons_succ]; refine hK _ ?_; clear hK K) | ((with_reducible refine Sched.walk1_pure ?_ ?_ ?_ (fun K hK => ?_)); (focus rfl); (focus rfl); (focus rfl); apply Exists.intro; refine ⟨fun w1 => ?_, ?_⟩; (focus (go_simp; (try go_ints); (try (simp only [IntWalk.iteOmega]; go_simp)); first | done | (with_reducible rfl) | (with_reducible exact ⟨rfl, rfl⟩))); simp only [Act.put, List.setIfInBounds_toArray, List.set_cons_zero, List.set_cons_succ]; refine hK _ ?_; clear hK K) | (refine Sched.walk1_box rfl rfl ?_; apply Exists.intro; refine ⟨fun w1 hw1 => ?_, ?_⟩; (focus (go_simp; exact ⟨Gr.alloc _ _, rfl, by simp, heap_alloc_new _ _⟩))))
  refine Sched.walk1_gr rfl rfl rfl (fun K hK => ?_)
  refine ⟨HVal a, fun w1 hw1 => (HAK.out w1 hw1).load _ rfl rfl, ?_⟩
  simp only [Act.put, List.setIfInBounds_toArray, List.set_cons_zero, List.set_cons_succ]
  refine hK _ ?_
  clear hK K
  repeat (first | ((with_reducible refine Sched.walk1_no ?_ ?_ (fun K hK => ?_)); (focus rfl); (focus rfl); simp only [Act.put, List.setIfInBounds_toArray, List.set_cons_zero, List.set_cons_succ]; refine hK _ ?_; clear hK K) | ((with_reducible refine Sched.walk1_gr ?_ ?_ ?_ (fun K hK => ?_)); (focus rfl); (focus rfl); (focus rfl); apply Exists.intro; refine ⟨fun w1 hw1 => ?_, ?_⟩; (focus (go_simp; (try go_ints); (try (simp only [IntWalk.iteOmega]; go_simp)); first | done | (go_at_call 27; (with_reducible exact stat_is HR1.out _)) | (with_reducible rfl) | (with_reducible exact ⟨rfl, rfl⟩))); simp only [Act.put, List.setIfInBounds_toArray, List.set_cons_zero, List.set_cons_succ]; refine hK _ ?_; clear hK K) | ((with_reducible refine Sched.walk1_pure ?_ ?_ ?_ (fun K hK => ?_)); (focus rfl); (focus rfl); (focus rfl); apply Exists.intro; refine ⟨fun w1 => ?_, ?_⟩; (focus (go_simp; (try go_ints); (try (simp only [IntWalk.iteOmega]; go_simp)); first | done | (with_reducible rfl) | (with_reducible exact ⟨rfl, rfl⟩))); simp only [Act.put, List.setIfInBounds_toArray, List.set_cons_zero, List.set_cons_succ]; refine hK _ ?_; clear hK K) | (refine Sched.walk1_box rfl rfl ?_; apply Exists.intro; refine ⟨fun w1 hw1 => ?_, ?_⟩; (focus (go_simp; exact ⟨Gr.alloc _ _, rfl, by simp, heap_alloc_new _ _⟩))))
  refine Sched.walk1_gr rfl rfl rfl (fun K hK => ?_)
  refine ⟨HVal a, fun w1 hw1 => (HAK.out w1 hw1).load _ rfl rfl, ?_⟩
  simp only [Act.put, List.setIfInBounds_toArray, List.set_cons_zero, List.set_cons_succ]
  refine hK _ ?_
  clear hK K
  repeat (first | ((with_reducible refine Sched.walk1_no ?_ ?_ (fun K hK => ?_)); (focus rfl); (focus rfl); simp only [Act.put, List.setIfInBounds_toArray, List.set_cons_zero, List.set_cons_succ]; refine hK _ ?_; clear hK K) | ((with_reducible refine Sched.walk1_gr ?_ ?_ ?_ (fun K hK => ?_)); (focus rfl); (focus rfl); (focus rfl); apply Exists.intro; refine ⟨fun w1 hw1 => ?_, ?_⟩; (focus (go_simp; (try go_ints); (try (simp only [IntWalk.iteOmega]; go_simp)); first | done | (go_at_call 28; (with_reducible exact rstat_is HR1.out _)) | (with_reducible rfl) | (with_reducible exact ⟨rfl, rfl⟩))); simp only [Act.put, List.setIfInBounds_toArray, List.set_cons_zero, List.set_cons_succ]; refine hK _ ?_; clear hK K) | ((with_reducible refine Sched.walk1_pure ?_ ?_ ?_ (fun K hK => ?_)); (focus rfl); (focus rfl); (focus rfl); apply Exists.intro; refine ⟨fun w1 => ?_, ?_⟩; (focus (go_simp; (try go_ints); (try (simp only [IntWalk.iteOmega]; go_simp)); first | done | (with_reducible rfl) | (with_reducible exact ⟨rfl, rfl⟩))); simp only [Act.put, List.setIfInBounds_toArray, List.set_cons_zero, List.set_cons_succ]; refine hK _ ?_; clear hK K) | (refine Sched.walk1_box rfl rfl ?_; apply Exists.intro; refine ⟨fun w1 hw1 => ?_, ?_⟩; (focus (go_simp; exact ⟨Gr.alloc _ _, rfl, by simp, heap_alloc_new _ _⟩))))
  refine Sched.walk1_gr rfl rfl rfl (fun K hK => ?_)
  refine ⟨HVal a, fun w1 hw1 => (HAK.out w1 hw1).load _ rfl rfl, ?_⟩
  simp only [Act.put, List.setIfInBounds_toArray, List.set_cons_zero, List.set_cons_succ]
  refine hK _ ?_
  clear hK K
  repeat (first | ((with_reducible refine Sched.walk1_no ?_ ?_ (fun K hK => ?_)); (focus rfl); (focus rfl); simp only [Act.put, List.setIfInBounds_toArray, List.set_cons_zero, List.set_cons_succ]; refine hK _ ?_; clear hK K) | ((with_reducible refine Sched.walk1_gr ?_ ?_ ?_ (fun K hK => ?_)); (focus rfl); (focus rfl); (focus rfl); apply Exists.intro; refine ⟨fun w1 hw1 => ?_, ?_⟩; (focus (go_simp; (try go_ints); (try (simp only [IntWalk.iteOmega]; go_simp)); first | done | (go_at_call 21; (with_reducible exact num_is HN.out _)) | (with_reducible rfl) | (with_reducible exact ⟨rfl, rfl⟩))); simp only [Act.put, List.setIfInBounds_toArray, List.set_cons_zero, List.set_cons_succ]; refine hK _ ?_; clear hK K) | ((with_reducible refine Sched.walk1_pure ?_ ?_ ?_ (fun K hK => ?_)); (focus rfl); (focus rfl); (focus rfl); apply Exists.intro; refine ⟨fun w1 => ?_, ?_⟩; (focus (go_simp; (try go_ints); (try (simp only [IntWalk.iteOmega]; go_simp)); first | done | (with_reducible rfl) | (with_reducible exact ⟨rfl, rfl⟩))); simp only [Act.put, List.setIfInBounds_toArray, List.set_cons_zero, List.set_cons_succ]; refine hK _ ?_; clear hK K) | (refine Sched.walk1_box rfl rfl ?_; apply Exists.intro; refine ⟨fun w1 hw1 => ?_, ?_⟩; (focus (go_simp; exact ⟨Gr.alloc _ _, rfl, by simp, heap_alloc_new _ _⟩))))
  refine Sched.walk1_gr rfl rfl rfl (fun K hK => ?_)
  refine ⟨HVal a, fun w1 hw1 => (HAK.out w1 hw1).load _ rfl rfl, ?_⟩
  simp only [Act.put, List.setIfInBounds_toArray, List.set_cons_zero, List.set_cons_succ]
  refine hK _ ?_
  clear hK K
  repeat (first | ((with_reducible refine Sched.walk1_no ?_ ?_ (fun K hK => ?_)); (focus rfl); (focus rfl); simp only [Act.put, List.setIfInBounds_toArray, List.set_cons_zero, List.set_cons_succ]; refine hK _ ?_; clear hK K) | ((with_reducible refine Sched.walk1_gr ?_ ?_ ?_ (fun K hK => ?_)); (focus rfl); (focus rfl); (focus rfl); apply Exists.intro; refine ⟨fun w1 hw1 => ?_, ?_⟩; (focus (go_simp; (try go_ints); (try (simp only [IntWalk.iteOmega]; go_simp)); first | done | (go_at_call 29; (with_reducible exact rnum_is HN.out _)) | (with_reducible rfl) | (with_reducible exact ⟨rfl, rfl⟩))); simp only [Act.put, List.setIfInBounds_toArray, List.set_cons_zero, List.set_cons_succ]; refine hK _ ?_; clear hK K) | ((with_reducible refine Sched.walk1_pure ?_ ?_ ?_ (fun K hK => ?_)); (focus rfl); (focus rfl); (focus rfl); apply Exists.intro; refine ⟨fun w1 => ?_, ?_⟩; (focus (go_simp; (try go_ints); (try (simp only [IntWalk.iteOmega]; go_simp)); first | done | (with_reducible rfl) | (with_reducible exact ⟨rfl, rfl⟩))); simp only [Act.put, List.setIfInBounds_toArray, List.set_cons_zero, List.set_cons_succ]; refine hK _ ?_; clear hK K) | (refine Sched.walk1_box rfl rfl ?_; apply Exists.intro; refine ⟨fun w1 hw1 => ?_, ?_⟩; (focus (go_simp; exact ⟨Gr.alloc _ _, rfl, by simp, heap_alloc_new _ _⟩))))
  refine Sched.walk1_gr rfl rfl rfl (fun K hK => ?_)
  refine ⟨HVal a, fun w1 hw1 => (HAK.out w1 hw1).load _ rfl rfl, ?_⟩
  simp only [Act.put, List.setIfInBounds_toArray, List.set_cons_zero, List.set_cons_succ]
  refine hK _ ?_
  clear hK K
  refine Sched.walk1_gr rfl rfl rfl (fun K hK => ?_)
  refine ⟨HVal b, fun w1 hw1 => (HBK.out w1 hw1).load _ rfl rfl, ?_⟩
  simp only [Act.put, List.setIfInBounds_toArray, List.set_cons_zero, List.set_cons_succ]
  refine hK _ ?_
  clear hK K
  repeat (first | ((with_reducible refine Sched.walk1_no ?_ ?_ (fun K hK => ?_)); (focus rfl); (focus rfl); simp only [Act.put, List.setIfInBounds_toArray, List.set_cons_zero, List.set_cons_succ]; refine hK _ ?_; clear hK K) | ((with_reducible refine Sched.walk1_gr ?_ ?_ ?_ (fun K hK => ?_)); (focus rfl); (focus rfl); (focus rfl); apply Exists.intro; refine ⟨fun w1 hw1 => ?_, ?_⟩; (focus (go_simp; (try go_ints); (try (simp only [IntWalk.iteOmega]; go_simp)); first | done | (go_at_call 30; (with_reducible exact chg_is HC.out _)) | (with_reducible rfl) | (with_reducible exact ⟨rfl, rfl⟩))); simp only [Act.put, List.setIfInBounds_toArray, List.set_cons_zero, List.set_cons_succ]; refine hK _ ?_; clear hK K) | ((with_reducible refine Sched.walk1_pure ?_ ?_ ?_ (fun K hK => ?_)); (focus rfl); (focus rfl); (focus rfl); apply Exists.intro; refine ⟨fun w1 => ?_, ?_⟩; (focus (go_simp; (try go_ints); (try (simp only [IntWalk.iteOmega]; go_simp)); first | done | (with_reducible rfl) | (with_reducible exact ⟨rfl, rfl⟩))); simp only [Act.put, List.setIfInBounds_toArray, List.set_cons_zero, List.set_cons_succ]; refine hK _ ?_; clear hK K) | (refine Sched.walk1_box rfl rfl ?_; apply Exists.intro; refine ⟨fun w1 hw1 => ?_, ?_⟩; (focus (go_simp; exact ⟨Gr.alloc _ _, rfl, by simp, heap_alloc_new _ _⟩))))
  refine Sched.walk1_gr rfl rfl rfl (fun K hK => ?_)
  refine ⟨HVal a, fun w1 hw1 => (HAK.out w1 hw1).load _ rfl rfl, ?_⟩
  simp only [Act.put, List.setIfInBounds_toArray, List.set_cons_zero, List.set_cons_succ]
  refine hK _ ?_
  clear hK K
  refine Sched.walk1_gr rfl rfl rfl (fun K hK => ?_)
  refine ⟨HVal b, fun w1 hw1 => (HBK.out w1 hw1).load _ rfl rfl, ?_⟩
  simp only [Act.put, List.setIfInBounds_toArray, List.set_cons_zero, List.set_cons_succ]
  refine hK _ ?_
  clear hK K
  repeat (first | ((with_reducible refine Sched.walk1_no ?_ ?_ (fun K hK => ?_)); (focus rfl); (focus rfl); simp only [Act.put, List.setIfInBounds_toArray, List.set_cons_zero, List.set_cons_succ]; refine hK _ ?_; clear hK K) | ((with_reducible refine Sched.walk1_gr ?_ ?_ ?_ (fun K hK => ?_)); (focus rfl); (focus rfl); (focus rfl); apply Exists.intro; refine ⟨fun w1 hw1 => ?_, ?_⟩; (focus (go_simp; (try go_ints); (try (simp only [IntWalk.iteOmega]; go_simp)); first | done | (go_at_call 31; (with_reducible exact rchg_is HC.out _)) | (with_reducible rfl) | (with_reducible exact ⟨rfl, rfl⟩))); simp only [Act.put, List.setIfInBounds_toArray, List.set_cons_zero, List.set_cons_succ]; refine hK _ ?_; clear hK K) | ((with_reducible refine Sched.walk1_pure ?_ ?_ ?_ (fun K hK => ?_)); (focus rfl); (focus rfl); (focus rfl); apply Exists.intro; refine ⟨fun w1 => ?_, ?_⟩; (focus (go_simp; (try go_ints); (try (simp only [IntWalk.iteOmega]; go_simp)); first | done | (with_reducible rfl) | (with_reducible exact ⟨rfl, rfl⟩))); simp only [Act.put, List.setIfInBounds_toArray, List.set_cons_zero, List.set_cons_succ]; refine hK _ ?_; clear hK K) | (refine Sched.walk1_box rfl rfl ?_; apply Exists.intro; refine ⟨fun w1 hw1 => ?_, ?_⟩; (focus (go_simp; exact ⟨Gr.alloc _ _, rfl, by simp, heap_alloc_new _ _⟩))))
  refine Sched.walk1_gr rfl rfl rfl (fun K hK => ?_)
  refine ⟨HVal a, fun w1 hw1 => (HAK.out w1 hw1).load _ rfl rfl, ?_⟩
  simp only [Act.put, List.setIfInBounds_toArray, List.set_cons_zero, List.set_cons_succ]
  refine hK _ ?_
  clear hK K
  repeat (first | ((with_reducible refine Sched.walk1_no ?_ ?_ (fun K hK => ?_)); (focus rfl); (focus rfl); simp only [Act.put, List.setIfInBounds_toArray, List.set_cons_zero, List.set_cons_succ]; refine hK _ ?_; clear hK K) | ((with_reducible refine Sched.walk1_gr ?_ ?_ ?_ (fun K hK => ?_)); (focus rfl); (focus rfl); (focus rfl); apply Exists.intro; refine ⟨fun w1 hw1 => ?_, ?_⟩; (focus (go_simp; (try go_ints); (try (simp only [IntWalk.iteOmega]; go_simp)); first | done | (go_at_call 22; (with_reducible exact predict_is HR2.out _ HOA.out)) | (with_reducible rfl) | (with_reducible exact ⟨rfl, rfl⟩))); simp only [Act.put, List.setIfInBounds_toArray, List.set_cons_zero, List.set_cons_succ]; refine hK _ ?_; clear hK K) | ((with_reducible refine Sched.walk1_pure ?_ ?_ ?_ (fun K hK => ?_)); (focus rfl); (focus rfl); (focus rfl); apply Exists.intro; refine ⟨fun w1 => ?_, ?_⟩; (focus (go_simp; (try go_ints); (try (simp only [IntWalk.iteOmega]; go_simp)); first | done | (with_reducible rfl) | (with_reducible exact ⟨rfl, rfl⟩))); simp only [Act.put, List.setIfInBounds_toArray, List.set_cons_zero, List.set_cons_succ]; refine hK _ ?_; clear hK K) | (refine Sched.walk1_box rfl rfl ?_; apply Exists.intro; refine ⟨fun w1 hw1 => ?_, ?_⟩; (focus (go_simp; exact ⟨Gr.alloc _ _, rfl, by simp, heap_alloc_new _ _⟩))))
  refine Sched.walk1_gr rfl rfl rfl (fun K hK => ?_)
  refine ⟨HVal a, fun w1 hw1 => (HAK.out w1 hw1).load _ rfl rfl, ?_⟩
  simp only [Act.put, List.setIfInBounds_toArray, List.set_cons_zero, List.set_cons_succ]
  refine hK _ ?_
  clear hK K
  repeat (first | ((with_reducible refine Sched.walk1_no ?_ ?_ (fun K hK => ?_)); (focus rfl); (focus rfl); simp only [Act.put, List.setIfInBounds_toArray, List.set_cons_zero, List.set_cons_succ]; refine hK _ ?_; clear hK K) | ((with_reducible refine Sched.walk1_gr ?_ ?_ ?_ (fun K hK => ?_)); (focus rfl); (focus rfl); (focus rfl); apply Exists.intro; refine ⟨fun w1 hw1 => ?_, ?_⟩; (focus (go_simp; (try go_ints); (try (simp only [IntWalk.iteOmega]; go_simp)); first | done | (go_at_call 32; (with_reducible exact rpredict_is HR2.out _)) | (with_reducible rfl) | (with_reducible exact ⟨rfl, rfl⟩))); simp only [Act.put, List.setIfInBounds_toArray, List.set_cons_zero, List.set_cons_succ]; refine hK _ ?_; clear hK K) | ((with_reducible refine Sched.walk1_pure ?_ ?_ ?_ (fun K hK => ?_)); (focus rfl); (focus rfl); (focus rfl); apply Exists.intro; refine ⟨fun w1 => ?_, ?_⟩; (focus (go_simp; (try go_ints); (try (simp only [IntWalk.iteOmega]; go_simp)); first | done | (with_reducible rfl) | (with_reducible exact ⟨rfl, rfl⟩))); simp only [Act.put, List.setIfInBounds_toArray, List.set_cons_zero, List.set_cons_succ]; refine hK _ ?_; clear hK K) | (refine Sched.walk1_box rfl rfl ?_; apply Exists.intro; refine ⟨fun w1 hw1 => ?_, ?_⟩; (focus (go_simp; exact ⟨Gr.alloc _ _, rfl, by simp, heap_alloc_new _ _⟩))))
  refine Sched.walk1_gr rfl rfl rfl (fun K hK => ?_)
  refine ⟨HVal a, fun w1 hw1 => (HAK.out w1 hw1).load _ rfl rfl, ?_⟩
  simp only [Act.put, List.setIfInBounds_toArray, List.set_cons_zero, List.set_cons_succ]
  refine hK _ ?_
  clear hK K
  refine Sched.walk1_gr rfl rfl rfl (fun K hK => ?_)
  refine ⟨HVal b, fun w1 hw1 => (HBK.out w1 hw1).load _ rfl rfl, ?_⟩
  simp only [Act.put, List.setIfInBounds_toArray, List.set_cons_zero, List.set_cons_succ]
  refine hK _ ?_
  clear hK K
  repeat (first | ((with_reducible refine Sched.walk1_no ?_ ?_ (fun K hK => ?_)); (focus rfl); (focus rfl); simp only [Act.put, List.setIfInBounds_toArray, List.set_cons_zero, List.set_cons_succ]; refine hK _ ?_; clear hK K) | ((with_reducible refine Sched.walk1_gr ?_ ?_ ?_ (fun K hK => ?_)); (focus rfl); (focus rfl); (focus rfl); apply Exists.intro; refine ⟨fun w1 hw1 => ?_, ?_⟩; (focus (go_simp; (try go_ints); (try (simp only [IntWalk.iteOmega]; go_simp)); first | done | (go_at_call 33; (with_reducible exact learn_is HS.out HF.out _ HOA.out HOB.out)) | (with_reducible rfl) | (with_reducible exact ⟨rfl, rfl⟩))); simp only [Act.put, List.setIfInBounds_toArray, List.set_cons_zero, List.set_cons_succ]; refine hK _ ?_; clear hK K) | ((with_reducible refine Sched.walk1_pure ?_ ?_ ?_ (fun K hK => ?_)); (focus rfl); (focus rfl); (focus rfl); apply Exists.intro; refine ⟨fun w1 => ?_, ?_⟩; (focus (go_simp; (try go_ints); (try (simp only [IntWalk.iteOmega]; go_simp)); first | done | (with_reducible rfl) | (with_reducible exact ⟨rfl, rfl⟩))); simp only [Act.put, List.setIfInBounds_toArray, List.set_cons_zero, List.set_cons_succ]; refine hK _ ?_; clear hK K) | (refine Sched.walk1_box rfl rfl ?_; apply Exists.intro; refine ⟨fun w1 hw1 => ?_, ?_⟩; (focus (go_simp; exact ⟨Gr.alloc _ _, rfl, by simp, heap_alloc_new _ _⟩))))
  refine Sched.walk1_gr rfl rfl rfl (fun K hK => ?_)
  refine ⟨HVal a, fun w1 hw1 => (HAK.out w1 hw1).load _ rfl rfl, ?_⟩
  simp only [Act.put, List.setIfInBounds_toArray, List.set_cons_zero, List.set_cons_succ]
  refine hK _ ?_
  clear hK K
  refine Sched.walk1_gr rfl rfl rfl (fun K hK => ?_)
  refine ⟨HVal b, fun w1 hw1 => (HBK.out w1 hw1).load _ rfl rfl, ?_⟩
  simp only [Act.put, List.setIfInBounds_toArray, List.set_cons_zero, List.set_cons_succ]
  refine hK _ ?_
  clear hK K
  repeat (first | ((with_reducible refine Sched.walk1_no ?_ ?_ (fun K hK => ?_)); (focus rfl); (focus rfl); simp only [Act.put, List.setIfInBounds_toArray, List.set_cons_zero, List.set_cons_succ]; refine hK _ ?_; clear hK K) | ((with_reducible refine Sched.walk1_gr ?_ ?_ ?_ (fun K hK => ?_)); (focus rfl); (focus rfl); (focus rfl); apply Exists.intro; refine ⟨fun w1 hw1 => ?_, ?_⟩; (focus (go_simp; (try go_ints); (try (simp only [IntWalk.iteOmega]; go_simp)); first | done | (go_at_call 34; (with_reducible exact rlearn_is HS.out HF.out _)) | (with_reducible rfl) | (with_reducible exact ⟨rfl, rfl⟩))); simp only [Act.put, List.setIfInBounds_toArray, List.set_cons_zero, List.set_cons_succ]; refine hK _ ?_; clear hK K) | ((with_reducible refine Sched.walk1_pure ?_ ?_ ?_ (fun K hK => ?_)); (focus rfl); (focus rfl); (focus rfl); apply Exists.intro; refine ⟨fun w1 => ?_, ?_⟩; (focus (go_simp; (try go_ints); (try (simp only [IntWalk.iteOmega]; go_simp)); first | done | (with_reducible rfl) | (with_reducible exact ⟨rfl, rfl⟩))); simp only [Act.put, List.setIfInBounds_toArray, List.set_cons_zero, List.set_cons_succ]; refine hK _ ?_; clear hK K) | (refine Sched.walk1_box rfl rfl ?_; apply Exists.intro; refine ⟨fun w1 hw1 => ?_, ?_⟩; (focus (go_simp; exact ⟨Gr.alloc _ _, rfl, by simp, heap_alloc_new _ _⟩))))
  refine Sched.walk1_nil ?_
  intro wq hwq
  have HGQ := Lib.hid (HG2.out.trans hwq)
  clear hwq x0 x1 he1 he2
  dsimp only [Sched.EndN, List.nil_append, List.cons_append, Act.put]
  (try simp only [List.setIfInBounds_toArray, List.set_cons_zero, List.set_cons_succ])
  repeat (first | (refine Sched.walk2_no rfl (fun K hK => ?_); simp only [Act.put, List.setIfInBounds_toArray, List.set_cons_zero, List.set_cons_succ]; refine hK _ ?_; clear hK K) | (refine Sched.walk2_go rfl (fun K hK => ?_); go_simp; (try go_ints); (try (simp only [IntWalk.iteOmega]; go_simp)); first | (refine hK _ _ ?_; clear hK K) | fail))
  refine Sched.walk2_nil ?_
  go_wp2_with fail
  go_ret
  exact ⟨rfl, HGQ.out⟩
end Go.Proofs.Ytmojlengjoicoaa
