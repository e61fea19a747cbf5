/- Layer 06 (flow): Learn of the program. -/
import Derived.Test.YtmojlengjoicoaaFlowR
namespace Go.Proofs.Ytmojlengjoicoaa
open Go.ChangeShapes Go.WideShapes Go.ChangeAt Go.RowKit

theorem wpList_load_w {P : Program} {ops : Array Oper} {rest : List Oper} {o : Oper} {a : Act} {w : World} {Q : Exit → Act → World → Prop} (hw : Region.wanted o (yielded ops a.tmps) = true) (ty : TypeId) (x : Operand) (ho : o.op = .load ty x)
    (g : Nat) (hx : a.eval x = .pointer (some ⟨g, 0, none⟩)) (t : TypeId) (cs : Array Value) (fr : Nat × Nat) (d : TypeDesc) (hg : w.heap[g]? = some (.cells cs t fr))
    (hu : P.underlying ty = some d) (hd : (match d with | .struct _ | .array _ _ => true | _ => false) = true) (hi : (P.info? ty).map (·.size) = some cs.size)
    (h : wpList P ops Q rest (a.put o.dst (.agg cs)) w) : wpList P ops Q (o :: rest) a w := by
  unfold wpList
  rw [if_pos hw]
  left
  exact wp_load_row ty x ho g hx t cs fr d hg hu hd hi h
def lrnB (a b : Hdr) : Bool := validH a && (validH b && (a.kind == 2 && sameB a b))
def strS (s t : Int) : Int := if s ≠ 0 ∧ t.tmod s = 0 ∧ 0 ≤ t.tdiv s ∧ t.tdiv s ≤ 65535 then t.tdiv s else 0
def stpH (a b : Hdr) : Int := signedS 16 (numH a) (numH b)
def learnS (a b : Hdr) : Int := if lrnB a b then strS (stpH a b) (signedS 32 a.time b.time) else 0
def learnF (a b : Hdr) : Int := if lrnB a b && (b.id == lowS 16 (a.id + stpH a b)) then 1 else 0
theorem same_is {a b : Hdr} {V : Bool} (hv : sameB a b = V) (w : World) : Calls Try.prog 25 #[HVal a, HVal b] w fun e w' => e = .returned (.bool V) ∧ Gr w w' := hv ▸ same_any a b w
def DBlk (g : Nat) (s f : Int) (w : World) : Prop := w.heap[g]? = some (.cells #[.int .i64 s, .int .i64 f] 33 (0, 0))
theorem DBlk.kept {g : Nat} {s f : Int} {w w' : World} (hb : DBlk g s f w) (hg : Gr w w') : DBlk g s f w' := by
  unfold DBlk; rw [hg.block _ (heap_lt hb) (by simp)]; exact hb
theorem DBlk.c0 {g : Nat} {s f : Int} {w : World} (hb : DBlk g s f w) : w.cell? ⟨g, 0, none⟩ = some (.int .i64 s) := by rw [cell_of_block hb]; rfl
theorem DBlk.c1 {g : Nat} {s f : Int} {w : World} (hb : DBlk g s f w) : w.cell? ⟨g, 1, none⟩ = some (.int .i64 f) := by rw [cell_of_block hb]; rfl
theorem DBlk.fz {g : Nat} {s f : Int} {w : World} (hb : DBlk g s f w) (i : Nat) : w.frozen? ⟨g, i, none⟩ = false := frozen_of_block hb i
theorem DBlk.set0 {g : Nat} {s f : Int} {w : World} (hb : DBlk g s f w) (u : Int) : DBlk g u f (w.setCell ⟨g, 0, none⟩ (.int .i64 u)) := by
  unfold DBlk; rw [heap_setCell_eq hb 0]; rfl
theorem DBlk.set1 {g : Nat} {s f : Int} {w : World} (hb : DBlk g s f w) (u : Int) : DBlk g s u (w.setCell ⟨g, 1, none⟩ (.int .i64 u)) := by
  unfold DBlk; rw [heap_setCell_eq hb 1]; rfl
theorem DBlk.other {g p : Nat} {s f : Int} {w : World} (hb : DBlk g s f w) (i : Nat) (v : Value) (hne : g ≠ p) : DBlk g s f (w.setCell ⟨p, i, none⟩ v) := by
  unfold DBlk; rw [heap_setCell_ne _ _ _ _ hne]; exact hb
theorem learn_stride (st q tm : Int) : (if dynB (if (st != 0 && tm.tmod st == 0) = true then q else 0) 0 = true then (if (st != 0 && tm.tmod st == 0) = true then q else 0) else 0) = if st ≠ 0 ∧ tm.tmod st = 0 ∧ 0 ≤ q ∧ q ≤ 65535 then q else 0 := by
  by_cases h1 : st = 0
  · simp [h1]
  · by_cases h2 : tm.tmod st = 0
    · by_cases h3 : 0 ≤ q <;> by_cases h4 : q ≤ 65535 <;> simp [h1, h2, h3, h4, dynB]
    · simp [h1, h2]
theorem tdiv_rng {s t : Int} (h1 : -4294967296 ≤ t) (h2 : t ≤ 4294967296) : -4294967296 ≤ t.tdiv s ∧ t.tdiv s ≤ 4294967296 := by
  have h := Int.natAbs_tdiv t s
  have h3 : (t.tdiv s).natAbs ≤ t.natAbs := by rw [h]; exact Nat.div_le_self _ _
  omega
-- the end of a way that says: nothing learnt
set_option maxRecDepth 100000 in
set_option maxHeartbeats 4000000 in
theorem learn_any (a b : Hdr) (w : World) (ha : HOk a) (hb : HOk b) : Calls Try.prog 33 #[HVal a, HVal b] w fun e w' => e = .returned (DVal (learnS a b) (learnF a b)) ∧ Gr w w' := by
  have HOA := Lib.hid ha
  have HOB := Lib.hid hb
  clear ha hb
  go_enter Try.func33, Try.ntmps33
  go_upto_region 1 with (fail)
  obtain ⟨w1, hw1⟩ : ∃ y, y = ((w.alloc (.cells (HCells a).toArray 29)).alloc (.cells (HCells b).toArray 29)).alloc (.cells #[.int .i64 0, .int .i64 0] 33) := ⟨_, rfl⟩
  obtain ⟨ha1, hb1, hd1⟩ : HBlk w.heap.size a w1 ∧ HBlk (w.heap.size + 1) b w1 ∧ DBlk (w.heap.size + 1 + 1) 0 0 w1 := by rw [hw1]; exact blocks3 _ _ _ _
  have hg1 : Gr w w1 := by rw [hw1]; exact (Gr.alloc _ _).trans ((Gr.alloc _ _).trans (Gr.alloc _ _))
  simp only [HCells] at hw1
  rw [← hw1]
  have HA1 := Lib.hid ha1
  have HB1 := Lib.hid hb1
  have HD1 := Lib.hid hd1
  have HG1 := Lib.hid hg1
  have ha1' := ha1
  unfold HBlk at ha1'
  have HA1' := Lib.hid ha1'
  clear hw1 ha1 hb1 hd1 hg1 ha1'
  obtain ⟨V1, hV1⟩ : ∃ V, validH a = V := ⟨_, rfl⟩
  obtain ⟨V2, hV2⟩ : ∃ V, validH b = V := ⟨_, rfl⟩
  obtain ⟨V4, hV4⟩ : ∃ V, sameB a b = V := ⟨_, rfl⟩
  have HV1 := Lib.hid hV1
  have HV2 := Lib.hid hV2
  have HV4 := Lib.hid hV4
  clear hV1 hV2 hV4
  go_wp2_with (refine wpList_load_w rfl 29 _ rfl w.heap.size rfl 29 _ _ _ HA1'.out Try.underlying29 rfl (by kernel_rfl) ?_)
  refine (pvalid_is HV1.out w1 HOA.out).mono ?_
  rintro e w2 ⟨rfl, hg2⟩
  have HA2 := Lib.hid (HA1.out.kept hg2)
  have HB2 := Lib.hid (HB1.out.kept hg2)
  have HD2 := Lib.hid (HD1.out.kept hg2)
  have HG2 := Lib.hid (HG1.out.trans hg2)
  have hb2' := HB2.out
  unfold HBlk at hb2'
  have HB2' := Lib.hid hb2'
  clear hg2 hb2' HA1 HA1' HB1 HD1 HG1
  cases V1
  · have hl : lrnB a b = false := by unfold lrnB; rw [HV1.out]; rfl
    have HRES := Lib.hid (show Ending.returned (DVal 0 0) = .returned (DVal (learnS a b) (learnF a b)) by unfold learnS learnF; rw [hl]; rfl)
    clear hl
    have hd0 := (HD2.out)
    have HGE := Lib.hid (grown_set (grown_set (HG2.out) (a := ⟨w.heap.size + 1 + 1, 0, none⟩) (show w.heap.size ≤ w.heap.size + 1 + 1 by omega) (.int .i64 0)) (a := ⟨w.heap.size + 1 + 1, 1, none⟩) (show w.heap.size ≤ w.heap.size + 1 + 1 by omega) (.int .i64 0))
    have HBE := Lib.hid ((hd0.set0 0).set1 0)
    have z0 := hd0.c0
    have z1 := hd0.c1
    have g0 := hd0.fz 0
    have g1 := hd0.fz 1
    clear hd0
    go_wp2_with fail
    have hbe := HBE.out
    unfold DBlk at hbe
    exact bodyPost_ret (v := DVal 0 0) (results_cell_row Try.results33 _ _ (w.heap.size + 1 + 1) _ _ _ _ rfl hbe Try.underlying33 rfl (by kernel_rfl)) rfl ⟨HRES.out, HGE.out⟩
  go_wp2_with (refine wpList_load_w rfl 29 _ rfl (w.heap.size + 1) rfl 29 _ _ _ HB2'.out Try.underlying29 rfl (by kernel_rfl) ?_)
  refine (pvalid_is HV2.out w2 HOB.out).mono ?_
  rintro e w3 ⟨rfl, hg3⟩
  have HA3 := Lib.hid (HA2.out.kept hg3)
  have HB3 := Lib.hid (HB2.out.kept hg3)
  have HD3 := Lib.hid (HD2.out.kept hg3)
  have HG3 := Lib.hid (HG2.out.trans hg3)
  clear hg3 HA2 HB2' HB2 HD2 HG2
  cases V2
  · have hl : lrnB a b = false := by unfold lrnB; rw [HV1.out, HV2.out]; rfl
    have HRES := Lib.hid (show Ending.returned (DVal 0 0) = .returned (DVal (learnS a b) (learnF a b)) by unfold learnS learnF; rw [hl]; rfl)
    clear hl
    have hd0 := (HD3.out)
    have HGE := Lib.hid (grown_set (grown_set (HG3.out) (a := ⟨w.heap.size + 1 + 1, 0, none⟩) (show w.heap.size ≤ w.heap.size + 1 + 1 by omega) (.int .i64 0)) (a := ⟨w.heap.size + 1 + 1, 1, none⟩) (show w.heap.size ≤ w.heap.size + 1 + 1 by omega) (.int .i64 0))
    have HBE := Lib.hid ((hd0.set0 0).set1 0)
    have z0 := hd0.c0
    have z1 := hd0.c1
    have g0 := hd0.fz 0
    have g1 := hd0.fz 1
    clear hd0
    go_wp2_with fail
    have hbe := HBE.out
    unfold DBlk at hbe
    exact bodyPost_ret (v := DVal 0 0) (results_cell_row Try.results33 _ _ (w.heap.size + 1 + 1) _ _ _ _ rfl hbe Try.underlying33 rfl (by kernel_rfl)) rfl ⟨HRES.out, HGE.out⟩
  have k0 : w3.cell? ⟨w.heap.size, 0, none⟩ = some (.int .i64 a.kind) := HA3.out.at 0 rfl
  by_cases hk : a.kind = 2
  rotate_left
  · have hl : lrnB a b = false := by unfold lrnB; rw [HV1.out, HV2.out, show (a.kind == 2) = false by simpa using hk]; rfl
    have HRES := Lib.hid (show Ending.returned (DVal 0 0) = .returned (DVal (learnS a b) (learnF a b)) by unfold learnS learnF; rw [hl]; rfl)
    have hkb : (a.kind != 2) = true := by simpa using hk
    clear hl hk
    have hd0 := (HD3.out)
    have HGE := Lib.hid (grown_set (grown_set (HG3.out) (a := ⟨w.heap.size + 1 + 1, 0, none⟩) (show w.heap.size ≤ w.heap.size + 1 + 1 by omega) (.int .i64 0)) (a := ⟨w.heap.size + 1 + 1, 1, none⟩) (show w.heap.size ≤ w.heap.size + 1 + 1 by omega) (.int .i64 0))
    have HBE := Lib.hid ((hd0.set0 0).set1 0)
    have z0 := hd0.c0
    have z1 := hd0.c1
    have g0 := hd0.fz 0
    have g1 := hd0.fz 1
    clear hd0
    go_wp2_with fail
    have hbe := HBE.out
    unfold DBlk at hbe
    exact bodyPost_ret (v := DVal 0 0) (results_cell_row Try.results33 _ _ (w.heap.size + 1 + 1) _ _ _ _ rfl hbe Try.underlying33 rfl (by kernel_rfl)) rfl ⟨HRES.out, HGE.out⟩
  have hkb : (a.kind != 2) = false := by simpa using hk
  have HK := Lib.hid hk
  clear hk
  have ha3' := HA3.out
  unfold HBlk at ha3'
  have HA3' := Lib.hid ha3'
  have hb3' := HB3.out
  unfold HBlk at hb3'
  have HB3' := Lib.hid hb3'
  clear ha3' hb3'
  go_wp2_with (first | (refine wpList_load_w rfl 29 _ rfl w.heap.size rfl 29 _ _ _ HA3'.out Try.underlying29 rfl (by kernel_rfl) ?_) | (refine wpList_load_w rfl 29 _ rfl (w.heap.size + 1) rfl 29 _ _ _ HB3'.out Try.underlying29 rfl (by kernel_rfl) ?_))
  refine (same_is HV4.out w3).mono ?_
  rintro e w4 ⟨rfl, hg4⟩
  have HA4 := Lib.hid (HA3.out.kept hg4)
  have HB4 := Lib.hid (HB3.out.kept hg4)
  have HD4 := Lib.hid (HD3.out.kept hg4)
  have HG4 := Lib.hid (HG3.out.trans hg4)
  clear hg4 HA3 HB3' HA3' HB3 HD3 HG3 k0
  cases V4
  · have hl : lrnB a b = false := by unfold lrnB; rw [HV1.out, HV2.out, HV4.out, show (a.kind == 2) = true by simpa using HK.out]; rfl
    have HRES := Lib.hid (show Ending.returned (DVal 0 0) = .returned (DVal (learnS a b) (learnF a b)) by unfold learnS learnF; rw [hl]; rfl)
    clear hl
    have hd0 := (HD4.out)
    have HGE := Lib.hid (grown_set (grown_set (HG4.out) (a := ⟨w.heap.size + 1 + 1, 0, none⟩) (show w.heap.size ≤ w.heap.size + 1 + 1 by omega) (.int .i64 0)) (a := ⟨w.heap.size + 1 + 1, 1, none⟩) (show w.heap.size ≤ w.heap.size + 1 + 1 by omega) (.int .i64 0))
    have HBE := Lib.hid ((hd0.set0 0).set1 0)
    have z0 := hd0.c0
    have z1 := hd0.c1
    have g0 := hd0.fz 0
    have g1 := hd0.fz 1
    clear hd0
    go_wp2_with fail
    have hbe := HBE.out
    unfold DBlk at hbe
    exact bodyPost_ret (v := DVal 0 0) (results_cell_row Try.results33 _ _ (w.heap.size + 1 + 1) _ _ _ _ rfl hbe Try.underlying33 rfl (by kernel_rfl)) rfl ⟨HRES.out, HGE.out⟩
  have HL := Lib.hid (show lrnB a b = true by unfold lrnB; rw [HV1.out, HV2.out, HV4.out, show (a.kind == 2) = true by simpa using HK.out]; rfl)
  go_upto_region 4 with (fail)
  obtain ⟨w5, hw5⟩ : ∃ y, y = w4.alloc (.cells #[.int .i64 0, .int .i64 0] 33) := ⟨_, rfl⟩
  rw [← hw5]
  have hg5 : Gr w4 w5 := by rw [hw5]; exact Gr.alloc _ _
  have HE5 := Lib.hid (show DBlk w4.heap.size 0 0 w5 by rw [hw5]; exact heap_alloc_new _ _)
  have HA5 := Lib.hid (HA4.out.kept hg5)
  have HB5 := Lib.hid (HB4.out.kept hg5)
  have HD5 := Lib.hid (HD4.out.kept hg5)
  have HG5 := Lib.hid (HG4.out.trans hg5)
  clear hw5 hg5
  have HAK := Lib.hid (fun u (hu : Gr w5 u) => HA5.out.kept hu)
  have HBK := Lib.hid (fun u (hu : Gr w5 u) => HB5.out.kept hu)
  obtain ⟨N1, hN1⟩ : ∃ N, numH a = N := ⟨_, rfl⟩
  obtain ⟨N2, hN2⟩ : ∃ N, numH b = N := ⟨_, rfl⟩
  obtain ⟨st, hst⟩ : ∃ t, signedS 16 N1 N2 = t := ⟨_, rfl⟩
  obtain ⟨tm, htm⟩ : ∃ t, signedS 32 a.time b.time = t := ⟨_, rfl⟩
  have hr1 := signed_rng 16 N1 N2
  have hr2 := signed_rng 32 a.time b.time
  rw [hst] at hr1
  rw [htm] at hr2
  obtain ⟨s1, s2⟩ := hr1
  obtain ⟨t1, t2⟩ := hr2
  have HN1 := Lib.hid hN1
  have HN2 := Lib.hid hN2
  have HST := Lib.hid hst
  have HTM := Lib.hid htm
  clear hN1 hN2 hst htm
  refine Sched.wp_region_sched 5 [] [] (by kernel_rfl) (by kernel_rfl) ?_
  simp only [List.take_succ_cons, List.take_zero, List.drop_succ_cons, List.drop_zero]
  refine Sched.walk1_gr rfl rfl rfl (fun K hK => ?_)
  refine ⟨HVal a, fun w1 hw1 => (HAK.out w1 hw1).load _ rfl rfl, ?_⟩
  simp only [Act.put, List.setIfInBounds_toArray, List.set_cons_zero, List.set_cons_succ]
  refine hK _ ?_
  clear hK K
  repeat (first | (refine Sched.walk1_no rfl rfl (fun K hK => ?_); simp only [Act.put, List.setIfInBounds_toArray, List.set_cons_zero, List.set_cons_succ]; refine hK _ ?_; clear hK K) | (refine Sched.walk1_gr rfl rfl rfl (fun K hK => ?_); apply Exists.intro; refine ⟨fun w1 hw1 => ?_, ?_⟩; (focus (go_simp; (try go_ints); (try (simp only [IntWalk.iteOmega]; go_simp)); first | done | (go_at_call 21; (with_reducible exact num_is HN1.out _)) | (with_reducible rfl) | (with_reducible exact ⟨rfl, rfl⟩))); simp only [Act.put, List.setIfInBounds_toArray, List.set_cons_zero, List.set_cons_succ]; refine hK _ ?_; clear hK K) | (refine Sched.walk1_pure rfl rfl rfl (fun K hK => ?_); apply Exists.intro; refine ⟨fun w1 => ?_, ?_⟩; (focus (go_simp; (try go_ints); (try (simp only [IntWalk.iteOmega]; go_simp)); first | done | (with_reducible rfl) | (with_reducible exact ⟨rfl, rfl⟩))); simp only [Act.put, List.setIfInBounds_toArray, List.set_cons_zero, List.set_cons_succ]; refine hK _ ?_; clear hK K) | (refine Sched.walk1_box rfl rfl ?_; apply Exists.intro; refine ⟨fun w1 hw1 => ?_, ?_⟩; (focus (go_simp; exact ⟨Gr.alloc _ _, rfl, by simp, heap_alloc_new _ _⟩))))
  refine Sched.walk1_gr rfl rfl rfl (fun K hK => ?_)
  refine ⟨HVal b, fun w1 hw1 => (HBK.out w1 hw1).load _ rfl rfl, ?_⟩
  simp only [Act.put, List.setIfInBounds_toArray, List.set_cons_zero, List.set_cons_succ]
  refine hK _ ?_
  clear hK K
  repeat (first | (refine Sched.walk1_no rfl rfl (fun K hK => ?_); simp only [Act.put, List.setIfInBounds_toArray, List.set_cons_zero, List.set_cons_succ]; refine hK _ ?_; clear hK K) | (refine Sched.walk1_gr rfl rfl rfl (fun K hK => ?_); apply Exists.intro; refine ⟨fun w1 hw1 => ?_, ?_⟩; (focus (go_simp; (try go_ints); (try (simp only [IntWalk.iteOmega]; go_simp)); first | done | (first | (go_at_call 21; (with_reducible exact num_is HN2.out _)) | (go_at_call 57; (with_reducible exact gr_same (signed_is HST.out _)))) | (with_reducible rfl) | (with_reducible exact ⟨rfl, rfl⟩))); simp only [Act.put, List.setIfInBounds_toArray, List.set_cons_zero, List.set_cons_succ]; refine hK _ ?_; clear hK K) | (refine Sched.walk1_pure rfl rfl rfl (fun K hK => ?_); apply Exists.intro; refine ⟨fun w1 => ?_, ?_⟩; (focus (go_simp; (try go_ints); (try (simp only [IntWalk.iteOmega]; go_simp)); first | done | (with_reducible rfl) | (with_reducible exact ⟨rfl, rfl⟩))); simp only [Act.put, List.setIfInBounds_toArray, List.set_cons_zero, List.set_cons_succ]; refine hK _ ?_; clear hK K) | (refine Sched.walk1_box rfl rfl ?_; apply Exists.intro; refine ⟨fun w1 hw1 => ?_, ?_⟩; (focus (go_simp; exact ⟨Gr.alloc _ _, rfl, by simp, heap_alloc_new _ _⟩))))
  refine Sched.walk1_nil ?_
  intro wq hwq
  have HA6 := Lib.hid (HA5.out.kept hwq)
  have HB6 := Lib.hid (HB5.out.kept hwq)
  have HD6 := Lib.hid (HD5.out.kept hwq)
  have HE6 := Lib.hid (HE5.out.kept hwq)
  have HG6 := Lib.hid (HG5.out.trans hwq)
  clear hwq HAK HBK HA5 HB5 HD5 HE5 HG5
  dsimp only [Sched.EndN, List.nil_append, List.cons_append, Act.put]
  (try simp only [List.setIfInBounds_toArray, List.set_cons_zero, List.set_cons_succ])
  repeat (first | (refine Sched.walk2_no rfl (fun K hK => ?_); simp only [Act.put, List.setIfInBounds_toArray, List.set_cons_zero, List.set_cons_succ]; refine hK _ ?_; clear hK K) | (refine Sched.walk2_go rfl (fun K hK => ?_); go_simp; (try go_ints); (try (simp only [IntWalk.iteOmega]; go_simp)); first | (refine hK _ _ ?_; clear hK K) | fail))
  refine Sched.walk2_nil ?_
  have k1 : wq.cell? ⟨w.heap.size, 13, none⟩ = some (.int .i64 a.time) := HA6.out.at 13 rfl
  have k2 : wq.cell? ⟨w.heap.size + 1, 13, none⟩ = some (.int .i64 b.time) := HB6.out.at 13 rfl
  go_upto_region 6 with (go_at_call 57; ((with_reducible refine (signed_is HTM.out _).mono ?_)); rintro e w' ⟨rfl, rfl⟩)
  clear k1 k2
  obtain ⟨q, hq⟩ : ∃ q, tm.tdiv st = q := ⟨_, rfl⟩
  have hqr := tdiv_rng (s := st) t1 t2
  rw [hq] at hqr
  obtain ⟨q1, q2⟩ := hqr
  have HQ := Lib.hid hq
  clear hq
  obtain ⟨B, hB⟩ : ∃ x, (st != 0 && tm.tmod st == 0) = x := ⟨_, rfl⟩
  have HBB := Lib.hid hB
  clear hB
  go_cut [45] from 38 (fun s wc => s = .bool B ∧ wq = wc)
  case first =>
    by_cases h0 : st = 0
    · have hb0 : (st != 0) = false := by simpa using h0
      have hE : B = false := by rw [← HBB.out, hb0]; rfl
      subst hE
      clear h0
      go_wp2_with fail
      go_meet
      exact ⟨rfl, rfl⟩
    · have hb0 : (st != 0) = true := by simpa using h0
      cases hm : (tm.tmod st == 0)
      · have hE : B = false := by rw [← HBB.out, hm, Bool.and_false]
        subst hE
        go_wp2_with fail
        go_meet
        exact ⟨rfl, rfl⟩
      · have hE : B = true := by rw [← HBB.out, hm, hb0]; rfl
        subst hE
        go_wp2_with fail
        go_meet
        exact ⟨rfl, rfl⟩
  case rest =>
    obtain ⟨rfl, rfl⟩ := hcut
    go_upto_if 45 with (fail)
    go_cut [] from 38 (fun wc => DBlk w4.heap.size (if B then q else 0) 0 wc ∧ HBlk w.heap.size a wc ∧ HBlk (w.heap.size + 1) b wc ∧ DBlk (w.heap.size + 1 + 1) 0 0 wc ∧ Gr w wc)
    case first =>
      cases B
      · go_wp2_with fail
        go_meet
        exact ⟨HE6.out, HA6.out, HB6.out, HD6.out, HG6.out⟩
      · have hb1 : ¬ st = 0 := by
          have := HBB.out
          simp only [Bool.and_eq_true, bne_iff_ne] at this
          exact this.1
        have hq := HQ.out
        have z0 := HE6.out.c0
        have g0 := HE6.out.fz 0
        go_wp2_with fail
        go_meet
        exact ⟨HE6.out.set0 _, HA6.out.other _ _ (by have := heap_lt HA4.out; omega), HB6.out.other _ _ (by have := heap_lt HB4.out; omega), HD6.out.other _ _ (by have := heap_lt HD4.out; omega), grown_set HG6.out (a := ⟨w4.heap.size, 0, none⟩) HG4.out.size _⟩
    case rest =>
      obtain ⟨he7, ha7, hb7, hd7, hg7⟩ := hcut
      have HA7 := Lib.hid ha7
      have HB7 := Lib.hid hb7
      have HD7 := Lib.hid hd7
      have HG7 := Lib.hid hg7
      obtain ⟨S1, hS1⟩ : ∃ x, (if B then q else 0) = x := ⟨_, rfl⟩
      rw [hS1] at he7
      have HE7 := Lib.hid he7
      have HS1 := Lib.hid hS1
      clear he7 ha7 hb7 hd7 hg7 hS1
      obtain ⟨V, hV⟩ : ∃ V, dynB S1 0 = V := ⟨_, rfl⟩
      have HW := Lib.hid hV
      clear hV
      have x0 := HE7.out.c0
      have x1 := HE7.out.c1
      go_wp2_with fail
      refine (dyn_is HW.out wc).mono ?_
      rintro e w8 ⟨rfl, hg8⟩
      have HA8 := Lib.hid (HA7.out.kept hg8)
      have HB8 := Lib.hid (HB7.out.kept hg8)
      have HD8 := Lib.hid (HD7.out.kept hg8)
      have HE8 := Lib.hid (HE7.out.kept hg8)
      have HG8 := Lib.hid (HG7.out.trans hg8)
      clear hg8 x0 x1 HA7 HB7 HD7 HE7 HG7
      go_upto_if 52 with (fail)
      go_cut [] from 38 (fun wc => DBlk w4.heap.size (if V then S1 else 0) 0 wc ∧ HBlk w.heap.size a wc ∧ HBlk (w.heap.size + 1) b wc ∧ DBlk (w.heap.size + 1 + 1) 0 0 wc ∧ Gr w wc)
      case first =>
        cases V
        · have z0 := HE8.out.c0
          have g0 := HE8.out.fz 0
          go_wp2_with fail
          go_meet
          exact ⟨HE8.out.set0 _, HA8.out.other _ _ (by have := heap_lt HA4.out; omega), HB8.out.other _ _ (by have := heap_lt HB4.out; omega), HD8.out.other _ _ (by have := heap_lt HD4.out; omega), grown_set HG8.out (a := ⟨w4.heap.size, 0, none⟩) HG4.out.size _⟩
        · go_wp2_with fail
          go_meet
          exact ⟨HE8.out, HA8.out, HB8.out, HD8.out, HG8.out⟩
      case rest =>
        obtain ⟨he9, ha9, hb9, hd9, hg9⟩ := hcut
        have HA9 := Lib.hid ha9
        have HB9 := Lib.hid hb9
        have HD9 := Lib.hid hd9
        have HG9 := Lib.hid hg9
        obtain ⟨S2, hS2⟩ : ∃ x, (if V then S1 else 0) = x := ⟨_, rfl⟩
        rw [hS2] at he9
        have HE9 := Lib.hid he9
        have HS2 := Lib.hid (show S2 = learnS a b by
          unfold learnS stpH strS
          rw [HL.out, if_pos rfl, HN1.out, HN2.out, HST.out, HTM.out, HQ.out, ← hS2, ← HW.out, ← HS1.out, ← HBB.out]
          exact learn_stride st q tm)
        clear he9 ha9 hb9 hd9 hg9 hS2
        obtain ⟨Lw, hLw⟩ : ∃ t, lowS 16 (a.id + st) = t := ⟨_, rfl⟩
        have HLW := Lib.hid hLw
        obtain ⟨v1, v2, _, _⟩ := valid_rng HV1.out
        obtain ⟨F, hF⟩ : ∃ t, (b.id == Lw) = t := ⟨_, rfl⟩
        have HF := Lib.hid hF
        have HFF := Lib.hid (show (if F then (1 : Int) else 0) = learnF a b by
          unfold learnF stpH
          rw [HL.out, HN1.out, HN2.out, HST.out, HLW.out, HF.out, Bool.true_and])
        clear hLw hF
        have x2 : ∀ u, Gr wc u → u.cell? ⟨w.heap.size, 2, none⟩ = some (.int .i64 a.id) := fun u hu => (HA9.out.kept hu).at 2 rfl
        have y2 : ∀ u, Gr wc u → u.cell? ⟨w.heap.size + 1, 2, none⟩ = some (.int .i64 b.id) := fun u hu => (HB9.out.kept hu).at 2 rfl
        have hFF := HF.out
        go_wp2_with fail
        refine Sched.wp_region_sched 7 [] [] (by kernel_rfl) (by kernel_rfl) ?_
        simp only [List.take_succ_cons, List.take_zero, List.drop_succ_cons, List.drop_zero]
        repeat (first | ((with_reducible refine Sched.walk1_no ?_ ?_ (fun K hK => ?_)); (focus rfl); (focus rfl); simp only [Act.put, List.setIfInBounds_toArray, List.set_cons_zero, List.set_cons_succ]; refine hK _ ?_; clear hK K) | ((with_reducible refine Sched.walk1_gr ?_ ?_ ?_ (fun K hK => ?_)); (focus rfl); (focus rfl); (focus rfl); apply Exists.intro; refine ⟨fun w1 hw1 => ?_, ?_⟩; (focus (go_simp; (try go_ints); (try (simp only [IntWalk.iteOmega]; go_simp)); first | done | (go_at_call 55; (with_reducible exact gr_same (low_is rfl HLW.out _))) | (with_reducible rfl) | (with_reducible exact ⟨rfl, rfl⟩))); simp only [Act.put, List.setIfInBounds_toArray, List.set_cons_zero, List.set_cons_succ]; refine hK _ ?_; clear hK K) | ((with_reducible refine Sched.walk1_pure ?_ ?_ ?_ (fun K hK => ?_)); (focus rfl); (focus rfl); (focus rfl); apply Exists.intro; refine ⟨fun w1 => ?_, ?_⟩; (focus (go_simp; (try go_ints); (try (simp only [IntWalk.iteOmega]; go_simp)); first | done | (with_reducible rfl) | (with_reducible exact ⟨rfl, rfl⟩))); simp only [Act.put, List.setIfInBounds_toArray, List.set_cons_zero, List.set_cons_succ]; refine hK _ ?_; clear hK K) | (refine Sched.walk1_box rfl rfl ?_; apply Exists.intro; refine ⟨fun w1 hw1 => ?_, ?_⟩; (focus (go_simp; exact ⟨Gr.alloc _ _, rfl, by simp, heap_alloc_new _ _⟩))))
        (with_reducible refine Sched.walk1_nil ?_)
        intro wq hwq
        have HA10 := Lib.hid (HA9.out.kept hwq)
        have HB10 := Lib.hid (HB9.out.kept hwq)
        have HD10 := Lib.hid (HD9.out.kept hwq)
        have HE10 := Lib.hid (HE9.out.kept hwq)
        have HG10 := Lib.hid (HG9.out.trans hwq)
        clear hwq x2 y2
        dsimp only [Sched.EndN, List.nil_append, List.cons_append, Act.put]
        (try simp only [List.setIfInBounds_toArray, List.set_cons_zero, List.set_cons_succ])
        repeat (first | (refine Sched.walk2_no rfl (fun K hK => ?_); simp only [Act.put, List.setIfInBounds_toArray, List.set_cons_zero, List.set_cons_succ]; refine hK _ ?_; clear hK K) | (refine Sched.walk2_go rfl (fun K hK => ?_); go_simp; (try go_ints); (try (simp only [IntWalk.iteOmega]; go_simp)); first | (refine hK _ _ ?_; clear hK K) | fail))
        refine Sched.walk2_nil ?_
        clear hFF
        have HRES := Lib.hid (show Ending.returned (DVal S2 (if F then 1 else 0)) = .returned (DVal (learnS a b) (learnF a b)) by rw [HS2.out, HFF.out])
        have z0 := HD10.out.c0
        have z1 := HD10.out.c1
        have g0 := HD10.out.fz 0
        have g1 := HD10.out.fz 1
        have e0 := HE10.out.c0
        have e1 := HE10.out.c1
        have f1 := HE10.out.fz 1
        have hne := heap_lt HD4.out
        cases F
        · have HGE := Lib.hid (grown_set (grown_set HG10.out (a := ⟨w.heap.size + 1 + 1, 0, none⟩) (show w.heap.size ≤ w.heap.size + 1 + 1 by omega) (.int .i64 S2)) (a := ⟨w.heap.size + 1 + 1, 1, none⟩) (show w.heap.size ≤ w.heap.size + 1 + 1 by omega) (.int .i64 0))
          have HBE := Lib.hid ((HD10.out.set0 S2).set1 0)
          go_wp2_with fail
          have hbe := HBE.out
          unfold DBlk at hbe
          exact bodyPost_ret (v := DVal S2 0) (results_cell_row Try.results33 _ _ (w.heap.size + 1 + 1) _ _ _ _ rfl hbe Try.underlying33 rfl (by kernel_rfl)) rfl ⟨HRES.out, HGE.out⟩
        · have HGE := Lib.hid (grown_set (grown_set (grown_set HG10.out (a := ⟨w4.heap.size, 1, none⟩) HG4.out.size (.int .i64 1)) (a := ⟨w.heap.size + 1 + 1, 0, none⟩) (show w.heap.size ≤ w.heap.size + 1 + 1 by omega) (.int .i64 S2)) (a := ⟨w.heap.size + 1 + 1, 1, none⟩) (show w.heap.size ≤ w.heap.size + 1 + 1 by omega) (.int .i64 1))
          have HBE := Lib.hid (((HD10.out.other (p := w4.heap.size) 1 (.int .i64 1) (by omega)).set0 S2).set1 1)
          go_wp2_with fail
          have hbe := HBE.out
          unfold DBlk at hbe
          exact bodyPost_ret (v := DVal S2 1) (results_cell_row Try.results33 _ _ (w.heap.size + 1 + 1) _ _ _ _ rfl hbe Try.underlying33 rfl (by kernel_rfl)) rfl ⟨HRES.out, HGE.out⟩
end Go.Proofs.Ytmojlengjoicoaa
