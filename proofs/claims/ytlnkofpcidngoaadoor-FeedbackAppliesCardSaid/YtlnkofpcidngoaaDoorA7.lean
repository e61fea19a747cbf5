/- Several texts in one. -/
import Derived.Test.YtlnkofpcidngoaaDoorA0
import Derived.Test.YtlnkofpcidngoaaDoorA6
import Derived.Test.YtlnkofpcidngoaaDoorA1
import Derived.Test.YtlnkofpcidngoaaDoorA5
/- Layer 06 (flow): Learn of the program. -/
namespace Go.Proofs.YtlnkofpcidngoaaDoor
open Go.ChangeShapes Go.WideShapes Go.ChangeAt Go.RowKit
theorem wpList_load_w {P : Program} {ops : Array Oper} {rest : List Oper} {o : Oper} {a : Act} {w : World} {Q : Exit → Act → World → Prop} (hw : Region.wanted o (yielded ops a.tmps) = true) (ty : TypeId) (x : Operand) (ho : o.op = .load ty x)
  (g : Nat) (hx : a.eval x = .pointer (some ⟨g, 0, none⟩)) (t : TypeId) (cs : Array Value) (fr : Nat × Nat) (d : TypeDesc) (hg : w.heap[g]? = some (.cells cs t fr))
  (hu : P.underlying ty = some d) (hd : (match d with | .struct _ | .array _ _ => true | _ => false) = true) (hi : (P.info? ty).map (·.size) = some cs.size)
  (h : wpList P ops Q rest (a.put o.dst (.agg cs)) w) : wpList P ops Q (o :: rest) a w := by
 unfold wpList
 rw [if_pos hw]
 left
 exact wp_load_row ty x ho g hx t cs fr d hg hu hd hi h
def lrnB (a b : Hdr) : Bool := validH a && (validH b && (a.kind == 2 && sameB a b))
def strS (s t : Int) : Int := if s ≠ 0 ∧ t.tmod s = 0 ∧ 0 ≤ t.tdiv s ∧ t.tdiv s ≤ 65535 then t.tdiv s else 0
def stpH (a b : Hdr) : Int := signedS 16 (numH a) (numH b)
def learnS (a b : Hdr) : Int := if lrnB a b then strS (stpH a b) (signedS 32 a.time b.time) else 0
def learnF (a b : Hdr) : Int := if lrnB a b && (b.id == lowS 16 (a.id + stpH a b)) then 1 else 0
theorem same_is {a b : Hdr} {V : Bool} (hv : sameB a b = V) (w : World) : Calls Tryd.prog 71 #[HVal a, HVal b] w fun e w' => e = .returned (.bool V) ∧ Gr w w' := hv ▸ same_any a b w
def DBlk (g : Nat) (s f : Int) (w : World) : Prop := w.heap[g]? = some (.cells #[.int .i64 s, .int .i64 f] 43 (0, 0))
theorem DBlk.kept {g : Nat} {s f : Int} {w w' : World} (hb : DBlk g s f w) (hg : Gr w w') : DBlk g s f w' := by
 unfold DBlk; rw [hg.block _ (heap_lt hb) (by simp)]; exact hb
theorem DBlk.c0 {g : Nat} {s f : Int} {w : World} (hb : DBlk g s f w) : w.cell? ⟨g, 0, none⟩ = some (.int .i64 s) := by rw [cell_of_block hb]; rfl
theorem DBlk.c1 {g : Nat} {s f : Int} {w : World} (hb : DBlk g s f w) : w.cell? ⟨g, 1, none⟩ = some (.int .i64 f) := by rw [cell_of_block hb]; rfl
theorem DBlk.fz {g : Nat} {s f : Int} {w : World} (hb : DBlk g s f w) (i : Nat) : w.frozen? ⟨g, i, none⟩ = false := frozen_of_block hb i
theorem DBlk.set0 {g : Nat} {s f : Int} {w : World} (hb : DBlk g s f w) (u : Int) : DBlk g u f (w.setCell ⟨g, 0, none⟩ (.int .i64 u)) := by
 unfold DBlk; rw [heap_setCell_eq hb 0]; rfl
theorem DBlk.set1 {g : Nat} {s f : Int} {w : World} (hb : DBlk g s f w) (u : Int) : DBlk g s u (w.setCell ⟨g, 1, none⟩ (.int .i64 u)) := by
 unfold DBlk; rw [heap_setCell_eq hb 1]; rfl
theorem DBlk.other {g p : Nat} {s f : Int} {w : World} (hb : DBlk g s f w) (i : Nat) (v : Value) (hne : g ≠ p) : DBlk g s f (w.setCell ⟨p, i, none⟩ v) := by
 unfold DBlk; rw [heap_setCell_ne _ _ _ _ hne]; exact hb
theorem tdiv_rng {s t : Int} (h1 : -4294967296 ≤ t) (h2 : t ≤ 4294967296) : -4294967296 ≤ t.tdiv s ∧ t.tdiv s ≤ 4294967296 := by
 have h := Int.natAbs_tdiv t s
 have h3 : (t.tdiv s).natAbs ≤ t.natAbs := by rw [h]; exact Nat.div_le_self _ _
 omega
-- the end of a way that says: nothing learnt
end Go.Proofs.YtlnkofpcidngoaaDoor
/- Layer 06 (flow): Learn of the reference. -/
namespace Go.Proofs.YtlnkofpcidngoaaDoor
open Go.ChangeShapes Go.WideShapes Go.ChangeAt Go.RowKit
theorem rsame_is {a b : Hdr} {V : Bool} (hv : sameB a b = V) (w : World) : Calls Tryd.prog 50 #[HVal a, HVal b] w fun e w' => e = .returned (.bool V) ∧ Gr w w' := hv ▸ rsame_any a b w
theorem rlearn_stride (st q tm : Int) : (if (st != 0 && tm.tmod st == 0 && decide (0 ≤ q) && decide (q ≤ 65535)) = true then q else 0) = if st ≠ 0 ∧ tm.tmod st = 0 ∧ 0 ≤ q ∧ q ≤ 65535 then q else 0 := by
 by_cases h1 : st = 0
 ·simp [h1]
 ·by_cases h2 : tm.tmod st = 0
  ·by_cases h3 : 0 ≤ q <;> by_cases h4 : q ≤ 65535 <;> simp [h1, h2, h3, h4]
  ·simp [h1, h2]
-- the end of a way that says: nothing learnt
set_option maxRecDepth 100000 in
set_option maxHeartbeats 4000000 in
theorem rlearn_any (a b : Hdr) (w : World) : Calls Tryd.prog 38 #[HVal a, HVal b] w fun e w' => e = .returned (DVal (learnS a b) (learnF a b)) ∧ Gr w w' := by
 go_enter Tryd.func38, Tryd.ntmps38
 go_upto_region 1 with (fail)
 obtain ⟨w1, hw1⟩ : ∃ y, y = ((w.alloc (.cells (HCells a).toArray 49)).alloc (.cells (HCells b).toArray 49)).alloc (.cells #[.int .i64 0, .int .i64 0] 43) := ⟨_, rfl⟩
 obtain ⟨ha1, hb1, hd1⟩ : HBlk w.heap.size a w1 ∧ HBlk (w.heap.size + 1) b w1 ∧ DBlk (w.heap.size + 1 + 1) 0 0 w1 := by rw [hw1]; exact blocks3 _ _ _ _
 have hg1 : Gr w w1 := by rw [hw1]; exact (Gr.alloc _ _).trans ((Gr.alloc _ _).trans (Gr.alloc _ _))
 simp only [HCells] at hw1
 rw [← hw1]
 have HA1 := zqd ha1
 have HB1 := zqd hb1
 have HD1 := zqd hd1
 have HG1 := zqd hg1
 have ha1' := ha1
 unfold HBlk at ha1'
 have HA1' := zqd ha1'
 clear hw1 ha1 hb1 hd1 hg1 ha1'
 obtain ⟨V1, hV1⟩ : ∃ V, validH a = V := ⟨_, rfl⟩
 obtain ⟨V2, hV2⟩ : ∃ V, validH b = V := ⟨_, rfl⟩
 obtain ⟨V4, hV4⟩ : ∃ V, sameB a b = V := ⟨_, rfl⟩
 have HV1 := zqd hV1
 have HV2 := zqd hV2
 have HV4 := zqd hV4
 clear hV1 hV2 hV4
 go_wp2_with (refine wpList_load_w rfl 49 _ rfl w.heap.size rfl 49 _ _ _ HA1'.out Tryd.underlying49 rfl (by kernel_rfl) ?_)
 refine (rvalid_is HV1.out w1).mono ?_
 rintro e w2 ⟨rfl, hg2⟩
 have HA2 := zqd (HA1.out.kept hg2)
 have HB2 := zqd (HB1.out.kept hg2)
 have HD2 := zqd (HD1.out.kept hg2)
 have HG2 := zqd (HG1.out.trans hg2)
 have hb2' := HB2.out
 unfold HBlk at hb2'
 have HB2' := zqd hb2'
 clear hg2 hb2' HA1 HA1' HB1 HD1 HG1
 cases V1
 ·have hl : lrnB a b = false := by unfold lrnB; rw [HV1.out]; rfl
  have HRES := zqd (show Ending.returned (DVal 0 0) = .returned (DVal (learnS a b) (learnF a b)) by unfold learnS learnF; rw [hl]; rfl)
  clear hl
  have hd0 := (HD2.out)
  have HGE := zqd (grown_set (grown_set (HG2.out) (a := ⟨w.heap.size + 1 + 1, 0, none⟩) (show w.heap.size ≤ w.heap.size + 1 + 1 by omega) (.int .i64 0)) (a := ⟨w.heap.size + 1 + 1, 1, none⟩) (show w.heap.size ≤ w.heap.size + 1 + 1 by omega) (.int .i64 0))
  have HBE := zqd ((hd0.set0 0).set1 0)
  have z0 := hd0.c0
  have z1 := hd0.c1
  have g0 := hd0.fz 0
  have g1 := hd0.fz 1
  clear hd0
  go_wp2_with fail
  have hbe := HBE.out
  unfold DBlk at hbe
  exact bodyPost_ret (v := DVal 0 0) (results_cell_row Tryd.results38 _ _ (w.heap.size + 1 + 1) _ _ _ _ rfl hbe Tryd.underlying43 rfl (by kernel_rfl)) rfl ⟨HRES.out, HGE.out⟩
 go_wp2_with (refine wpList_load_w rfl 49 _ rfl (w.heap.size + 1) rfl 49 _ _ _ HB2'.out Tryd.underlying49 rfl (by kernel_rfl) ?_)
 refine (rvalid_is HV2.out w2).mono ?_
 rintro e w3 ⟨rfl, hg3⟩
 have HA3 := zqd (HA2.out.kept hg3)
 have HB3 := zqd (HB2.out.kept hg3)
 have HD3 := zqd (HD2.out.kept hg3)
 have HG3 := zqd (HG2.out.trans hg3)
 clear hg3 HA2 HB2' HB2 HD2 HG2
 cases V2
 ·have hl : lrnB a b = false := by unfold lrnB; rw [HV1.out, HV2.out]; rfl
  have HRES := zqd (show Ending.returned (DVal 0 0) = .returned (DVal (learnS a b) (learnF a b)) by unfold learnS learnF; rw [hl]; rfl)
  clear hl
  have hd0 := (HD3.out)
  have HGE := zqd (grown_set (grown_set (HG3.out) (a := ⟨w.heap.size + 1 + 1, 0, none⟩) (show w.heap.size ≤ w.heap.size + 1 + 1 by omega) (.int .i64 0)) (a := ⟨w.heap.size + 1 + 1, 1, none⟩) (show w.heap.size ≤ w.heap.size + 1 + 1 by omega) (.int .i64 0))
  have HBE := zqd ((hd0.set0 0).set1 0)
  have z0 := hd0.c0
  have z1 := hd0.c1
  have g0 := hd0.fz 0
  have g1 := hd0.fz 1
  clear hd0
  go_wp2_with fail
  have hbe := HBE.out
  unfold DBlk at hbe
  exact bodyPost_ret (v := DVal 0 0) (results_cell_row Tryd.results38 _ _ (w.heap.size + 1 + 1) _ _ _ _ rfl hbe Tryd.underlying43 rfl (by kernel_rfl)) rfl ⟨HRES.out, HGE.out⟩
 have k0 : w3.cell? ⟨w.heap.size, 0, none⟩ = some (.int .i64 a.kind) := HA3.out.at 0 rfl
 by_cases hk : a.kind = 2
 rotate_left
 ·have hl : lrnB a b = false := by unfold lrnB; rw [HV1.out, HV2.out, show (a.kind == 2) = false by simpa using hk]; rfl
  have HRES := zqd (show Ending.returned (DVal 0 0) = .returned (DVal (learnS a b) (learnF a b)) by unfold learnS learnF; rw [hl]; rfl)
  have hkb : (a.kind != 2) = true := by simpa using hk
  clear hl hk
  have hd0 := (HD3.out)
  have HGE := zqd (grown_set (grown_set (HG3.out) (a := ⟨w.heap.size + 1 + 1, 0, none⟩) (show w.heap.size ≤ w.heap.size + 1 + 1 by omega) (.int .i64 0)) (a := ⟨w.heap.size + 1 + 1, 1, none⟩) (show w.heap.size ≤ w.heap.size + 1 + 1 by omega) (.int .i64 0))
  have HBE := zqd ((hd0.set0 0).set1 0)
  have z0 := hd0.c0
  have z1 := hd0.c1
  have g0 := hd0.fz 0
  have g1 := hd0.fz 1
  clear hd0
  go_wp2_with fail
  have hbe := HBE.out
  unfold DBlk at hbe
  exact bodyPost_ret (v := DVal 0 0) (results_cell_row Tryd.results38 _ _ (w.heap.size + 1 + 1) _ _ _ _ rfl hbe Tryd.underlying43 rfl (by kernel_rfl)) rfl ⟨HRES.out, HGE.out⟩
 have hkb : (a.kind != 2) = false := by simpa using hk
 have HK := zqd hk
 clear hk
 have ha3' := HA3.out
 unfold HBlk at ha3'
 have HA3' := zqd ha3'
 have hb3' := HB3.out
 unfold HBlk at hb3'
 have HB3' := zqd hb3'
 clear ha3' hb3'
 go_wp2_with (first | (refine wpList_load_w rfl 49 _ rfl w.heap.size rfl 49 _ _ _ HA3'.out Tryd.underlying49 rfl (by kernel_rfl) ?_) | (refine wpList_load_w rfl 49 _ rfl (w.heap.size + 1) rfl 49 _ _ _ HB3'.out Tryd.underlying49 rfl (by kernel_rfl) ?_))
 refine (rsame_is HV4.out w3).mono ?_
 rintro e w4 ⟨rfl, hg4⟩
 have HA4 := zqd (HA3.out.kept hg4)
 have HB4 := zqd (HB3.out.kept hg4)
 have HD4 := zqd (HD3.out.kept hg4)
 have HG4 := zqd (HG3.out.trans hg4)
 clear hg4 HA3 HB3' HA3' HB3 HD3 HG3 k0
 cases V4
 ·have hl : lrnB a b = false := by unfold lrnB; rw [HV1.out, HV2.out, HV4.out, show (a.kind == 2) = true by simpa using HK.out]; rfl
  have HRES := zqd (show Ending.returned (DVal 0 0) = .returned (DVal (learnS a b) (learnF a b)) by unfold learnS learnF; rw [hl]; rfl)
  clear hl
  have hd0 := (HD4.out)
  have HGE := zqd (grown_set (grown_set (HG4.out) (a := ⟨w.heap.size + 1 + 1, 0, none⟩) (show w.heap.size ≤ w.heap.size + 1 + 1 by omega) (.int .i64 0)) (a := ⟨w.heap.size + 1 + 1, 1, none⟩) (show w.heap.size ≤ w.heap.size + 1 + 1 by omega) (.int .i64 0))
  have HBE := zqd ((hd0.set0 0).set1 0)
  have z0 := hd0.c0
  have z1 := hd0.c1
  have g0 := hd0.fz 0
  have g1 := hd0.fz 1
  clear hd0
  go_wp2_with fail
  have hbe := HBE.out
  unfold DBlk at hbe
  exact bodyPost_ret (v := DVal 0 0) (results_cell_row Tryd.results38 _ _ (w.heap.size + 1 + 1) _ _ _ _ rfl hbe Tryd.underlying43 rfl (by kernel_rfl)) rfl ⟨HRES.out, HGE.out⟩
 have HL := zqd (show lrnB a b = true by unfold lrnB; rw [HV1.out, HV2.out, HV4.out, show (a.kind == 2) = true by simpa using HK.out]; rfl)
 have HAK := zqd (fun u (hu : Gr w4 u) => HA4.out.kept hu)
 have HBK := zqd (fun u (hu : Gr w4 u) => HB4.out.kept hu)
 obtain ⟨N1, hN1⟩ : ∃ N, numH a = N := ⟨_, rfl⟩
 obtain ⟨N2, hN2⟩ : ∃ N, numH b = N := ⟨_, rfl⟩
 obtain ⟨st, hst⟩ : ∃ t, signedS 16 N1 N2 = t := ⟨_, rfl⟩
 obtain ⟨tm, htm⟩ : ∃ t, signedS 32 a.time b.time = t := ⟨_, rfl⟩
 have hr1 := signed_rng 16 N1 N2
 have hr2 := signed_rng 32 a.time b.time
 rw [hst] at hr1
 rw [htm] at hr2
 obtain ⟨s1, s2⟩ := hr1
 obtain ⟨t1, t2⟩ := hr2
 have HN1 := zqd hN1
 have HN2 := zqd hN2
 have HST := zqd hst
 have HTM := zqd htm
 clear hN1 hN2 hst htm
 go_wp2_with fail
 refine Sched.wp_region_sched 5 [] [] (by kernel_rfl) (by kernel_rfl) ?_
 simp only [List.take_succ_cons, List.take_zero, List.drop_succ_cons, List.drop_zero]
 refine Sched.walk1_gr rfl rfl rfl (fun K hK => ?_)
 refine ⟨HVal a, fun w1 hw1 => (HAK.out w1 hw1).load _ rfl rfl, ?_⟩
 simp only [Act.put, zqa, zqb, zqc]
 refine hK _ ?_
 clear hK K
 repeat (first | ((first | (refine Sched.walk1_no rfl rfl (fun K hK => ?_)) | (refine Sched.walk1_gr rfl rfl rfl (fun K hK => ?_); apply Exists.intro; refine ⟨fun w1 hw1 => ?_, ?_⟩; (focus (go_simp; (try go_ints); (try (simp only [IntWalk.iteOmega]; go_simp)); first | done | (go_at_call 15; (with_reducible exact rnum_is HN1.out _)) | (with_reducible rfl) | (with_reducible exact ⟨rfl, rfl⟩))))); simp only [Act.put, zqa, zqb, zqc]; refine hK _ ?_; clear hK K))
 refine Sched.walk1_gr rfl rfl rfl (fun K hK => ?_)
 refine ⟨HVal b, fun w1 hw1 => (HBK.out w1 hw1).load _ rfl rfl, ?_⟩
 simp only [Act.put, zqa, zqb, zqc]
 refine hK _ ?_
 clear hK K
 repeat (first | ((first | (refine Sched.walk1_no rfl rfl (fun K hK => ?_)) | (refine Sched.walk1_gr rfl rfl rfl (fun K hK => ?_); apply Exists.intro; refine ⟨fun w1 hw1 => ?_, ?_⟩; (focus (go_simp; (try go_ints); (try (simp only [IntWalk.iteOmega]; go_simp)); first | done | (first | (go_at_call 15; (with_reducible exact rnum_is HN2.out _)) | (go_at_call 36; (with_reducible exact gr_same (rsigned_is HST.out _)))) | (with_reducible rfl) | (with_reducible exact ⟨rfl, rfl⟩))))); simp only [Act.put, zqa, zqb, zqc]; refine hK _ ?_; clear hK K))
 refine Sched.walk1_nil ?_
 intro wq hwq
 have HA6 := zqd (HA4.out.kept hwq)
 have HB6 := zqd (HB4.out.kept hwq)
 have HD6 := zqd (HD4.out.kept hwq)
 have HG6 := zqd (HG4.out.trans hwq)
 clear hwq HAK HBK HA4 HB4 HD4 HG4
 dsimp only [Sched.EndN, List.nil_append, List.cons_append, Act.put]
 (try simp only [zqa, zqb, zqc])
 repeat (first | (refine Sched.walk2_no rfl (fun K hK => ?_); simp only [Act.put, zqa, zqb, zqc]; refine hK _ ?_; clear hK K) | (refine Sched.walk2_go rfl (fun K hK => ?_); go_simp; (try go_ints); (try (simp only [IntWalk.iteOmega]; go_simp)); (refine hK _ _ ?_; clear hK K)))
 refine Sched.walk2_nil ?_
 have k1 : wq.cell? ⟨w.heap.size, 13, none⟩ = some (.int .i64 a.time) := HA6.out.at 13 rfl
 have k2 : wq.cell? ⟨w.heap.size + 1, 13, none⟩ = some (.int .i64 b.time) := HB6.out.at 13 rfl
 go_upto_region 6 with (go_at_call 36; ((with_reducible refine (rsigned_is HTM.out _).mono ?_)); rintro e w' ⟨rfl, rfl⟩)
 clear k1 k2
 obtain ⟨w7, hw7⟩ : ∃ y, y = wq.alloc (.cells #[.int .i64 0, .int .i64 0] 43) := ⟨_, rfl⟩
 rw [← hw7]
 have hg7 : Gr wq w7 := by rw [hw7]; exact Gr.alloc _ _
 have HE7 := zqd (show DBlk wq.heap.size 0 0 w7 by rw [hw7]; exact heap_alloc_new _ _)
 have HA7 := zqd (HA6.out.kept hg7)
 have HB7 := zqd (HB6.out.kept hg7)
 have HD7 := zqd (HD6.out.kept hg7)
 have HG7 := zqd (HG6.out.trans hg7)
 clear hw7 hg7
 obtain ⟨wo, rfl⟩ : ∃ wo : World, wo = wq := ⟨_, rfl⟩
 obtain ⟨q, hq⟩ : ∃ q, tm.tdiv st = q := ⟨_, rfl⟩
 have hqr := tdiv_rng (s := st) t1 t2
 rw [hq] at hqr
 obtain ⟨q1, q2⟩ := hqr
 have HQ := zqd hq
 clear hq
 obtain ⟨B, hB⟩ : ∃ x, (st != 0 && tm.tmod st == 0 && decide (0 ≤ q) && decide (q ≤ 65535)) = x := ⟨_, rfl⟩
 have HBB := zqd hB
 clear hB
 go_cut [57] from 38 (fun s wc => s = .bool B ∧ w7 = wc)
 case first =>
  by_cases h0 : st = 0
  ·have hb0 : (st != 0) = false := by simpa using h0
   have hE : B = false := by rw [← HBB.out, hb0]; rfl
   subst hE
   clear h0
   go_wp2_with fail
   go_meet
   exact ⟨rfl, rfl⟩
  ·have hb0 : (st != 0) = true := by simpa using h0
   cases hm : (tm.tmod st == 0)
   ·have hE : B = false := by rw [← HBB.out, hm, Bool.and_false]; rfl
    subst hE
    go_wp2_with fail
    go_meet
    exact ⟨rfl, rfl⟩
   ·have hq := HQ.out
    by_cases h3 : 0 ≤ q
    ·by_cases h4 : q ≤ 65535
     ·have hE : B = true := by rw [← HBB.out, hm, hb0, decide_eq_true h3, decide_eq_true h4]; rfl
      subst hE
      go_wp2_with fail
      go_meet
      exact ⟨rfl, rfl⟩
     ·have hE : B = false := by rw [← HBB.out, decide_eq_false h4, Bool.and_false]
      subst hE
      have h4' : 65535 < q := by omega
      go_wp2_with fail
      go_meet
      exact ⟨rfl, rfl⟩
    ·have hE : B = false := by rw [← HBB.out, decide_eq_false h3, Bool.and_false]; rfl
     subst hE
     have h3' : q < 0 := by omega
     go_wp2_with fail
     go_meet
     exact ⟨rfl, rfl⟩
 case rest =>
  obtain ⟨rfl, rfl⟩ := hcut
  go_upto_if 57 with (fail)
  go_cut [] from 38 (fun wc => DBlk wo.heap.size (if B then q else 0) 0 wc ∧ HBlk w.heap.size a wc ∧ HBlk (w.heap.size + 1) b wc ∧ DBlk (w.heap.size + 1 + 1) 0 0 wc ∧ Gr w wc)
  case first =>
   cases B
   ·go_wp2_with fail
    go_meet
    exact ⟨HE7.out, HA7.out, HB7.out, HD7.out, HG7.out⟩
   ·have hb1 : ¬ st = 0 := by
     have := HBB.out
     simp only [Bool.and_eq_true, bne_iff_ne] at this
     exact this.1.1.1
    have hq := HQ.out
    have z0 := HE7.out.c0
    have g0 := HE7.out.fz 0
    go_wp2_with fail
    go_meet
    exact ⟨HE7.out.set0 _, HA7.out.other _ _ (by have := heap_lt HA6.out; omega), HB7.out.other _ _ (by have := heap_lt HB6.out; omega), HD7.out.other _ _ (by have := heap_lt HD6.out; omega), grown_set HG7.out (a := ⟨wo.heap.size, 0, none⟩) HG6.out.size _⟩
  case rest =>
   obtain ⟨he9, ha9, hb9, hd9, hg9⟩ := hcut
   have HA9 := zqd ha9
   have HB9 := zqd hb9
   have HD9 := zqd hd9
   have HG9 := zqd hg9
   obtain ⟨S2, hS2⟩ : ∃ x, (if B then q else 0) = x := ⟨_, rfl⟩
   rw [hS2] at he9
   have HE9 := zqd he9
   have HS2 := zqd (show S2 = learnS a b by
    unfold learnS stpH strS
    rw [HL.out, if_pos rfl, HN1.out, HN2.out, HST.out, HTM.out, HQ.out, ← hS2, ← HBB.out]
    exact rlearn_stride st q tm)
   clear he9 ha9 hb9 hd9 hg9 hS2
   obtain ⟨Lw, hLw⟩ : ∃ t, lowS 16 (a.id + st) = t := ⟨_, rfl⟩
   have HLW := zqd hLw
   obtain ⟨v1, v2, _, _⟩ := valid_rng HV1.out
   obtain ⟨F, hF⟩ : ∃ t, (b.id == Lw) = t := ⟨_, rfl⟩
   have HF := zqd hF
   have HFF := zqd (show (if F then (1 : Int) else 0) = learnF a b by
    unfold learnF stpH
    rw [HL.out, HN1.out, HN2.out, HST.out, HLW.out, HF.out, Bool.true_and])
   clear hLw hF
   have x2 : ∀ u, Gr wc u → u.cell? ⟨w.heap.size, 2, none⟩ = some (.int .i64 a.id) := fun u hu => (HA9.out.kept hu).at 2 rfl
   have y2 : ∀ u, Gr wc u → u.cell? ⟨w.heap.size + 1, 2, none⟩ = some (.int .i64 b.id) := fun u hu => (HB9.out.kept hu).at 2 rfl
   have hFF := HF.out
   go_wp2_with fail
   refine Sched.wp_region_sched 7 [] [] (by kernel_rfl) (by kernel_rfl) ?_
   simp only [List.take_succ_cons, List.take_zero, List.drop_succ_cons, List.drop_zero]
   repeat (first | ((first | ((with_reducible refine Sched.walk1_no ?_ ?_ (fun K hK => ?_)); (focus rfl); (focus rfl)) | ((with_reducible refine Sched.walk1_gr ?_ ?_ ?_ (fun K hK => ?_)); (focus rfl); (focus rfl); (focus rfl); apply Exists.intro; refine ⟨fun w1 hw1 => ?_, ?_⟩; (focus (go_simp; (try go_ints); (try (simp only [IntWalk.iteOmega]; go_simp)); first | done | (go_at_call 43; (with_reducible exact gr_same (rlow_is rfl HLW.out _))) | (with_reducible rfl) | (with_reducible exact ⟨rfl, rfl⟩))))); simp only [Act.put, zqa, zqb, zqc]; refine hK _ ?_; clear hK K))
   (with_reducible refine Sched.walk1_nil ?_)
   intro wq hwq
   have HA10 := zqd (HA9.out.kept hwq)
   have HB10 := zqd (HB9.out.kept hwq)
   have HD10 := zqd (HD9.out.kept hwq)
   have HE10 := zqd (HE9.out.kept hwq)
   have HG10 := zqd (HG9.out.trans hwq)
   clear hwq x2 y2
   dsimp only [Sched.EndN, List.nil_append, List.cons_append, Act.put]
   (try simp only [zqa, zqb, zqc])
   repeat (first | (refine Sched.walk2_no rfl (fun K hK => ?_); simp only [Act.put, zqa, zqb, zqc]; refine hK _ ?_; clear hK K) | (refine Sched.walk2_go rfl (fun K hK => ?_); go_simp; (try go_ints); (try (simp only [IntWalk.iteOmega]; go_simp)); (refine hK _ _ ?_; clear hK K)))
   refine Sched.walk2_nil ?_
   clear hFF
   have HRES := zqd (show Ending.returned (DVal S2 (if F then 1 else 0)) = .returned (DVal (learnS a b) (learnF a b)) by rw [HS2.out, HFF.out])
   have z0 := HD10.out.c0
   have z1 := HD10.out.c1
   have g0 := HD10.out.fz 0
   have g1 := HD10.out.fz 1
   have e0 := HE10.out.c0
   have e1 := HE10.out.c1
   have f1 := HE10.out.fz 1
   have hne := heap_lt HD6.out
   cases F
   ·have HGE := zqd (grown_set (grown_set HG10.out (a := ⟨w.heap.size + 1 + 1, 0, none⟩) (show w.heap.size ≤ w.heap.size + 1 + 1 by omega) (.int .i64 S2)) (a := ⟨w.heap.size + 1 + 1, 1, none⟩) (show w.heap.size ≤ w.heap.size + 1 + 1 by omega) (.int .i64 0))
    have HBE := zqd ((HD10.out.set0 S2).set1 0)
    go_wp2_with fail
    have hbe := HBE.out
    unfold DBlk at hbe
    exact bodyPost_ret (v := DVal S2 0) (results_cell_row Tryd.results38 _ _ (w.heap.size + 1 + 1) _ _ _ _ rfl hbe Tryd.underlying43 rfl (by kernel_rfl)) rfl ⟨HRES.out, HGE.out⟩
   ·have HGE := zqd (grown_set (grown_set (grown_set HG10.out (a := ⟨wo.heap.size, 1, none⟩) HG6.out.size (.int .i64 1)) (a := ⟨w.heap.size + 1 + 1, 0, none⟩) (show w.heap.size ≤ w.heap.size + 1 + 1 by omega) (.int .i64 S2)) (a := ⟨w.heap.size + 1 + 1, 1, none⟩) (show w.heap.size ≤ w.heap.size + 1 + 1 by omega) (.int .i64 1))
    have HBE := zqd (((HD10.out.other (p := wo.heap.size) 1 (.int .i64 1) (by omega)).set0 S2).set1 1)
    go_wp2_with fail
    have hbe := HBE.out
    unfold DBlk at hbe
    exact bodyPost_ret (v := DVal S2 1) (results_cell_row Tryd.results38 _ _ (w.heap.size + 1 + 1) _ _ _ _ rfl hbe Tryd.underlying43 rfl (by kernel_rfl)) rfl ⟨HRES.out, HGE.out⟩
end Go.Proofs.YtlnkofpcidngoaaDoor
/- Layer 9 (compressor): contexts in memory; when they are valid (plain). -/
namespace Go.Proofs.YtlnkofpcidngoaaDoor
open Go.ChangeShapes Go.WideShapes Go.ChangeAt Go.RowKit
structure Snd where
 act : Bool
 full : Int
 refr : Int
 ser : Int
 since : Int
 long : Int
 str : Int
 fol : Int
 a : Option Addr
 n : Nat
 c : Nat
 refs : List Hdr
abbrev SCells (s : Snd) : List Value := [.bool s.act, .int .i64 s.full, .int .i64 s.refr, .int .i64 s.ser, .int .i64 s.since, .int .i64 s.long, .int .i64 s.str, .int .i64 s.fol, .slice s.a s.n s.c]
abbrev SVal (s : Snd) : Value := .agg #[.bool s.act, .int .i64 s.full, .int .i64 s.refr, .int .i64 s.ser, .int .i64 s.since, .int .i64 s.long, .int .i64 s.str, .int .i64 s.fol, .slice s.a s.n s.c]
abbrev CVal (mode width : Int) (a : Option Addr) (n c : Nat) : Value := .agg #[.int .i64 mode, .int .i64 width, .slice a n c]
theorem hcells_len (h : Hdr) : (HCells h).length = 15 := rfl
theorem scells_len (s : Snd) : (SCells s).length = 9 := rfl
theorem scells_one (s : Snd) : (SCells s).all (·.oneCell') = true := rfl
def RdH (w : World) (a : Option Addr) (n c : Nat) (hs : List Hdr) : Prop := hs.length = n ∧ n ≤ c ∧ c ≤ maxLen ∧ (a = none → n = 0 ∧ c = 0) ∧ Seg w a (hs.flatMap HCells) ∧ ∀ h ∈ hs, HOk h
def RdC (w : World) (a : Option Addr) (n c : Nat) (L : List Snd) : Prop := L.length = n ∧ n ≤ c ∧ c ≤ maxLen ∧ (a = none → n = 0 ∧ c = 0) ∧ Seg w a (L.flatMap SCells) ∧ ∀ s ∈ L, RdH w s.a s.n s.c s.refs
theorem RdH.kept {w w' : World} {a : Option Addr} {n c : Nat} {hs : List Hdr} (h : RdH w a n c hs) (hg : Gr w w') : RdH w' a n c hs :=
 ⟨h.1, h.2.1, h.2.2.1, h.2.2.2.1, seg_kept h.2.2.2.2.1 hg, h.2.2.2.2.2⟩
theorem RdC.kept {w w' : World} {a : Option Addr} {n c : Nat} {L : List Snd} (h : RdC w a n c L) (hg : Gr w w') : RdC w' a n c L :=
 ⟨h.1, h.2.1, h.2.2.1, h.2.2.2.1, seg_kept h.2.2.2.2.1 hg, fun s hs => (h.2.2.2.2.2 s hs).kept hg⟩
theorem RdH.row {w : World} {a : Option Addr} {n c : Nat} {hs : List Hdr} (h : RdH w a n c hs) (hn : 0 < n) : ∃ b off, a = some ⟨b, off, none⟩ ∧ b < w.heap.size ∧ ∀ i x, hs[i]? = some x → w.rangeAt b (off + i * 15) (HCells x) :=
 seg_row hcells_len (by omega) h.2.2.2.2.1 (by rw [h.1]; exact hn)
theorem RdC.row {w : World} {a : Option Addr} {n c : Nat} {L : List Snd} (h : RdC w a n c L) (hn : 0 < n) : ∃ b off, a = some ⟨b, off, none⟩ ∧ b < w.heap.size ∧ ∀ i x, L[i]? = some x → w.rangeAt b (off + i * 9) (SCells x) :=
 seg_row scells_len (by omega) h.2.2.2.2.1 (by rw [h.1]; exact hn)
theorem RdH.get {w : World} {a : Option Addr} {n c : Nat} {hs : List Hdr} (h : RdH w a n c hs) {i : Nat} (hi : i < n) : ∃ x, hs[i]? = some x ∧ HOk x := by
 have hl : i < hs.length := by rw [h.1]; exact hi
 exact ⟨hs[i], List.getElem?_eq_getElem hl, h.2.2.2.2.2 _ (List.getElem_mem hl)⟩
theorem RdC.get {w : World} {a : Option Addr} {n c : Nat} {L : List Snd} (h : RdC w a n c L) {i : Nat} (hi : i < n) : ∃ s, L[i]? = some s ∧ RdH w s.a s.n s.c s.refs := by
 have hl : i < L.length := by rw [h.1]; exact hi
 exact ⟨L[i], List.getElem?_eq_getElem hl, h.2.2.2.2.2 _ (List.getElem_mem hl)⟩
theorem RdH.take {w : World} {a : Option Addr} {n c : Nat} {hs : List Hdr} (h : RdH w a n c hs) (m : Nat) (hm : m ≤ n) : RdH w a m c (hs.take m) := by
 obtain ⟨h1, h2, h3, h4, h5, h6⟩ := h
 exact ⟨by simp; omega, by omega, h3, fun e => by have := h4 e; omega, seg_take hcells_len h5 m (by omega), fun x hx => h6 x (List.mem_of_mem_take hx)⟩
theorem RdC.take {w : World} {a : Option Addr} {n c : Nat} {L : List Snd} (h : RdC w a n c L) (m : Nat) (hm : m ≤ n) : RdC w a m c (L.take m) := by
 obtain ⟨h1, h2, h3, h4, h5, h6⟩ := h
 exact ⟨by simp; omega, by omega, h3, fun e => by have := h4 e; omega, seg_take scells_len h5 m (by omega), fun x hx => h6 x (List.mem_of_mem_take hx)⟩
theorem RdH.drop {w : World} {b off : Nat} {n c : Nat} {hs : List Hdr} (h : RdH w (some ⟨b, off, none⟩) n c hs) (m : Nat) (hm : m ≤ n) : RdH w (some ⟨b, off + m * 15, none⟩) (n - m) (c - m) (hs.drop m) := by
 obtain ⟨h1, h2, h3, h4, h5, h6⟩ := h
 exact ⟨by simp; omega, by omega, by omega, (fun e => by cases e), seg_drop hcells_len h5 m (by omega), fun x hx => h6 x (List.mem_of_mem_drop hx)⟩
/-! ### plain -/
def headS (s : Snd) : Hdr := s.refs.headD zeroH
def emptyB (s : Snd) : Bool := decide (s.full = 0) && (decide (s.refr = 0) && (decide (s.ser = 0) && (decide (s.since = 0) && (decide (s.long = 0) && ((decide (s.str = 0) && decide (s.fol = 0)) && decide (s.refs.length = 0))))))
def most (mode width : Int) : Int := if mode = 3 then 32 else width
def rngB (mode width : Int) (s : Snd) : Bool :=
 decide (1 ≤ s.refs.length) && (decide ((s.refs.length : Int) ≤ most mode width) && (inB s.ser s.refs.length && (inB s.full width && (inB s.refr width && !(decide (0 < s.full) && decide (0 < s.refr))))))
def plainB (s : Snd) : Bool := decide ((headS s).kind = 2) || (decide (s.str = 0) && decide (s.fol = 0))
def okRef (s : Snd) (h : Hdr) : Bool := validH h && sameB h (headS s)
def actB (mode width : Int) (s : Snd) : Bool := rngB mode width s && (inB s.since 32 && (inB s.long 3 && (dynB s.str s.fol && (plainB s && s.refs.all (okRef s)))))
def ctxB (mode width : Int) (s : Snd) : Bool := if s.act then actB mode width s else emptyB s
def likeB (s t : Snd) : Bool := s.act && (t.act && sameB (headS s) (headS t))
def shapedB (mode width : Int) : Bool := decide (1 ≤ mode) && (decide (mode ≤ 3) && (decide (1 ≤ width) && decide (width ≤ 8)))
def okAt (mode width : Int) (L : List Snd) (i : Nat) : Bool := match L[i]? with | some s => ctxB mode width s && !((L.take i).any (likeB s)) | none => true
def validC (mode width : Int) (L : List Snd) : Bool := shapedB mode width && (decide (L.length = 16) && (List.range L.length).all (okAt mode width L))
end Go.Proofs.YtlnkofpcidngoaaDoor
