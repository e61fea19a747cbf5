/- Layer 9 (compressor), the reference: possible. -/
import Derived.Test.YtlnkofpcidngoaaDoorA0
import Derived.Test.YtlnkofpcidngoaaDoorA30
import Derived.Test.YtlnkofpcidngoaaDoorA8
import Derived.Test.YtlnkofpcidngoaaDoorA20
import Derived.Test.YtlnkofpcidngoaaDoorA22
namespace Go.Proofs.YtlnkofpcidngoaaDoor
open Go.ChangeShapes Go.WideShapes Go.ChangeAt Go.RowKit
theorem run_neqH (x y : Hdr) (w : World) : (binOp .neq 49 (HVal x) (HVal y)).run Tryd.prog w = .ok (.bool (!eqH x y)) w := by
 go_simp
 unfold eqH
 by_cases h_kind : x.kind = y.kind
 rotate_left
 ·rw [if_neg h_kind, decide_eq_false h_kind]; rfl
 rw [if_pos h_kind, decide_eq_true h_kind, Bool.true_and]
 by_cases h_tos : x.tos = y.tos
 rotate_left
 ·rw [if_neg h_tos, decide_eq_false h_tos]; rfl
 rw [if_pos h_tos, decide_eq_true h_tos, Bool.true_and]
 by_cases h_id : x.id = y.id
 rotate_left
 ·rw [if_neg h_id, decide_eq_false h_id]; rfl
 rw [if_pos h_id, decide_eq_true h_id, Bool.true_and]
 by_cases h_fixed : x.fixed = y.fixed
 rotate_left
 ·rw [if_neg h_fixed, decide_eq_false h_fixed]; rfl
 rw [if_pos h_fixed, decide_eq_true h_fixed, Bool.true_and]
 by_cases h_ttl : x.ttl = y.ttl
 rotate_left
 ·rw [if_neg h_ttl, decide_eq_false h_ttl]; rfl
 rw [if_pos h_ttl, decide_eq_true h_ttl, Bool.true_and]
 by_cases h_frm : x.frm = y.frm
 rotate_left
 ·rw [if_neg h_frm, decide_eq_false h_frm]; rfl
 rw [if_pos h_frm, decide_eq_true h_frm, Bool.true_and]
 by_cases h_to : x.to = y.to
 rotate_left
 ·rw [if_neg h_to, decide_eq_false h_to]; rfl
 rw [if_pos h_to, decide_eq_true h_to, Bool.true_and]
 by_cases h_fport : x.fport = y.fport
 rotate_left
 ·rw [if_neg h_fport, decide_eq_false h_fport]; rfl
 rw [if_pos h_fport, decide_eq_true h_fport, Bool.true_and]
 by_cases h_tport : x.tport = y.tport
 rotate_left
 ·rw [if_neg h_tport, decide_eq_false h_tport]; rfl
 rw [if_pos h_tport, decide_eq_true h_tport, Bool.true_and]
 by_cases h_check : x.check = y.check
 rotate_left
 ·rw [if_neg h_check, decide_eq_false h_check]; rfl
 rw [if_pos h_check, decide_eq_true h_check, Bool.true_and]
 by_cases h_marker : x.marker = y.marker
 rotate_left
 ·rw [if_neg h_marker, decide_eq_false h_marker]; rfl
 rw [if_pos h_marker, decide_eq_true h_marker, Bool.true_and]
 by_cases h_type : x.type = y.type
 rotate_left
 ·rw [if_neg h_type, decide_eq_false h_type]; rfl
 rw [if_pos h_type, decide_eq_true h_type, Bool.true_and]
 by_cases h_seq : x.seq = y.seq
 rotate_left
 ·rw [if_neg h_seq, decide_eq_false h_seq]; rfl
 rw [if_pos h_seq, decide_eq_true h_seq, Bool.true_and]
 by_cases h_time : x.time = y.time
 rotate_left
 ·rw [if_neg h_time, decide_eq_false h_time]; rfl
 rw [if_pos h_time, decide_eq_true h_time, Bool.true_and]
 by_cases h_source : x.source = y.source
 ·simp [h_source]
 ·simp [h_source]
theorem hok_time {h : Hdr} (ho : HOk h) : i64 h.time := by unfold HOk at ho; exact ho.2.2.2.2.2.2.2.2.2.2.2.2.2.1
def PosPost (w : World) (e : Ending) (w' : World) : Prop := ∃ b, e = .returned (.bool b) ∧ Gr w w'
set_option maxRecDepth 100000 in
set_option maxHeartbeats 4000000 in
theorem possible_1 (s : Snd) (h : Hdr) (w : World) (hr : RdH w s.a s.n s.c s.refs) (hn : s.n ≤ 1000) : Calls Tryd.prog 40 #[SVal s, HVal h, .int .i64 1] w (PosPost w) := by
 have HR := zqd hr
 obtain ⟨K, hK⟩ : ∃ K, (h.kind == 2) = K := ⟨_, rfl⟩
 clear hr
 go_enter Tryd.func40, Tryd.ntmps40
 go_upto_region 1 with (fail)
 obtain ⟨w1, hw1⟩ : ∃ y, y = (w.alloc (.cells (SCells s).toArray 46)).alloc (.cells (HCells h).toArray 49) := ⟨_, rfl⟩
 have hb1 : CBlk w.heap.size 46 (SCells s) w1 := by rw [hw1]; exact (CBlk.new _ _ _).kept (Gr.alloc _ _)
 have hh1 : CBlk (w.heap.size + 1) 49 (HCells h) w1 := by rw [hw1]; exact heap_two _ _ _
 have hg1 : Gr w w1 := by rw [hw1]; exact (Gr.alloc _ _).trans (Gr.alloc _ _)
 simp only [SCells, HCells] at hw1
 first | rw [← hw1] | (go_show; fail)
 have HB1 := zqd hb1
 have HH1 := zqd hh1
 have HG1 := zqd hg1
 have k0 : w1.cell? ⟨w.heap.size + 1, 0, none⟩ = some (.int .i64 h.kind) := hh1.at 0 rfl
 clear hw1 hb1 hh1 hg1
 go_wp2_with (first | (refine cblk_load rfl 46 _ rfl w.heap.size rfl HB1.out Tryd.underlying46 rfl (by kernel_rfl) ?_) | (refine cblk_load rfl 49 _ rfl (w.heap.size + 1) rfl HH1.out Tryd.underlying49 rfl (by kernel_rfl) ?_))
 refine (rfits9_any s h _ w1 (HR.out.kept HG1.out) hn).mono ?_
 rintro e w2 ⟨b, rfl, hg2⟩
 have HBW := zqd (HB1.out.kept hg2)
 have HHW := zqd (HH1.out.kept hg2)
 have HGW := zqd (HG1.out.trans hg2)
 clear hg2
 cases b
 ·go_wp2_with fail
  go_ret
  exact ⟨_, rfl, HGW.out⟩
 ·go_upto_region 9 with (fail)
  go_wp2_with fail
  go_loopw [9, 10] (fun v i wr => NumsRel (w2).heap.size s.n v i w2 wr) (fun _ i _ => s.n - (intOf i).toNat)
  case atStart => exact ⟨0, none, 0, [], by omega, rfl, rfl, OwnI.nil _ _ _ _, Gr.refl _⟩
  case round =>
   obtain ⟨j, a, c, xs, hj, rfl, rfl, ho, hg⟩ := hrel
   have HO := zqd ho
   have HG := zqd hg
   have x8 := (HBW.out.kept hg).at 8 rfl
   clear ho hg
   by_cases hlt : j < s.n
   ·obtain ⟨f, hf, hfo⟩ := (HR.out.kept (HGW.out.trans HG.out)).get hlt
    obtain ⟨b, off, ea, -, hrow⟩ := (HR.out.kept (HGW.out.trans HG.out)).row (by omega)
    have HRG := zqd (hrow j f hf)
    have HFO := zqd hfo
    have hcap := HR.out.2.1
    rw [ea] at x8
    clear hrow hf hfo ea
    have HZ := zqd (show CBlk wr.heap.size 49 (HCells zeroH) (wr.alloc (.cells #[.int .i64 0, .int .i64 0, .int .i64 0, .int .i64 0, .int .i64 0, .int .i64 0, .int .i64 0, .int .i64 0, .int .i64 0, .int .i64 0, .int .i64 0, .int .i64 0, .int .i64 0, .int .i64 0, .int .i64 0] 49)) from CBlk.new _ _ _)
    go_upto_region 14 with (first | (refine rng_load rfl 49 _ rfl b (off + j * 15) rfl (HCells f) HRG.out Tryd.underlying49 rfl (by kernel_rfl) ?_) | (refine cblk_store rfl 49 _ _ rfl wr.heap.size (HCells f) HZ.out rfl rfl rfl (by kernel_rfl) rfl ?_; intro w2 hb2 he2; have HF2 := zqd hb2; have HG2 := zqd (show Gr wr w2 by rw [← he2]; exact gr_setCells (Gr.alloc _ _) (Nat.le_refl _) _ _); clear hb2 he2))
    clear HZ HRG x8
    obtain ⟨g1, hg1⟩ : ∃ g, wr.heap.size = g := ⟨_, rfl⟩
    rw [hg1] at HF2
    rw [hg1]
    have HH2 := zqd (HHW.out.kept (HG.out.trans HG2.out))
    obtain ⟨C, hC⟩ : ∃ C, chH f h = C := ⟨_, rfl⟩
    have HC := zqd hC
    clear hC
    go_wp2_with (first | (refine cblk_load rfl 49 _ rfl g1 rfl HF2.out Tryd.underlying49 rfl (by kernel_rfl) ?_) | (refine cblk_load rfl 49 _ rfl (w.heap.size + 1) rfl HH2.out Tryd.underlying49 rfl (by kernel_rfl) ?_))
    refine (rchg_is HC.out w2).mono ?_
    rintro e w3 ⟨rfl, hg3⟩
    have HG3 := zqd (HG.out.trans (HG2.out.trans hg3))
    have HF3 := zqd (HF2.out.kept hg3)
    have HO3 := zqd (HO.out.stay (HG2.out.trans hg3))
    clear hg3 HF2 HG2 HH2
    by_cases hc0 : C = 0
    rotate_left
    ·have hcb : (C != 0) = true := by simpa using hc0
     clear hc0
     go_wp2_with fail
     go_ret
     exact ⟨_, rfl, HGW.out.trans HG3.out⟩
    have hcb : (C != 0) = false := by simpa using hc0
    clear hc0
    have y13 : w3.cell? ⟨g1, 13, none⟩ = some (.int .i64 f.time) := HF3.out.at 13 rfl
    obtain ⟨a4, c4, w4, hrun, ho4, hg4, hgb4⟩ := NumsRel.app HO3.out HG3.out HG3.out.size (Nat.le_refl _) f.time (hok_time HFO.out) (by omega)
    have HRUN := zqd hrun
    have HO4 := zqd ho4
    have HG4 := zqd hg4
    have HF4 := zqd (show CBlk g1 49 (HCells f) w4 from (HF3.out.kept (Gr.alloc _ _)).but hgb4 (fun e => by have := (HO.out.below _ e.symm).2; omega))
    clear hrun ho4 hg4 hgb4 HO3 HF3 HO
    go_upto_region 17 with (at_builtin; refine wpList_app rfl _ _ _ rfl rfl rfl HRUN.out ?_)
    clear HRUN hg1 HC HFO y13 hcb
    obtain ⟨N, hN⟩ : ∃ N, numH h = N := ⟨_, rfl⟩
    obtain ⟨P, hP⟩ : ∃ P, predH s.str s.fol f N = P := ⟨_, rfl⟩
    obtain ⟨Q, hQ⟩ : ∃ Q : Hdr, (⟨P.kind, P.tos, P.id, P.fixed, P.ttl, P.frm, P.to, P.fport, P.tport, h.check, P.marker, P.type, P.seq, P.time, P.source⟩ : Hdr) = Q := ⟨_, rfl⟩
    have HN := zqd hN
    have HP := zqd hP
    have HQ := zqd hQ
    clear hN hP hQ
    have HFK := zqd (fun u (hu : Gr w4 u) => show HBlk g1 f u from HF4.out.kept hu)
    have HHK := zqd (fun u (hu : Gr w4 u) => show HBlk (w.heap.size + 1) h u from HHW.out.kept (HG4.out.trans hu))
    have HDK := zqd (fun u (hu : Gr w4 u) => snd_dyn (HBW.out.kept (HG4.out.trans hu)))
    refine Sched.wp_region_sched 7 [] [6] (by kernel_rfl) (by kernel_rfl) ?_
    simp only [List.take_succ_cons, List.take_zero, List.drop_succ_cons, List.drop_zero]
    repeat (first | ((first | ((with_reducible refine Sched.walk1_no ?_ ?_ (fun K hK => ?_)); (focus rfl); (focus rfl)) | ((with_reducible refine Sched.walk1_gr ?_ ?_ ?_ (fun K hK => ?_)); (focus rfl); (focus rfl); (focus rfl); apply Exists.intro; refine ⟨fun w1 hw1 => ?_, ?_⟩; (focus (go_simp; (try go_ints); (try (simp only [IntWalk.iteOmega]; go_simp)); first | done | (with_reducible rfl) | (with_reducible exact ⟨rfl, rfl⟩))))); simp only [Act.put, zqa, zqb, zqc]; refine hK _ ?_; clear hK K) | (refine Sched.walk1_box rfl rfl ?_; apply Exists.intro; refine ⟨fun w1 hw1 => ?_, ?_⟩; (focus (go_simp; exact ⟨Gr.alloc _ _, rfl, by simp, heap_alloc_new _ _⟩))))
    refine Sched.walk1_gr rfl rfl rfl (fun K hK => ?_)
    refine ⟨DVal s.str s.fol, fun w1 hw1 => rng_gq (HDK.out w1 hw1) 43 _ rfl rfl (by first | exact Tryd.underlying49 | exact Tryd.underlying43 | exact Tryd.underlying46) rfl (by kernel_rfl), ?_⟩
    simp only [Act.put, zqa, zqb, zqc]
    refine hK _ ?_
    clear hK K
    refine Sched.walk1_gr rfl rfl rfl (fun K hK => ?_)
    refine ⟨HVal f, fun w1 hw1 => (HFK.out w1 hw1).load _ rfl rfl, ?_⟩
    simp only [Act.put, zqa, zqb, zqc]
    refine hK _ ?_
    clear hK K
    refine Sched.walk1_gr rfl rfl rfl (fun K hK => ?_)
    refine ⟨HVal h, fun w1 hw1 => (HHK.out w1 hw1).load _ rfl rfl, ?_⟩
    simp only [Act.put, zqa, zqb, zqc]
    refine hK _ ?_
    clear hK K
    repeat (first | ((first | ((with_reducible refine Sched.walk1_no ?_ ?_ (fun K hK => ?_)); (focus rfl); (focus rfl)) | ((with_reducible refine Sched.walk1_gr ?_ ?_ ?_ (fun K hK => ?_)); (focus rfl); (focus rfl); (focus rfl); apply Exists.intro; refine ⟨fun w1 hw1 => ?_, ?_⟩; (focus (go_simp; (try go_ints); (try (simp only [IntWalk.iteOmega]; go_simp)); first | done | (first | (go_at_call 15; (with_reducible exact rnum_is HN.out _)) | (go_at_call 62; (with_reducible exact rpredict_is HP.out _))) | (with_reducible rfl) | (with_reducible exact ⟨rfl, rfl⟩))))); simp only [Act.put, zqa, zqb, zqc]; refine hK _ ?_; clear hK K) | (refine Sched.walk1_box rfl rfl ?_; apply Exists.intro; refine ⟨fun w1 hw1 => ?_, ?_⟩; (focus (go_simp; exact ⟨Gr.alloc _ _, rfl, by simp, heap_alloc_new _ _⟩))))
    refine Sched.walk1_nil ?_
    intro wq hwq
    dsimp only [Sched.EndN, List.nil_append, List.cons_append, Act.put]
    rintro g5 hi1 v1 ⟨rfl, hlt1, hblk1⟩ hlo1 hle1 hhi1 -
    simp only [zqa, zqb, zqc]
    obtain ⟨w5, hw5⟩ : ∃ y, y = wq.setCells g5 0 (HCells P).toArray.toList := ⟨_, rfl⟩
    have hr5 : CBlk g5 49 (HCells P) w5 := by rw [hw5]; exact heap_setCells (HCells P) 0 wq _ hblk1
    have hg5 : Gr w4 w5 := by rw [hw5]; exact grown_setCells_new hwq hlo1 _ _
    have ht5 : wq.there g5 0 (HCells P).toArray.size := there_block hblk1 (by simp)
    refine Sched.walk2_go rfl (fun K hK => ?_)
    refine tq_store 49 _ _ rfl g5 0 (HCells P).toArray rfl rfl ht5 (by kernel_rfl) (hcells_one P) ?_
    rw [← hw5]
    simp only [Act.put]
    refine hK _ _ ?_
    clear hK K
    refine Sched.walk2_nil ?_
    have HP5 := zqd hr5
    have HQ5 := zqd hg5
    have HH5 := zqd (HHK.out w5 hg5)
    have hlo5 := hlo1
    clear hw5 hr5 hg5 ht5 hblk1 hwq hlt1 hle1 hhi1 hlo1 HFK HHK HDK HF4
    have p9 : w5.cell? ⟨w.heap.size + 1, 9, none⟩ = some (.int .i64 h.check) := HH5.out.at 9 rfl
    have r9 : w5.cell? ⟨g5, 9, none⟩ = some (.int .i64 P.check) := HP5.out.at 9 rfl
    have f9 := HP5.out.fz 9
    go_upto_region 19 with (fail)
    obtain ⟨w6, hw6⟩ : ∃ y, y = w5.setCell ⟨g5, 9, none⟩ (.int .i64 h.check) := ⟨_, rfl⟩
    rw [← hw6]
    have HQB := zqd (show CBlk g5 49 (HCells Q) w6 by rw [hw6]; exact HP5.out.set 9 _ (by rw [← HQ.out]; rfl))
    have HQ6 := zqd (show Gr w4 w6 by rw [hw6]; exact gr_setCell HQ5.out hlo5 _ _)
    have HH6 := zqd (HHW.out.kept (HG4.out.trans HQ6.out))
    clear hw6 p9 r9 f9 HP5 HQ5 HH5 HQ HP HN hlo5
    obtain ⟨Z, hZ⟩ : ∃ Z, (!eqH Q h) = Z := ⟨_, rfl⟩
    have heN : ∀ u, (binOp .neq 49 (.agg (HCells Q).toArray) (.agg (HCells h).toArray)).run Tryd.prog u = .ok (.bool Z) u := fun u => by
     have := run_neqH Q h u
     rw [hZ] at this
     exact this
    clear hZ
    have t1 : True := trivial
    have t2 : True := trivial
    cases Z
    ·go_upto_region 20 with (first | (clear t1; refine cblk_load rfl 49 _ rfl g5 rfl HQB.out Tryd.underlying49 rfl (by kernel_rfl) ?_) | (clear t2; refine cblk_load rfl 49 _ rfl (w.heap.size + 1) rfl HH6.out Tryd.underlying49 rfl (by kernel_rfl) ?_))
     go_wp2_with fail
     go_roundw
     case rel => exact ⟨j + 1, a4, c4, _, by omega, by go_num, rfl, HO4.out.stay HQ6.out, HG4.out.trans HQ6.out⟩
     case measure => (simp [intOf] <;> omega)
    ·go_upto_region 20 with (first | (clear t1; refine cblk_load rfl 49 _ rfl g5 rfl HQB.out Tryd.underlying49 rfl (by kernel_rfl) ?_) | (clear t2; refine cblk_load rfl 49 _ rfl (w.heap.size + 1) rfl HH6.out Tryd.underlying49 rfl (by kernel_rfl) ?_))
     go_wp2_with fail
     go_ret
     exact ⟨_, rfl, HGW.out.trans (HG4.out.trans HQ6.out)⟩
   ·obtain rfl : j = s.n := by omega
    go_wp2_with fail
    go_ret
    exact ⟨_, rfl, HGW.out.trans HG.out⟩
set_option maxRecDepth 100000 in
set_option maxHeartbeats 4000000 in
theorem possible_2 (s : Snd) (h : Hdr) (w : World) (hr : RdH w s.a s.n s.c s.refs) (hn : s.n ≤ 1000) : Calls Tryd.prog 40 #[SVal s, HVal h, .int .i64 2] w (PosPost w) := by
 have HR := zqd hr
 obtain ⟨K, hK⟩ : ∃ K, (h.kind == 2) = K := ⟨_, rfl⟩
 clear hr
 go_enter Tryd.func40, Tryd.ntmps40
 go_upto_region 1 with (fail)
 obtain ⟨w1, hw1⟩ : ∃ y, y = (w.alloc (.cells (SCells s).toArray 46)).alloc (.cells (HCells h).toArray 49) := ⟨_, rfl⟩
 have hb1 : CBlk w.heap.size 46 (SCells s) w1 := by rw [hw1]; exact (CBlk.new _ _ _).kept (Gr.alloc _ _)
 have hh1 : CBlk (w.heap.size + 1) 49 (HCells h) w1 := by rw [hw1]; exact heap_two _ _ _
 have hg1 : Gr w w1 := by rw [hw1]; exact (Gr.alloc _ _).trans (Gr.alloc _ _)
 simp only [SCells, HCells] at hw1
 first | rw [← hw1] | (go_show; fail)
 have HB1 := zqd hb1
 have HH1 := zqd hh1
 have HG1 := zqd hg1
 have k0 : w1.cell? ⟨w.heap.size + 1, 0, none⟩ = some (.int .i64 h.kind) := hh1.at 0 rfl
 clear hw1 hb1 hh1 hg1
 cases K
 ·go_wp2_with (first | (refine cblk_load rfl 46 _ rfl w.heap.size rfl HB1.out Tryd.underlying46 rfl (by kernel_rfl) ?_) | (refine cblk_load rfl 49 _ rfl (w.heap.size + 1) rfl HH1.out Tryd.underlying49 rfl (by kernel_rfl) ?_))
  refine (rfits9_any s h _ w1 (HR.out.kept HG1.out) hn).mono ?_
  rintro e w2 ⟨b, rfl, hg2⟩
  have HBW := zqd (HB1.out.kept hg2)
  have HHW := zqd (HH1.out.kept hg2)
  have HGW := zqd (HG1.out.trans hg2)
  clear hg2
  cases b
  ·go_wp2_with fail
   go_ret
   exact ⟨_, rfl, HGW.out⟩
  ·go_upto_region 9 with (fail)
   go_wp2_with fail
   go_loopw [9, 10] (fun v i wr => NumsRel (w2).heap.size s.n v i w2 wr) (fun _ i _ => s.n - (intOf i).toNat)
   case atStart => exact ⟨0, none, 0, [], by omega, rfl, rfl, OwnI.nil _ _ _ _, Gr.refl _⟩
   case round =>
    obtain ⟨j, a, c, xs, hj, rfl, rfl, ho, hg⟩ := hrel
    have HO := zqd ho
    have HG := zqd hg
    have x8 := (HBW.out.kept hg).at 8 rfl
    clear ho hg
    by_cases hlt : j < s.n
    ·obtain ⟨f, hf, hfo⟩ := (HR.out.kept (HGW.out.trans HG.out)).get hlt
     obtain ⟨b, off, ea, -, hrow⟩ := (HR.out.kept (HGW.out.trans HG.out)).row (by omega)
     have HRG := zqd (hrow j f hf)
     have HFO := zqd hfo
     have hcap := HR.out.2.1
     rw [ea] at x8
     clear hrow hf hfo ea
     have HZ := zqd (show CBlk wr.heap.size 49 (HCells zeroH) (wr.alloc (.cells #[.int .i64 0, .int .i64 0, .int .i64 0, .int .i64 0, .int .i64 0, .int .i64 0, .int .i64 0, .int .i64 0, .int .i64 0, .int .i64 0, .int .i64 0, .int .i64 0, .int .i64 0, .int .i64 0, .int .i64 0] 49)) from CBlk.new _ _ _)
     go_upto_region 14 with (first | (refine rng_load rfl 49 _ rfl b (off + j * 15) rfl (HCells f) HRG.out Tryd.underlying49 rfl (by kernel_rfl) ?_) | (refine cblk_store rfl 49 _ _ rfl wr.heap.size (HCells f) HZ.out rfl rfl rfl (by kernel_rfl) rfl ?_; intro w2 hb2 he2; have HF2 := zqd hb2; have HG2 := zqd (show Gr wr w2 by rw [← he2]; exact gr_setCells (Gr.alloc _ _) (Nat.le_refl _) _ _); clear hb2 he2))
     clear HZ HRG x8
     obtain ⟨g1, hg1⟩ : ∃ g, wr.heap.size = g := ⟨_, rfl⟩
     rw [hg1] at HF2
     rw [hg1]
     have HH2 := zqd (HHW.out.kept (HG.out.trans HG2.out))
     obtain ⟨C, hC⟩ : ∃ C, chH f h = C := ⟨_, rfl⟩
     have HC := zqd hC
     clear hC
     go_wp2_with (first | (refine cblk_load rfl 49 _ rfl g1 rfl HF2.out Tryd.underlying49 rfl (by kernel_rfl) ?_) | (refine cblk_load rfl 49 _ rfl (w.heap.size + 1) rfl HH2.out Tryd.underlying49 rfl (by kernel_rfl) ?_))
     refine (rchg_is HC.out w2).mono ?_
     rintro e w3 ⟨rfl, hg3⟩
     have HG3 := zqd (HG.out.trans (HG2.out.trans hg3))
     have HF3 := zqd (HF2.out.kept hg3)
     have HO3 := zqd (HO.out.stay (HG2.out.trans hg3))
     clear hg3 HF2 HG2 HH2
     by_cases hc0 : C = 0
     rotate_left
     ·have hcb : (C != 0) = true := by simpa using hc0
      clear hc0
      go_wp2_with fail
      go_ret
      exact ⟨_, rfl, HGW.out.trans HG3.out⟩
     have hcb : (C != 0) = false := by simpa using hc0
     clear hc0
     have y13 : w3.cell? ⟨g1, 13, none⟩ = some (.int .i64 f.time) := HF3.out.at 13 rfl
     obtain ⟨a4, c4, w4, hrun, ho4, hg4, hgb4⟩ := NumsRel.app HO3.out HG3.out HG3.out.size (Nat.le_refl _) f.time (hok_time HFO.out) (by omega)
     have HRUN := zqd hrun
     have HO4 := zqd ho4
     have HG4 := zqd hg4
     have HF4 := zqd (show CBlk g1 49 (HCells f) w4 from (HF3.out.kept (Gr.alloc _ _)).but hgb4 (fun e => by have := (HO.out.below _ e.symm).2; omega))
     clear hrun ho4 hg4 hgb4 HO3 HF3 HO
     go_upto_region 17 with (at_builtin; refine wpList_app rfl _ _ _ rfl rfl rfl HRUN.out ?_)
     clear HRUN hg1 HC HFO y13 hcb
     obtain ⟨N, hN⟩ : ∃ N, numH h = N := ⟨_, rfl⟩
     obtain ⟨P, hP⟩ : ∃ P, predH s.str s.fol f N = P := ⟨_, rfl⟩
     obtain ⟨Q, hQ⟩ : ∃ Q : Hdr, (⟨P.kind, P.tos, P.id, P.fixed, P.ttl, P.frm, P.to, P.fport, P.tport, h.check, P.marker, P.type, P.seq, P.time, P.source⟩ : Hdr) = Q := ⟨_, rfl⟩
     have HN := zqd hN
     have HP := zqd hP
     have HQ := zqd hQ
     clear hN hP hQ
     have HFK := zqd (fun u (hu : Gr w4 u) => show HBlk g1 f u from HF4.out.kept hu)
     have HHK := zqd (fun u (hu : Gr w4 u) => show HBlk (w.heap.size + 1) h u from HHW.out.kept (HG4.out.trans hu))
     have HDK := zqd (fun u (hu : Gr w4 u) => snd_dyn (HBW.out.kept (HG4.out.trans hu)))
     refine Sched.wp_region_sched 7 [] [6] (by kernel_rfl) (by kernel_rfl) ?_
     simp only [List.take_succ_cons, List.take_zero, List.drop_succ_cons, List.drop_zero]
     repeat (first | ((first | ((with_reducible refine Sched.walk1_no ?_ ?_ (fun K hK => ?_)); (focus rfl); (focus rfl)) | ((with_reducible refine Sched.walk1_gr ?_ ?_ ?_ (fun K hK => ?_)); (focus rfl); (focus rfl); (focus rfl); apply Exists.intro; refine ⟨fun w1 hw1 => ?_, ?_⟩; (focus (go_simp; (try go_ints); (try (simp only [IntWalk.iteOmega]; go_simp)); first | done | (with_reducible rfl) | (with_reducible exact ⟨rfl, rfl⟩))))); simp only [Act.put, zqa, zqb, zqc]; refine hK _ ?_; clear hK K) | (refine Sched.walk1_box rfl rfl ?_; apply Exists.intro; refine ⟨fun w1 hw1 => ?_, ?_⟩; (focus (go_simp; exact ⟨Gr.alloc _ _, rfl, by simp, heap_alloc_new _ _⟩))))
     refine Sched.walk1_gr rfl rfl rfl (fun K hK => ?_)
     refine ⟨DVal s.str s.fol, fun w1 hw1 => rng_gq (HDK.out w1 hw1) 43 _ rfl rfl (by first | exact Tryd.underlying49 | exact Tryd.underlying43 | exact Tryd.underlying46) rfl (by kernel_rfl), ?_⟩
     simp only [Act.put, zqa, zqb, zqc]
     refine hK _ ?_
     clear hK K
     refine Sched.walk1_gr rfl rfl rfl (fun K hK => ?_)
     refine ⟨HVal f, fun w1 hw1 => (HFK.out w1 hw1).load _ rfl rfl, ?_⟩
     simp only [Act.put, zqa, zqb, zqc]
     refine hK _ ?_
     clear hK K
     refine Sched.walk1_gr rfl rfl rfl (fun K hK => ?_)
     refine ⟨HVal h, fun w1 hw1 => (HHK.out w1 hw1).load _ rfl rfl, ?_⟩
     simp only [Act.put, zqa, zqb, zqc]
     refine hK _ ?_
     clear hK K
     repeat (first | ((first | ((with_reducible refine Sched.walk1_no ?_ ?_ (fun K hK => ?_)); (focus rfl); (focus rfl)) | ((with_reducible refine Sched.walk1_gr ?_ ?_ ?_ (fun K hK => ?_)); (focus rfl); (focus rfl); (focus rfl); apply Exists.intro; refine ⟨fun w1 hw1 => ?_, ?_⟩; (focus (go_simp; (try go_ints); (try (simp only [IntWalk.iteOmega]; go_simp)); first | done | (first | (go_at_call 15; (with_reducible exact rnum_is HN.out _)) | (go_at_call 62; (with_reducible exact rpredict_is HP.out _))) | (with_reducible rfl) | (with_reducible exact ⟨rfl, rfl⟩))))); simp only [Act.put, zqa, zqb, zqc]; refine hK _ ?_; clear hK K) | (refine Sched.walk1_box rfl rfl ?_; apply Exists.intro; refine ⟨fun w1 hw1 => ?_, ?_⟩; (focus (go_simp; exact ⟨Gr.alloc _ _, rfl, by simp, heap_alloc_new _ _⟩))))
     refine Sched.walk1_nil ?_
     intro wq hwq
     dsimp only [Sched.EndN, List.nil_append, List.cons_append, Act.put]
     rintro g5 hi1 v1 ⟨rfl, hlt1, hblk1⟩ hlo1 hle1 hhi1 -
     simp only [zqa, zqb, zqc]
     obtain ⟨w5, hw5⟩ : ∃ y, y = wq.setCells g5 0 (HCells P).toArray.toList := ⟨_, rfl⟩
     have hr5 : CBlk g5 49 (HCells P) w5 := by rw [hw5]; exact heap_setCells (HCells P) 0 wq _ hblk1
     have hg5 : Gr w4 w5 := by rw [hw5]; exact grown_setCells_new hwq hlo1 _ _
     have ht5 : wq.there g5 0 (HCells P).toArray.size := there_block hblk1 (by simp)
     refine Sched.walk2_go rfl (fun K hK => ?_)
     refine tq_store 49 _ _ rfl g5 0 (HCells P).toArray rfl rfl ht5 (by kernel_rfl) (hcells_one P) ?_
     rw [← hw5]
     simp only [Act.put]
     refine hK _ _ ?_
     clear hK K
     refine Sched.walk2_nil ?_
     have HP5 := zqd hr5
     have HQ5 := zqd hg5
     have HH5 := zqd (HHK.out w5 hg5)
     have hlo5 := hlo1
     clear hw5 hr5 hg5 ht5 hblk1 hwq hlt1 hle1 hhi1 hlo1 HFK HHK HDK HF4
     have p9 : w5.cell? ⟨w.heap.size + 1, 9, none⟩ = some (.int .i64 h.check) := HH5.out.at 9 rfl
     have r9 : w5.cell? ⟨g5, 9, none⟩ = some (.int .i64 P.check) := HP5.out.at 9 rfl
     have f9 := HP5.out.fz 9
     go_upto_region 19 with (fail)
     obtain ⟨w6, hw6⟩ : ∃ y, y = w5.setCell ⟨g5, 9, none⟩ (.int .i64 h.check) := ⟨_, rfl⟩
     rw [← hw6]
     have HQB := zqd (show CBlk g5 49 (HCells Q) w6 by rw [hw6]; exact HP5.out.set 9 _ (by rw [← HQ.out]; rfl))
     have HQ6 := zqd (show Gr w4 w6 by rw [hw6]; exact gr_setCell HQ5.out hlo5 _ _)
     have HH6 := zqd (HHW.out.kept (HG4.out.trans HQ6.out))
     clear hw6 p9 r9 f9 HP5 HQ5 HH5 HQ HP HN hlo5
     go_wp2_with fail
     go_roundw
     case rel => exact ⟨j + 1, a4, c4, _, by omega, by go_num, rfl, HO4.out.stay HQ6.out, HG4.out.trans HQ6.out⟩
     case measure => (simp [intOf] <;> omega)
    ·obtain rfl : j = s.n := by omega
     go_wp2_with fail
     go_ret
     exact ⟨_, rfl, HGW.out.trans HG.out⟩
 ·go_wp2_with (first | (refine cblk_load rfl 46 _ rfl w.heap.size rfl HB1.out Tryd.underlying46 rfl (by kernel_rfl) ?_) | (refine cblk_load rfl 49 _ rfl (w.heap.size + 1) rfl HH1.out Tryd.underlying49 rfl (by kernel_rfl) ?_))
  refine (rfits9_any s h _ w1 (HR.out.kept HG1.out) hn).mono ?_
  rintro e w2 ⟨b, rfl, hg2⟩
  have HBW := zqd (HB1.out.kept hg2)
  have HHW := zqd (HH1.out.kept hg2)
  have HGW := zqd (HG1.out.trans hg2)
  clear hg2
  cases b
  ·go_wp2_with fail
   go_ret
   exact ⟨_, rfl, HGW.out⟩
  ·go_upto_region 9 with (fail)
   go_wp2_with fail
   go_loopw [9, 10] (fun v i wr => NumsRel (w2).heap.size s.n v i w2 wr) (fun _ i _ => s.n - (intOf i).toNat)
   case atStart => exact ⟨0, none, 0, [], by omega, rfl, rfl, OwnI.nil _ _ _ _, Gr.refl _⟩
   case round =>
    obtain ⟨j, a, c, xs, hj, rfl, rfl, ho, hg⟩ := hrel
    have HO := zqd ho
    have HG := zqd hg
    have x8 := (HBW.out.kept hg).at 8 rfl
    clear ho hg
    by_cases hlt : j < s.n
    ·obtain ⟨f, hf, hfo⟩ := (HR.out.kept (HGW.out.trans HG.out)).get hlt
     obtain ⟨b, off, ea, -, hrow⟩ := (HR.out.kept (HGW.out.trans HG.out)).row (by omega)
     have HRG := zqd (hrow j f hf)
     have HFO := zqd hfo
     have hcap := HR.out.2.1
     rw [ea] at x8
     clear hrow hf hfo ea
     have HZ := zqd (show CBlk wr.heap.size 49 (HCells zeroH) (wr.alloc (.cells #[.int .i64 0, .int .i64 0, .int .i64 0, .int .i64 0, .int .i64 0, .int .i64 0, .int .i64 0, .int .i64 0, .int .i64 0, .int .i64 0, .int .i64 0, .int .i64 0, .int .i64 0, .int .i64 0, .int .i64 0] 49)) from CBlk.new _ _ _)
     go_upto_region 14 with (first | (refine rng_load rfl 49 _ rfl b (off + j * 15) rfl (HCells f) HRG.out Tryd.underlying49 rfl (by kernel_rfl) ?_) | (refine cblk_store rfl 49 _ _ rfl wr.heap.size (HCells f) HZ.out rfl rfl rfl (by kernel_rfl) rfl ?_; intro w2 hb2 he2; have HF2 := zqd hb2; have HG2 := zqd (show Gr wr w2 by rw [← he2]; exact gr_setCells (Gr.alloc _ _) (Nat.le_refl _) _ _); clear hb2 he2))
     clear HZ HRG x8
     obtain ⟨g1, hg1⟩ : ∃ g, wr.heap.size = g := ⟨_, rfl⟩
     rw [hg1] at HF2
     rw [hg1]
     have HH2 := zqd (HHW.out.kept (HG.out.trans HG2.out))
     obtain ⟨C, hC⟩ : ∃ C, chH f h = C := ⟨_, rfl⟩
     have HC := zqd hC
     clear hC
     go_wp2_with (first | (refine cblk_load rfl 49 _ rfl g1 rfl HF2.out Tryd.underlying49 rfl (by kernel_rfl) ?_) | (refine cblk_load rfl 49 _ rfl (w.heap.size + 1) rfl HH2.out Tryd.underlying49 rfl (by kernel_rfl) ?_))
     refine (rchg_is HC.out w2).mono ?_
     rintro e w3 ⟨rfl, hg3⟩
     have HG3 := zqd (HG.out.trans (HG2.out.trans hg3))
     have HF3 := zqd (HF2.out.kept hg3)
     have HO3 := zqd (HO.out.stay (HG2.out.trans hg3))
     clear hg3 HF2 HG2 HH2
     by_cases hc0 : C = 0
     rotate_left
     ·have hcb : (C != 0) = true := by simpa using hc0
      clear hc0
      go_wp2_with fail
      go_ret
      exact ⟨_, rfl, HGW.out.trans HG3.out⟩
     have hcb : (C != 0) = false := by simpa using hc0
     clear hc0
     have y13 : w3.cell? ⟨g1, 13, none⟩ = some (.int .i64 f.time) := HF3.out.at 13 rfl
     obtain ⟨a4, c4, w4, hrun, ho4, hg4, hgb4⟩ := NumsRel.app HO3.out HG3.out HG3.out.size (Nat.le_refl _) f.time (hok_time HFO.out) (by omega)
     have HRUN := zqd hrun
     have HO4 := zqd ho4
     have HG4 := zqd hg4
     have HF4 := zqd (show CBlk g1 49 (HCells f) w4 from (HF3.out.kept (Gr.alloc _ _)).but hgb4 (fun e => by have := (HO.out.below _ e.symm).2; omega))
     clear hrun ho4 hg4 hgb4 HO3 HF3 HO
     go_upto_region 17 with (at_builtin; refine wpList_app rfl _ _ _ rfl rfl rfl HRUN.out ?_)
     clear HRUN hg1 HC HFO y13 hcb
     obtain ⟨N, hN⟩ : ∃ N, numH h = N := ⟨_, rfl⟩
     obtain ⟨P, hP⟩ : ∃ P, predH s.str s.fol f N = P := ⟨_, rfl⟩
     obtain ⟨Q, hQ⟩ : ∃ Q : Hdr, (⟨P.kind, P.tos, P.id, P.fixed, P.ttl, P.frm, P.to, P.fport, P.tport, h.check, P.marker, P.type, P.seq, P.time, P.source⟩ : Hdr) = Q := ⟨_, rfl⟩
     have HN := zqd hN
     have HP := zqd hP
     have HQ := zqd hQ
     clear hN hP hQ
     have HFK := zqd (fun u (hu : Gr w4 u) => show HBlk g1 f u from HF4.out.kept hu)
     have HHK := zqd (fun u (hu : Gr w4 u) => show HBlk (w.heap.size + 1) h u from HHW.out.kept (HG4.out.trans hu))
     have HDK := zqd (fun u (hu : Gr w4 u) => snd_dyn (HBW.out.kept (HG4.out.trans hu)))
     refine Sched.wp_region_sched 7 [] [6] (by kernel_rfl) (by kernel_rfl) ?_
     simp only [List.take_succ_cons, List.take_zero, List.drop_succ_cons, List.drop_zero]
     repeat (first | ((first | ((with_reducible refine Sched.walk1_no ?_ ?_ (fun K hK => ?_)); (focus rfl); (focus rfl)) | ((with_reducible refine Sched.walk1_gr ?_ ?_ ?_ (fun K hK => ?_)); (focus rfl); (focus rfl); (focus rfl); apply Exists.intro; refine ⟨fun w1 hw1 => ?_, ?_⟩; (focus (go_simp; (try go_ints); (try (simp only [IntWalk.iteOmega]; go_simp)); first | done | (with_reducible rfl) | (with_reducible exact ⟨rfl, rfl⟩))))); simp only [Act.put, zqa, zqb, zqc]; refine hK _ ?_; clear hK K) | (refine Sched.walk1_box rfl rfl ?_; apply Exists.intro; refine ⟨fun w1 hw1 => ?_, ?_⟩; (focus (go_simp; exact ⟨Gr.alloc _ _, rfl, by simp, heap_alloc_new _ _⟩))))
     refine Sched.walk1_gr rfl rfl rfl (fun K hK => ?_)
     refine ⟨DVal s.str s.fol, fun w1 hw1 => rng_gq (HDK.out w1 hw1) 43 _ rfl rfl (by first | exact Tryd.underlying49 | exact Tryd.underlying43 | exact Tryd.underlying46) rfl (by kernel_rfl), ?_⟩
     simp only [Act.put, zqa, zqb, zqc]
     refine hK _ ?_
     clear hK K
     refine Sched.walk1_gr rfl rfl rfl (fun K hK => ?_)
     refine ⟨HVal f, fun w1 hw1 => (HFK.out w1 hw1).load _ rfl rfl, ?_⟩
     simp only [Act.put, zqa, zqb, zqc]
     refine hK _ ?_
     clear hK K
     refine Sched.walk1_gr rfl rfl rfl (fun K hK => ?_)
     refine ⟨HVal h, fun w1 hw1 => (HHK.out w1 hw1).load _ rfl rfl, ?_⟩
     simp only [Act.put, zqa, zqb, zqc]
     refine hK _ ?_
     clear hK K
     repeat (first | ((first | ((with_reducible refine Sched.walk1_no ?_ ?_ (fun K hK => ?_)); (focus rfl); (focus rfl)) | ((with_reducible refine Sched.walk1_gr ?_ ?_ ?_ (fun K hK => ?_)); (focus rfl); (focus rfl); (focus rfl); apply Exists.intro; refine ⟨fun w1 hw1 => ?_, ?_⟩; (focus (go_simp; (try go_ints); (try (simp only [IntWalk.iteOmega]; go_simp)); first | done | (first | (go_at_call 15; (with_reducible exact rnum_is HN.out _)) | (go_at_call 62; (with_reducible exact rpredict_is HP.out _))) | (with_reducible rfl) | (with_reducible exact ⟨rfl, rfl⟩))))); simp only [Act.put, zqa, zqb, zqc]; refine hK _ ?_; clear hK K) | (refine Sched.walk1_box rfl rfl ?_; apply Exists.intro; refine ⟨fun w1 hw1 => ?_, ?_⟩; (focus (go_simp; exact ⟨Gr.alloc _ _, rfl, by simp, heap_alloc_new _ _⟩))))
     refine Sched.walk1_nil ?_
     intro wq hwq
     dsimp only [Sched.EndN, List.nil_append, List.cons_append, Act.put]
     rintro g5 hi1 v1 ⟨rfl, hlt1, hblk1⟩ hlo1 hle1 hhi1 -
     simp only [zqa, zqb, zqc]
     obtain ⟨w5, hw5⟩ : ∃ y, y = wq.setCells g5 0 (HCells P).toArray.toList := ⟨_, rfl⟩
     have hr5 : CBlk g5 49 (HCells P) w5 := by rw [hw5]; exact heap_setCells (HCells P) 0 wq _ hblk1
     have hg5 : Gr w4 w5 := by rw [hw5]; exact grown_setCells_new hwq hlo1 _ _
     have ht5 : wq.there g5 0 (HCells P).toArray.size := there_block hblk1 (by simp)
     refine Sched.walk2_go rfl (fun K hK => ?_)
     refine tq_store 49 _ _ rfl g5 0 (HCells P).toArray rfl rfl ht5 (by kernel_rfl) (hcells_one P) ?_
     rw [← hw5]
     simp only [Act.put]
     refine hK _ _ ?_
     clear hK K
     refine Sched.walk2_nil ?_
     have HP5 := zqd hr5
     have HQ5 := zqd hg5
     have HH5 := zqd (HHK.out w5 hg5)
     have hlo5 := hlo1
     clear hw5 hr5 hg5 ht5 hblk1 hwq hlt1 hle1 hhi1 hlo1 HFK HHK HDK HF4
     have p9 : w5.cell? ⟨w.heap.size + 1, 9, none⟩ = some (.int .i64 h.check) := HH5.out.at 9 rfl
     have r9 : w5.cell? ⟨g5, 9, none⟩ = some (.int .i64 P.check) := HP5.out.at 9 rfl
     have f9 := HP5.out.fz 9
     go_upto_region 19 with (fail)
     obtain ⟨w6, hw6⟩ : ∃ y, y = w5.setCell ⟨g5, 9, none⟩ (.int .i64 h.check) := ⟨_, rfl⟩
     rw [← hw6]
     have HQB := zqd (show CBlk g5 49 (HCells Q) w6 by rw [hw6]; exact HP5.out.set 9 _ (by rw [← HQ.out]; rfl))
     have HQ6 := zqd (show Gr w4 w6 by rw [hw6]; exact gr_setCell HQ5.out hlo5 _ _)
     have HH6 := zqd (HHW.out.kept (HG4.out.trans HQ6.out))
     clear hw6 p9 r9 f9 HP5 HQ5 HH5 HQ HP HN hlo5
     have q2 : w6.cell? ⟨g5, 2, none⟩ = some (.int .i64 Q.id) := HQB.out.at 2 rfl
     have h2 : w6.cell? ⟨w.heap.size + 1, 2, none⟩ = some (.int .i64 h.id) := HH6.out.at 2 rfl
     by_cases hid : Q.id = h.id
     ·have hib : (Q.id != h.id) = false := by simpa using hid
      clear hid
      go_wp2_with fail
      go_roundw
      case rel => exact ⟨j + 1, a4, c4, _, by omega, by go_num, rfl, HO4.out.stay HQ6.out, HG4.out.trans HQ6.out⟩
      case measure => (simp [intOf] <;> omega)
     ·have hib : (Q.id != h.id) = true := by simpa using hid
      clear hid
      go_wp2_with fail
      go_ret
      exact ⟨_, rfl, HGW.out.trans (HG4.out.trans HQ6.out)⟩
    ·obtain rfl : j = s.n := by omega
     have t13 : wr.cell? ⟨w.heap.size + 1, 13, none⟩ = some (.int .i64 h.time) := (HHW.out.kept HG.out).at 13 rfl
     go_wp2_with fail
     refine (rfits_any 32 a s.n c xs 16 h.time wr HO.out.rd).mono ?_
     rintro e w3 ⟨rfl, hg3⟩
     have HG3 := zqd (HG.out.trans hg3)
     clear hg3 t13
     go_wp2_with fail
     go_ret
     exact ⟨_, rfl, HGW.out.trans HG3.out⟩
set_option maxRecDepth 100000 in
set_option maxHeartbeats 4000000 in
theorem possible_3 (s : Snd) (h : Hdr) (w : World) (hr : RdH w s.a s.n s.c s.refs) (hn : s.n ≤ 1000) : Calls Tryd.prog 40 #[SVal s, HVal h, .int .i64 3] w (PosPost w) := by
 have HR := zqd hr
 obtain ⟨K, hK⟩ : ∃ K, (h.kind == 2) = K := ⟨_, rfl⟩
 clear hr
 go_enter Tryd.func40, Tryd.ntmps40
 go_upto_region 1 with (fail)
 obtain ⟨w1, hw1⟩ : ∃ y, y = (w.alloc (.cells (SCells s).toArray 46)).alloc (.cells (HCells h).toArray 49) := ⟨_, rfl⟩
 have hb1 : CBlk w.heap.size 46 (SCells s) w1 := by rw [hw1]; exact (CBlk.new _ _ _).kept (Gr.alloc _ _)
 have hh1 : CBlk (w.heap.size + 1) 49 (HCells h) w1 := by rw [hw1]; exact heap_two _ _ _
 have hg1 : Gr w w1 := by rw [hw1]; exact (Gr.alloc _ _).trans (Gr.alloc _ _)
 simp only [SCells, HCells] at hw1
 first | rw [← hw1] | (go_show; fail)
 have HB1 := zqd hb1
 have HH1 := zqd hh1
 have HG1 := zqd hg1
 have k0 : w1.cell? ⟨w.heap.size + 1, 0, none⟩ = some (.int .i64 h.kind) := hh1.at 0 rfl
 clear hw1 hb1 hh1 hg1
 cases K
 ·have HBW := zqd HB1.out
  have HHW := zqd HH1.out
  have HGW := zqd HG1.out
  go_upto_region 9 with (fail)
  go_wp2_with fail
  go_loopw [9, 10] (fun v i wr => NumsRel (w1).heap.size s.n v i w1 wr) (fun _ i _ => s.n - (intOf i).toNat)
  case atStart => exact ⟨0, none, 0, [], by omega, rfl, rfl, OwnI.nil _ _ _ _, Gr.refl _⟩
  case round =>
   obtain ⟨j, a, c, xs, hj, rfl, rfl, ho, hg⟩ := hrel
   have HO := zqd ho
   have HG := zqd hg
   have x8 := (HBW.out.kept hg).at 8 rfl
   clear ho hg
   by_cases hlt : j < s.n
   ·obtain ⟨f, hf, hfo⟩ := (HR.out.kept (HGW.out.trans HG.out)).get hlt
    obtain ⟨b, off, ea, -, hrow⟩ := (HR.out.kept (HGW.out.trans HG.out)).row (by omega)
    have HRG := zqd (hrow j f hf)
    have HFO := zqd hfo
    have hcap := HR.out.2.1
    rw [ea] at x8
    clear hrow hf hfo ea
    have HZ := zqd (show CBlk wr.heap.size 49 (HCells zeroH) (wr.alloc (.cells #[.int .i64 0, .int .i64 0, .int .i64 0, .int .i64 0, .int .i64 0, .int .i64 0, .int .i64 0, .int .i64 0, .int .i64 0, .int .i64 0, .int .i64 0, .int .i64 0, .int .i64 0, .int .i64 0, .int .i64 0] 49)) from CBlk.new _ _ _)
    go_upto_region 14 with (first | (refine rng_load rfl 49 _ rfl b (off + j * 15) rfl (HCells f) HRG.out Tryd.underlying49 rfl (by kernel_rfl) ?_) | (refine cblk_store rfl 49 _ _ rfl wr.heap.size (HCells f) HZ.out rfl rfl rfl (by kernel_rfl) rfl ?_; intro w2 hb2 he2; have HF2 := zqd hb2; have HG2 := zqd (show Gr wr w2 by rw [← he2]; exact gr_setCells (Gr.alloc _ _) (Nat.le_refl _) _ _); clear hb2 he2))
    clear HZ HRG x8
    obtain ⟨g1, hg1⟩ : ∃ g, wr.heap.size = g := ⟨_, rfl⟩
    rw [hg1] at HF2
    rw [hg1]
    have HH2 := zqd (HHW.out.kept (HG.out.trans HG2.out))
    obtain ⟨C, hC⟩ : ∃ C, chH f h = C := ⟨_, rfl⟩
    have HC := zqd hC
    clear hC
    go_wp2_with (first | (refine cblk_load rfl 49 _ rfl g1 rfl HF2.out Tryd.underlying49 rfl (by kernel_rfl) ?_) | (refine cblk_load rfl 49 _ rfl (w.heap.size + 1) rfl HH2.out Tryd.underlying49 rfl (by kernel_rfl) ?_))
    refine (rchg_is HC.out w2).mono ?_
    rintro e w3 ⟨rfl, hg3⟩
    have HG3 := zqd (HG.out.trans (HG2.out.trans hg3))
    have HF3 := zqd (HF2.out.kept hg3)
    have HO3 := zqd (HO.out.stay (HG2.out.trans hg3))
    clear hg3 HF2 HG2 HH2
    by_cases hc0 : C = 0
    rotate_left
    ·have hcb : (C != 0) = true := by simpa using hc0
     clear hc0
     go_wp2_with fail
     go_ret
     exact ⟨_, rfl, HGW.out.trans HG3.out⟩
    have hcb : (C != 0) = false := by simpa using hc0
    clear hc0
    have y13 : w3.cell? ⟨g1, 13, none⟩ = some (.int .i64 f.time) := HF3.out.at 13 rfl
    obtain ⟨a4, c4, w4, hrun, ho4, hg4, hgb4⟩ := NumsRel.app HO3.out HG3.out HG3.out.size (Nat.le_refl _) f.time (hok_time HFO.out) (by omega)
    have HRUN := zqd hrun
    have HO4 := zqd ho4
    have HG4 := zqd hg4
    have HF4 := zqd (show CBlk g1 49 (HCells f) w4 from (HF3.out.kept (Gr.alloc _ _)).but hgb4 (fun e => by have := (HO.out.below _ e.symm).2; omega))
    clear hrun ho4 hg4 hgb4 HO3 HF3 HO
    go_upto_region 17 with (at_builtin; refine wpList_app rfl _ _ _ rfl rfl rfl HRUN.out ?_)
    clear HRUN hg1 HC HFO y13 hcb
    obtain ⟨N, hN⟩ : ∃ N, numH h = N := ⟨_, rfl⟩
    obtain ⟨P, hP⟩ : ∃ P, predH s.str s.fol f N = P := ⟨_, rfl⟩
    obtain ⟨Q, hQ⟩ : ∃ Q : Hdr, (⟨P.kind, P.tos, P.id, P.fixed, P.ttl, P.frm, P.to, P.fport, P.tport, h.check, P.marker, P.type, P.seq, P.time, P.source⟩ : Hdr) = Q := ⟨_, rfl⟩
    have HN := zqd hN
    have HP := zqd hP
    have HQ := zqd hQ
    clear hN hP hQ
    have HFK := zqd (fun u (hu : Gr w4 u) => show HBlk g1 f u from HF4.out.kept hu)
    have HHK := zqd (fun u (hu : Gr w4 u) => show HBlk (w.heap.size + 1) h u from HHW.out.kept (HG4.out.trans hu))
    have HDK := zqd (fun u (hu : Gr w4 u) => snd_dyn (HBW.out.kept (HG4.out.trans hu)))
    refine Sched.wp_region_sched 7 [] [6] (by kernel_rfl) (by kernel_rfl) ?_
    simp only [List.take_succ_cons, List.take_zero, List.drop_succ_cons, List.drop_zero]
    repeat (first | ((first | ((with_reducible refine Sched.walk1_no ?_ ?_ (fun K hK => ?_)); (focus rfl); (focus rfl)) | ((with_reducible refine Sched.walk1_gr ?_ ?_ ?_ (fun K hK => ?_)); (focus rfl); (focus rfl); (focus rfl); apply Exists.intro; refine ⟨fun w1 hw1 => ?_, ?_⟩; (focus (go_simp; (try go_ints); (try (simp only [IntWalk.iteOmega]; go_simp)); first | done | (with_reducible rfl) | (with_reducible exact ⟨rfl, rfl⟩))))); simp only [Act.put, zqa, zqb, zqc]; refine hK _ ?_; clear hK K) | (refine Sched.walk1_box rfl rfl ?_; apply Exists.intro; refine ⟨fun w1 hw1 => ?_, ?_⟩; (focus (go_simp; exact ⟨Gr.alloc _ _, rfl, by simp, heap_alloc_new _ _⟩))))
    refine Sched.walk1_gr rfl rfl rfl (fun K hK => ?_)
    refine ⟨DVal s.str s.fol, fun w1 hw1 => rng_gq (HDK.out w1 hw1) 43 _ rfl rfl (by first | exact Tryd.underlying49 | exact Tryd.underlying43 | exact Tryd.underlying46) rfl (by kernel_rfl), ?_⟩
    simp only [Act.put, zqa, zqb, zqc]
    refine hK _ ?_
    clear hK K
    refine Sched.walk1_gr rfl rfl rfl (fun K hK => ?_)
    refine ⟨HVal f, fun w1 hw1 => (HFK.out w1 hw1).load _ rfl rfl, ?_⟩
    simp only [Act.put, zqa, zqb, zqc]
    refine hK _ ?_
    clear hK K
    refine Sched.walk1_gr rfl rfl rfl (fun K hK => ?_)
    refine ⟨HVal h, fun w1 hw1 => (HHK.out w1 hw1).load _ rfl rfl, ?_⟩
    simp only [Act.put, zqa, zqb, zqc]
    refine hK _ ?_
    clear hK K
    repeat (first | ((first | ((with_reducible refine Sched.walk1_no ?_ ?_ (fun K hK => ?_)); (focus rfl); (focus rfl)) | ((with_reducible refine Sched.walk1_gr ?_ ?_ ?_ (fun K hK => ?_)); (focus rfl); (focus rfl); (focus rfl); apply Exists.intro; refine ⟨fun w1 hw1 => ?_, ?_⟩; (focus (go_simp; (try go_ints); (try (simp only [IntWalk.iteOmega]; go_simp)); first | done | (first | (go_at_call 15; (with_reducible exact rnum_is HN.out _)) | (go_at_call 62; (with_reducible exact rpredict_is HP.out _))) | (with_reducible rfl) | (with_reducible exact ⟨rfl, rfl⟩))))); simp only [Act.put, zqa, zqb, zqc]; refine hK _ ?_; clear hK K) | (refine Sched.walk1_box rfl rfl ?_; apply Exists.intro; refine ⟨fun w1 hw1 => ?_, ?_⟩; (focus (go_simp; exact ⟨Gr.alloc _ _, rfl, by simp, heap_alloc_new _ _⟩))))
    refine Sched.walk1_nil ?_
    intro wq hwq
    dsimp only [Sched.EndN, List.nil_append, List.cons_append, Act.put]
    rintro g5 hi1 v1 ⟨rfl, hlt1, hblk1⟩ hlo1 hle1 hhi1 -
    simp only [zqa, zqb, zqc]
    obtain ⟨w5, hw5⟩ : ∃ y, y = wq.setCells g5 0 (HCells P).toArray.toList := ⟨_, rfl⟩
    have hr5 : CBlk g5 49 (HCells P) w5 := by rw [hw5]; exact heap_setCells (HCells P) 0 wq _ hblk1
    have hg5 : Gr w4 w5 := by rw [hw5]; exact grown_setCells_new hwq hlo1 _ _
    have ht5 : wq.there g5 0 (HCells P).toArray.size := there_block hblk1 (by simp)
    refine Sched.walk2_go rfl (fun K hK => ?_)
    refine tq_store 49 _ _ rfl g5 0 (HCells P).toArray rfl rfl ht5 (by kernel_rfl) (hcells_one P) ?_
    rw [← hw5]
    simp only [Act.put]
    refine hK _ _ ?_
    clear hK K
    refine Sched.walk2_nil ?_
    have HP5 := zqd hr5
    have HQ5 := zqd hg5
    have HH5 := zqd (HHK.out w5 hg5)
    have hlo5 := hlo1
    clear hw5 hr5 hg5 ht5 hblk1 hwq hlt1 hle1 hhi1 hlo1 HFK HHK HDK HF4
    have p9 : w5.cell? ⟨w.heap.size + 1, 9, none⟩ = some (.int .i64 h.check) := HH5.out.at 9 rfl
    have r9 : w5.cell? ⟨g5, 9, none⟩ = some (.int .i64 P.check) := HP5.out.at 9 rfl
    have f9 := HP5.out.fz 9
    go_upto_region 19 with (fail)
    obtain ⟨w6, hw6⟩ : ∃ y, y = w5.setCell ⟨g5, 9, none⟩ (.int .i64 h.check) := ⟨_, rfl⟩
    rw [← hw6]
    have HQB := zqd (show CBlk g5 49 (HCells Q) w6 by rw [hw6]; exact HP5.out.set 9 _ (by rw [← HQ.out]; rfl))
    have HQ6 := zqd (show Gr w4 w6 by rw [hw6]; exact gr_setCell HQ5.out hlo5 _ _)
    have HH6 := zqd (HHW.out.kept (HG4.out.trans HQ6.out))
    clear hw6 p9 r9 f9 HP5 HQ5 HH5 HQ HP HN hlo5
    go_wp2_with fail
    go_roundw
    case rel => exact ⟨j + 1, a4, c4, _, by omega, by go_num, rfl, HO4.out.stay HQ6.out, HG4.out.trans HQ6.out⟩
    case measure => (simp [intOf] <;> omega)
   ·obtain rfl : j = s.n := by omega
    go_wp2_with fail
    go_ret
    exact ⟨_, rfl, HGW.out.trans HG.out⟩
 ·go_wp2_with (first | (refine cblk_load rfl 46 _ rfl w.heap.size rfl HB1.out Tryd.underlying46 rfl (by kernel_rfl) ?_) | (refine cblk_load rfl 49 _ rfl (w.heap.size + 1) rfl HH1.out Tryd.underlying49 rfl (by kernel_rfl) ?_))
  refine (rfits9_any s h _ w1 (HR.out.kept HG1.out) hn).mono ?_
  rintro e w2 ⟨b, rfl, hg2⟩
  have HBW := zqd (HB1.out.kept hg2)
  have HHW := zqd (HH1.out.kept hg2)
  have HGW := zqd (HG1.out.trans hg2)
  clear hg2
  cases b
  ·go_wp2_with fail
   go_ret
   exact ⟨_, rfl, HGW.out⟩
  ·go_upto_region 9 with (fail)
   go_wp2_with fail
   go_loopw [9, 10] (fun v i wr => NumsRel (w2).heap.size s.n v i w2 wr) (fun _ i _ => s.n - (intOf i).toNat)
   case atStart => exact ⟨0, none, 0, [], by omega, rfl, rfl, OwnI.nil _ _ _ _, Gr.refl _⟩
   case round =>
    obtain ⟨j, a, c, xs, hj, rfl, rfl, ho, hg⟩ := hrel
    have HO := zqd ho
    have HG := zqd hg
    have x8 := (HBW.out.kept hg).at 8 rfl
    clear ho hg
    by_cases hlt : j < s.n
    ·obtain ⟨f, hf, hfo⟩ := (HR.out.kept (HGW.out.trans HG.out)).get hlt
     obtain ⟨b, off, ea, -, hrow⟩ := (HR.out.kept (HGW.out.trans HG.out)).row (by omega)
     have HRG := zqd (hrow j f hf)
     have HFO := zqd hfo
     have hcap := HR.out.2.1
     rw [ea] at x8
     clear hrow hf hfo ea
     have HZ := zqd (show CBlk wr.heap.size 49 (HCells zeroH) (wr.alloc (.cells #[.int .i64 0, .int .i64 0, .int .i64 0, .int .i64 0, .int .i64 0, .int .i64 0, .int .i64 0, .int .i64 0, .int .i64 0, .int .i64 0, .int .i64 0, .int .i64 0, .int .i64 0, .int .i64 0, .int .i64 0] 49)) from CBlk.new _ _ _)
     go_upto_region 14 with (first | (refine rng_load rfl 49 _ rfl b (off + j * 15) rfl (HCells f) HRG.out Tryd.underlying49 rfl (by kernel_rfl) ?_) | (refine cblk_store rfl 49 _ _ rfl wr.heap.size (HCells f) HZ.out rfl rfl rfl (by kernel_rfl) rfl ?_; intro w2 hb2 he2; have HF2 := zqd hb2; have HG2 := zqd (show Gr wr w2 by rw [← he2]; exact gr_setCells (Gr.alloc _ _) (Nat.le_refl _) _ _); clear hb2 he2))
     clear HZ HRG x8
     obtain ⟨g1, hg1⟩ : ∃ g, wr.heap.size = g := ⟨_, rfl⟩
     rw [hg1] at HF2
     rw [hg1]
     have HH2 := zqd (HHW.out.kept (HG.out.trans HG2.out))
     obtain ⟨C, hC⟩ : ∃ C, chH f h = C := ⟨_, rfl⟩
     have HC := zqd hC
     clear hC
     go_wp2_with (first | (refine cblk_load rfl 49 _ rfl g1 rfl HF2.out Tryd.underlying49 rfl (by kernel_rfl) ?_) | (refine cblk_load rfl 49 _ rfl (w.heap.size + 1) rfl HH2.out Tryd.underlying49 rfl (by kernel_rfl) ?_))
     refine (rchg_is HC.out w2).mono ?_
     rintro e w3 ⟨rfl, hg3⟩
     have HG3 := zqd (HG.out.trans (HG2.out.trans hg3))
     have HF3 := zqd (HF2.out.kept hg3)
     have HO3 := zqd (HO.out.stay (HG2.out.trans hg3))
     clear hg3 HF2 HG2 HH2
     by_cases hc0 : C = 0
     rotate_left
     ·have hcb : (C != 0) = true := by simpa using hc0
      clear hc0
      go_wp2_with fail
      go_ret
      exact ⟨_, rfl, HGW.out.trans HG3.out⟩
     have hcb : (C != 0) = false := by simpa using hc0
     clear hc0
     have y13 : w3.cell? ⟨g1, 13, none⟩ = some (.int .i64 f.time) := HF3.out.at 13 rfl
     obtain ⟨a4, c4, w4, hrun, ho4, hg4, hgb4⟩ := NumsRel.app HO3.out HG3.out HG3.out.size (Nat.le_refl _) f.time (hok_time HFO.out) (by omega)
     have HRUN := zqd hrun
     have HO4 := zqd ho4
     have HG4 := zqd hg4
     have HF4 := zqd (show CBlk g1 49 (HCells f) w4 from (HF3.out.kept (Gr.alloc _ _)).but hgb4 (fun e => by have := (HO.out.below _ e.symm).2; omega))
     clear hrun ho4 hg4 hgb4 HO3 HF3 HO
     go_upto_region 17 with (at_builtin; refine wpList_app rfl _ _ _ rfl rfl rfl HRUN.out ?_)
     clear HRUN hg1 HC HFO y13 hcb
     obtain ⟨N, hN⟩ : ∃ N, numH h = N := ⟨_, rfl⟩
     obtain ⟨P, hP⟩ : ∃ P, predH s.str s.fol f N = P := ⟨_, rfl⟩
     obtain ⟨Q, hQ⟩ : ∃ Q : Hdr, (⟨P.kind, P.tos, P.id, P.fixed, P.ttl, P.frm, P.to, P.fport, P.tport, h.check, P.marker, P.type, P.seq, P.time, P.source⟩ : Hdr) = Q := ⟨_, rfl⟩
     have HN := zqd hN
     have HP := zqd hP
     have HQ := zqd hQ
     clear hN hP hQ
     have HFK := zqd (fun u (hu : Gr w4 u) => show HBlk g1 f u from HF4.out.kept hu)
     have HHK := zqd (fun u (hu : Gr w4 u) => show HBlk (w.heap.size + 1) h u from HHW.out.kept (HG4.out.trans hu))
     have HDK := zqd (fun u (hu : Gr w4 u) => snd_dyn (HBW.out.kept (HG4.out.trans hu)))
     refine Sched.wp_region_sched 7 [] [6] (by kernel_rfl) (by kernel_rfl) ?_
     simp only [List.take_succ_cons, List.take_zero, List.drop_succ_cons, List.drop_zero]
     repeat (first | ((first | ((with_reducible refine Sched.walk1_no ?_ ?_ (fun K hK => ?_)); (focus rfl); (focus rfl)) | ((with_reducible refine Sched.walk1_gr ?_ ?_ ?_ (fun K hK => ?_)); (focus rfl); (focus rfl); (focus rfl); apply Exists.intro; refine ⟨fun w1 hw1 => ?_, ?_⟩; (focus (go_simp; (try go_ints); (try (simp only [IntWalk.iteOmega]; go_simp)); first | done | (with_reducible rfl) | (with_reducible exact ⟨rfl, rfl⟩))))); simp only [Act.put, zqa, zqb, zqc]; refine hK _ ?_; clear hK K) | (refine Sched.walk1_box rfl rfl ?_; apply Exists.intro; refine ⟨fun w1 hw1 => ?_, ?_⟩; (focus (go_simp; exact ⟨Gr.alloc _ _, rfl, by simp, heap_alloc_new _ _⟩))))
     refine Sched.walk1_gr rfl rfl rfl (fun K hK => ?_)
     refine ⟨DVal s.str s.fol, fun w1 hw1 => rng_gq (HDK.out w1 hw1) 43 _ rfl rfl (by first | exact Tryd.underlying49 | exact Tryd.underlying43 | exact Tryd.underlying46) rfl (by kernel_rfl), ?_⟩
     simp only [Act.put, zqa, zqb, zqc]
     refine hK _ ?_
     clear hK K
     refine Sched.walk1_gr rfl rfl rfl (fun K hK => ?_)
     refine ⟨HVal f, fun w1 hw1 => (HFK.out w1 hw1).load _ rfl rfl, ?_⟩
     simp only [Act.put, zqa, zqb, zqc]
     refine hK _ ?_
     clear hK K
     refine Sched.walk1_gr rfl rfl rfl (fun K hK => ?_)
     refine ⟨HVal h, fun w1 hw1 => (HHK.out w1 hw1).load _ rfl rfl, ?_⟩
     simp only [Act.put, zqa, zqb, zqc]
     refine hK _ ?_
     clear hK K
     repeat (first | ((first | ((with_reducible refine Sched.walk1_no ?_ ?_ (fun K hK => ?_)); (focus rfl); (focus rfl)) | ((with_reducible refine Sched.walk1_gr ?_ ?_ ?_ (fun K hK => ?_)); (focus rfl); (focus rfl); (focus rfl); apply Exists.intro; refine ⟨fun w1 hw1 => ?_, ?_⟩; (focus (go_simp; (try go_ints); (try (simp only [IntWalk.iteOmega]; go_simp)); first | done | (first | (go_at_call 15; (with_reducible exact rnum_is HN.out _)) | (go_at_call 62; (with_reducible exact rpredict_is HP.out _))) | (with_reducible rfl) | (with_reducible exact ⟨rfl, rfl⟩))))); simp only [Act.put, zqa, zqb, zqc]; refine hK _ ?_; clear hK K) | (refine Sched.walk1_box rfl rfl ?_; apply Exists.intro; refine ⟨fun w1 hw1 => ?_, ?_⟩; (focus (go_simp; exact ⟨Gr.alloc _ _, rfl, by simp, heap_alloc_new _ _⟩))))
     refine Sched.walk1_nil ?_
     intro wq hwq
     dsimp only [Sched.EndN, List.nil_append, List.cons_append, Act.put]
     rintro g5 hi1 v1 ⟨rfl, hlt1, hblk1⟩ hlo1 hle1 hhi1 -
     simp only [zqa, zqb, zqc]
     obtain ⟨w5, hw5⟩ : ∃ y, y = wq.setCells g5 0 (HCells P).toArray.toList := ⟨_, rfl⟩
     have hr5 : CBlk g5 49 (HCells P) w5 := by rw [hw5]; exact heap_setCells (HCells P) 0 wq _ hblk1
     have hg5 : Gr w4 w5 := by rw [hw5]; exact grown_setCells_new hwq hlo1 _ _
     have ht5 : wq.there g5 0 (HCells P).toArray.size := there_block hblk1 (by simp)
     refine Sched.walk2_go rfl (fun K hK => ?_)
     refine tq_store 49 _ _ rfl g5 0 (HCells P).toArray rfl rfl ht5 (by kernel_rfl) (hcells_one P) ?_
     rw [← hw5]
     simp only [Act.put]
     refine hK _ _ ?_
     clear hK K
     refine Sched.walk2_nil ?_
     have HP5 := zqd hr5
     have HQ5 := zqd hg5
     have HH5 := zqd (HHK.out w5 hg5)
     have hlo5 := hlo1
     clear hw5 hr5 hg5 ht5 hblk1 hwq hlt1 hle1 hhi1 hlo1 HFK HHK HDK HF4
     have p9 : w5.cell? ⟨w.heap.size + 1, 9, none⟩ = some (.int .i64 h.check) := HH5.out.at 9 rfl
     have r9 : w5.cell? ⟨g5, 9, none⟩ = some (.int .i64 P.check) := HP5.out.at 9 rfl
     have f9 := HP5.out.fz 9
     go_upto_region 19 with (fail)
     obtain ⟨w6, hw6⟩ : ∃ y, y = w5.setCell ⟨g5, 9, none⟩ (.int .i64 h.check) := ⟨_, rfl⟩
     rw [← hw6]
     have HQB := zqd (show CBlk g5 49 (HCells Q) w6 by rw [hw6]; exact HP5.out.set 9 _ (by rw [← HQ.out]; rfl))
     have HQ6 := zqd (show Gr w4 w6 by rw [hw6]; exact gr_setCell HQ5.out hlo5 _ _)
     have HH6 := zqd (HHW.out.kept (HG4.out.trans HQ6.out))
     clear hw6 p9 r9 f9 HP5 HQ5 HH5 HQ HP HN hlo5
     go_wp2_with fail
     go_roundw
     case rel => exact ⟨j + 1, a4, c4, _, by omega, by go_num, rfl, HO4.out.stay HQ6.out, HG4.out.trans HQ6.out⟩
     case measure => (simp [intOf] <;> omega)
    ·obtain rfl : j = s.n := by omega
     go_wp2_with fail
     go_ret
     exact ⟨_, rfl, HGW.out.trans HG.out⟩
theorem possible_any (s : Snd) (h : Hdr) (f : Int) (w : World) (hr : RdH w s.a s.n s.c s.refs) (hn : s.n ≤ 1000) (hf : f = 1 ∨ f = 2 ∨ f = 3) : Calls Tryd.prog 40 #[SVal s, HVal h, .int .i64 f] w (PosPost w) := by
 rcases hf with rfl | rfl | rfl
 ·exact possible_1 s h w hr hn
 ·exact possible_2 s h w hr hn
 ·exact possible_3 s h w hr hn
end Go.Proofs.YtlnkofpcidngoaaDoor