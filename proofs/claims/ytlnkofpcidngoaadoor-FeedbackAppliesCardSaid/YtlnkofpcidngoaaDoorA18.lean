/- Several texts in one. -/
import Derived.Test.YtlnkofpcidngoaaDoorA0
import Derived.Test.YtlnkofpcidngoaaDoorA17
import Derived.Test.YtlnkofpcidngoaaDoorA15
import Derived.Test.YtlnkofpcidngoaaDoorA10
import Derived.Test.YtlnkofpcidngoaaDoorA11
import Derived.Deep.CutRange
/- Layer 8 (format), the reference: a packet in parts; fields. -/
namespace Go.Proofs.YtlnkofpcidngoaaDoor
open Go.ChangeShapes Go.WideShapes Go.ChangeAt Go.RowKit
structure Sml where
 ctx : Int
 fmt : Int
 num : Int
 tim : Int
 mar : Int
 idn : Int
 udp : Int
 hd : Hdr
 str : Int
 fol : Int
 chk : Int
 a : Option Addr
 n : Nat
 c : Nat
abbrev MCells (s : Sml) : List Value := [.int .i64 s.ctx, .int .i64 s.fmt, .int .i64 s.num, .int .i64 s.tim, .int .i64 s.mar, .int .i64 s.idn, .int .i64 s.udp,
 .int .i64 s.hd.kind, .int .i64 s.hd.tos, .int .i64 s.hd.id, .int .i64 s.hd.fixed, .int .i64 s.hd.ttl, .int .i64 s.hd.frm, .int .i64 s.hd.to, .int .i64 s.hd.fport, .int .i64 s.hd.tport, .int .i64 s.hd.check, .int .i64 s.hd.marker, .int .i64 s.hd.type, .int .i64 s.hd.seq, .int .i64 s.hd.time, .int .i64 s.hd.source,
 .int .i64 s.str, .int .i64 s.fol, .int .i64 s.chk, .slice s.a s.n s.c]
abbrev MVal (s : Sml) : Value := .agg #[.int .i64 s.ctx, .int .i64 s.fmt, .int .i64 s.num, .int .i64 s.tim, .int .i64 s.mar, .int .i64 s.idn, .int .i64 s.udp,
 .int .i64 s.hd.kind, .int .i64 s.hd.tos, .int .i64 s.hd.id, .int .i64 s.hd.fixed, .int .i64 s.hd.ttl, .int .i64 s.hd.frm, .int .i64 s.hd.to, .int .i64 s.hd.fport, .int .i64 s.hd.tport, .int .i64 s.hd.check, .int .i64 s.hd.marker, .int .i64 s.hd.type, .int .i64 s.hd.seq, .int .i64 s.hd.time, .int .i64 s.hd.source,
 .int .i64 s.str, .int .i64 s.fol, .int .i64 s.chk, .slice s.a s.n s.c]
def limN (f k : Int) : Int := if f = 2 then 31 else if f = 3 then (if k = 2 then 255 else 65535) else 15
def limT (f k : Int) : Int := if k = 2 then (if f = 2 then 65535 else if f = 3 then 4294967295 else 0) else 0
def limM (f k : Int) : Int := if k = 2 then (if f = 2 then 1 else if f = 3 then 1 else 0) else 0
def limI (f k : Int) : Int := if k = 2 then (if f = 3 then 65535 else 0) else 0
def limC (f : Int) : Int := if f = 2 then 127 else if f = 3 then 255 else 7
def kindH (k : Int) : Hdr := ⟨k, 0, 0, 0, 0, 0, 0, 0, 0, 0, 0, 0, 0, 0, 0⟩
structure FldOk (s : Sml) : Prop where
 fmt : s.fmt = 1 ∨ s.fmt = 2 ∨ s.fmt = 3
 kind : s.hd.kind = 1 ∨ s.hd.kind = 2
 hd : s.hd = kindH s.hd.kind
 str : s.str = 0
 fol : s.fol = 0
 udp : 0 ≤ s.udp ∧ s.udp ≤ 65535
 num : inB s.num (limN s.fmt s.hd.kind) = true
 tim : inB s.tim (limT s.fmt s.hd.kind) = true
 mar : inB s.mar (limM s.fmt s.hd.kind) = true
 idn : inB s.idn (limI s.fmt s.hd.kind) = true
 chk : inB s.chk (limC s.fmt) = true
set_option maxRecDepth 20000 in
set_option maxHeartbeats 2000000 in
theorem in8_any (n m : Int) (w : World) : Calls Tryd.prog 88 #[.int .i64 n, .int .i64 m] w fun e w' => e = .returned (.bool (inB n m)) ∧ w = w' := by
 by_cases h : 0 ≤ n
 ·have h0 : inB n m = decide (n ≤ m) := by unfold inB; rw [decide_eq_true h]; rfl
  rw [h0]
  go_enter Tryd.func88, Tryd.ntmps88
  go_wp2
  all_goals (go_ret; exact ⟨ret_bool (by simp_all), rfl⟩)
 ·have h0 : inB n m = false := by unfold inB; rw [decide_eq_false h]; rfl
  rw [h0]
  go_enter Tryd.func88, Tryd.ntmps88
  go_wp2
  all_goals (go_ret; exact ⟨ret_bool (by simp_all), rfl⟩)
theorem in8_yes {n m M : Int} (h : inB n m = true) (hM : M = m) (w : World) : Calls Tryd.prog 88 #[.int .i64 n, .int .i64 M] w fun e w' => e = .returned (.bool true) ∧ w = w' := by
 subst hM; rw [← h]; exact in8_any _ _ w
theorem run_neqH0 (k : Int) (w : World) : (binOp .neq 49 (HVal (kindH k)) (HVal (kindH k))).run Tryd.prog w = .ok (.bool false) w := by
 go_simp
theorem run_neqD0 (w : World) : (binOp .neq 43 (DVal 0 0) (DVal 0 0)).run Tryd.prog w = .ok (.bool false) w := by
 go_simp
set_option maxRecDepth 20000 in
set_option maxHeartbeats 2000000 in
theorem big_any (f : Int) (w : World) : Calls Tryd.prog 66 #[.int .i64 f] w fun e w' => e = .returned (.bool (decide (f = 4) || decide (f = 5))) ∧ w = w' := by
 by_cases h : f = 4
 ·subst h
  go_enter Tryd.func66, Tryd.ntmps66
  go_wp2
  all_goals (go_ret; exact ⟨ret_bool (by simp_all), rfl⟩)
 ·rw [decide_eq_false h, Bool.false_or]
  have hb : (f == 4) = false := by simpa using h
  go_enter Tryd.func66, Tryd.ntmps66
  go_wp2
  all_goals (go_ret; exact ⟨ret_bool (by first | rfl | simp_all), rfl⟩)
end Go.Proofs.YtlnkofpcidngoaaDoor
/- Layer 8 (format), the reference: the dynamic part of a packet. -/
namespace Go.Proofs.YtlnkofpcidngoaaDoor
open Go.ChangeShapes Go.WideShapes Go.ChangeAt Go.RowKit
def DynPost (lo hi : Nat) (w : World) (e : Ending) (w' : World) : Prop := ∃ a n cap xs, e = .returned (.slice a n cap) ∧ lo ≤ n ∧ n ≤ hi ∧ OwnI w.heap.size 5 .u8 w' a n cap xs ∧ Gr w w'
def FlRel (wb : World) (v : Value) (wc : World) : Prop := ∃ F : Int, v = .int .i64 F ∧ 0 ≤ F ∧ F ≤ 255 ∧ wc = wb
theorem smlh_rng {s : Sml} {g : Nat} {w : World} (hb : CBlk g 85 (MCells s) w) : w.rangeAt g 7 (HCells s.hd) := hb.rng 7 _ (by
 intro j v hv
 rcases j with _ | _ | _ | _ | _ | _ | _ | _ | _ | _ | _ | _ | _ | _ | _ | j
 all_goals first | exact hv | (simp at hv))
theorem dyn_rng {S F : Int} (h : dynB S F = true) : 0 ≤ S ∧ S ≤ 65535 ∧ 0 ≤ F ∧ F ≤ 1 := by
 simp only [dynB, Bool.and_eq_true, Bool.or_eq_true, decide_eq_true_eq] at h
 omega
theorem val_mark {h : Hdr} (hv : validH h = true) : (0 ≤ h.marker ∧ h.marker ≤ 1) ∧ (0 ≤ h.type ∧ h.type ≤ 127) := by
 obtain ⟨hk, _, _, _, _, _, _, _, _, _, h1, h2⟩ := valid_all hv
 rcases hk with hk | hk
 ·have := h1 hk; omega
 ·have := h2 hk; omega
set_option maxRecDepth 100000 in
set_option maxHeartbeats 4000000 in
theorem dynamic_yes (s : Sml) (w : World) (hv : validH s.hd = true) (hd : dynB s.str s.fol = true) : Calls Tryd.prog 65 #[MVal s] w (DynPost 1 30 w) := by
 obtain ⟨hk, ⟨t1, t2⟩, ⟨l1, l2⟩, ⟨i1, i2⟩, _, _, ⟨z1, z2⟩, ⟨x1, x2⟩, _, _, hk1, hk2⟩ := valid_all hv
 obtain ⟨⟨m1, m2⟩, ⟨y1, y2⟩⟩ := val_mark hv
 obtain ⟨S1, S2, F1, F2⟩ := dyn_rng hd
 have HK := zqd hk
 have HK2 := zqd hk2
 clear hv hd hk hk1 hk2
 go_enter Tryd.func65, Tryd.ntmps65
 go_upto_region 1 with (fail)
 obtain ⟨w1, hw1⟩ : ∃ y, y = w.alloc (.cells (MCells s).toArray 85) := ⟨_, rfl⟩
 have HB1 := zqd (show CBlk w.heap.size 85 (MCells s) w1 by rw [hw1]; exact CBlk.new _ _ _)
 have HG1 := zqd (show Gr w w1 by rw [hw1]; exact Gr.alloc _ _)
 simp only [MCells] at hw1
 rw [← hw1]
 clear hw1
 have HRH := zqd (smlh_rng HB1.out)
 have HZ := zqd (show CBlk w1.heap.size 49 [.int .i64 0, .int .i64 0, .int .i64 0, .int .i64 0, .int .i64 0, .int .i64 0, .int .i64 0, .int .i64 0, .int .i64 0, .int .i64 0, .int .i64 0, .int .i64 0, .int .i64 0, .int .i64 0, .int .i64 0] (w1.alloc (.cells #[.int .i64 0, .int .i64 0, .int .i64 0, .int .i64 0, .int .i64 0, .int .i64 0, .int .i64 0, .int .i64 0, .int .i64 0, .int .i64 0, .int .i64 0, .int .i64 0, .int .i64 0, .int .i64 0, .int .i64 0] 49)) from CBlk.new _ _ _)
 go_upto_region 2 with (first | (refine rng_load rfl 49 _ rfl w.heap.size 7 rfl (HCells s.hd) HRH.out Tryd.underlying49 rfl (by kernel_rfl) ?_) | (refine cblk_store rfl 49 _ _ rfl w1.heap.size (HCells s.hd) HZ.out rfl rfl rfl (by kernel_rfl) rfl ?_; intro w2 hb9 he9; have HB2 := zqd hb9; have HG2 := zqd (show Gr w1 w2 by rw [← he9]; exact gr_setCells (Gr.alloc _ _) (Nat.le_refl _) _ _); clear hb9 he9))
 have H2 := zqd (show Buf w [(w1.heap.size, 49, HCells s.hd), (w.heap.size, 85, MCells s)] none 0 0 [] w2 from (Buf.one HB1.out HG1.out).add HB2.out HG2.out (Nat.le_refl _))
 clear HZ HRH HB1 HG1 HB2 HG2
 have c3 := H2.out.at 0 rfl 3 rfl
 have c10 := H2.out.at 0 rfl 10 rfl
 have c23 := H2.out.at 1 rfl 23 rfl
 have c9 := H2.out.at 0 rfl 9 rfl
 go_upto_region 3 with (fail)
 go_upto_if 22 with (fail)
 go_cut [4] from 23 (fun v wc => FlRel w2 v wc)
 case first =>
  by_cases hz : s.hd.check = 0
  ·have hzb : (s.hd.check != 0) = false := by simpa using hz
   clear hz
   go_wp2_with fail
   go_meet
   exact ⟨_, rfl, by omega, by omega, rfl⟩
  ·have hzb : (s.hd.check != 0) = true := by simpa using hz
   clear hz
   go_wp2_with fail
   go_meet
   exact ⟨_, rfl, by omega, by omega, rfl⟩
 case rest =>
  obtain ⟨F, rfl, f1, f2, rfl⟩ := hcut
  clear c3 c10 c23 c9
  have c1 := H2.out.at 0 rfl 1 rfl
  have c4 := H2.out.at 0 rfl 4 rfl
  go_upto_region 6 with (fail)
  obtain ⟨w3, hw3⟩ : ∃ y, y = wc.alloc (.cells ([s.hd.tos, s.hd.ttl, F].map (Value.int .u8)).toArray 5) := ⟨_, rfl⟩
  have hal : Gr wc w3 := by rw [hw3]; exact Gr.alloc _ _
  have ho3 : OwnI w.heap.size 5 .u8 w3 (some ⟨wc.heap.size, 0, none⟩) 3 3 [s.hd.tos, s.hd.ttl, F] := by
   rw [hw3]
   exact own_lit _ wc [s.hd.tos, s.hd.ttl, F] 3 H2.out.gr0.size rfl (by omega) (by
    intro y hy
    simp only [List.mem_cons, List.not_mem_nil, or_false] at hy
    rcases hy with rfl | rfl | rfl <;> omega)
  have H3 := zqd (show Buf w [(w1.heap.size, 49, HCells s.hd), (w.heap.size, 85, MCells s)] (some ⟨wc.heap.size, 0, none⟩) 3 3 [s.hd.tos, s.hd.ttl, F] w3 from
   H2.out.turn ho3 (gr_any hal _) (.inr ⟨wc.heap.size, rfl, Nat.le_refl _⟩))
  simp only [List.map_cons, List.map_nil] at hw3
  first | rw [← hw3] | (go_show; fail)
  clear hw3 hal ho3 c1 c4 H2
  have c0 := H3.out.at 0 rfl 0 rfl
  rcases HK.out with hk | hk
  ·have hkb : (s.hd.kind == 1) = true := by rw [hk]; rfl
   clear hk
   have c2 := H3.out.at 0 rfl 2 rfl
   go_wp2_with fail
   refine (H3.out.put 2 2 5 _ rfl rfl (by omega) (by omega)).mono ?_
   rintro e w4 ⟨a4, cap4, rfl, hr4⟩
   have H4 := zqd hr4
   clear hr4
   go_wp2_with fail
   go_ret
   exact ⟨a4, 5, cap4, _, rfl, by omega, by omega, H4.out.own, H4.out.gr0⟩
  ·have hkb : (s.hd.kind == 1) = false := by rw [hk]; rfl
   clear hk
   have c11 := H3.out.at 0 rfl 11 rfl
   obtain ⟨a4, cap4, w4, hrun, hr4⟩ := H3.out.lit [s.hd.type] 1 4 rfl rfl (by intro z hz; simp only [List.mem_singleton] at hz; subst hz; omega) (by omega) (by omega)
   simp only [List.map_cons, List.map_nil] at hrun
   have HR := zqd hrun
   have H4 := zqd hr4
   clear hrun hr4
   go_upto_region 9 with (at_builtin; refine wpList_app rfl _ _ _ rfl rfl rfl HR.out ?_)
   clear HR c0 c11 H3
   have hI : ∀ u, Gr w4 u → u.cell? ⟨w1.heap.size, 2, none⟩ = some (.int .i64 s.hd.id) := fun u hu => ((H4).out.gr hu).at 0 rfl 2 rfl
   have hI1 : ∀ u, Gr w4 u → u.cell? ⟨w1.heap.size, 12, none⟩ = some (.int .i64 s.hd.seq) := fun u hu => ((H4).out.gr hu).at 0 rfl 12 rfl
   go_upto_region 9 with (fail)
   refine Sched2.wp_region_sched (fun u => u.cell? ⟨w1.heap.size, 2, none⟩ = some (.int .i64 s.hd.id)) [4, 5] [] [3, 6, 7] true hI (by kernel_rfl) (by kernel_rfl) ?_
   repeat (first | (refine Sched2.walk1_ord rfl ?_) | ((first | (refine Sched2.walk1_no rfl rfl rfl (fun K hK => ?_)) | (refine Sched2.walk1_gr rfl rfl rfl rfl (fun K hK => ?_); apply Exists.intro; refine ⟨fun w1 hw1 => ?_, ?_⟩; (focus (go_simp; (try go_ints); (try (simp only [IntWalk.iteOmega]; go_simp)); first | done | (with_reducible rfl) | (with_reducible exact ⟨rfl, rfl⟩)))) | (refine Sched2.walk1_late rfl rfl rfl rfl (fun K hK => ?_); apply Exists.intro; refine ⟨fun w1 hw1 => ?_, ?_⟩; (focus (go_simp; (try go_ints); (try (simp only [IntWalk.iteOmega]; go_simp)); first | done | (with_reducible rfl) | (with_reducible exact ⟨rfl, rfl⟩))))); simp only [Act.put, zqa, zqb, zqc]; refine hK _ ?_; clear hK K))
   refine Sched2.walk1_nil ?_
   intro wq hwq
   have HQ := zqd ((H4).out.gr hwq)
   clear hwq hI hI1
   dsimp only [Sched.EndN, List.nil_append, List.cons_append, Act.put]
   (try simp only [zqa, zqb, zqc])
   simp only [Sched2.lasts, List.filterMap_cons, List.filterMap_nil, List.getElem?_toArray, List.getElem?_cons_succ, List.getElem?_cons_zero]
   repeat (first | (refine Sched2.walk2_no rfl (fun K hK => ?_); simp only [Act.put, zqa, zqb, zqc]; refine hK _ ?_; clear hK K) | (refine Sched2.walk2_go rfl (fun K hK => ?_); go_simp; (try go_ints); (try (simp only [IntWalk.iteOmega]; go_simp)); first | (refine hK _ _ (by first | exact .inl ⟨rfl, rfl⟩ | exact .inr ((by assumption))) ?_; clear hK K) | (go_at_call 51; ((with_reducible refine (HQ.out.put 2 2 6 _ rfl rfl (by omega) (by omega)).mono ?_)); rintro e wm ⟨am, cm, rfl, hrm⟩; have HM := zqd hrm; have him := hrm.at 0 rfl 2 rfl; clear hrm; refine ⟨_, rfl, ?_⟩; refine hK _ _ (.inr him) ?_; clear hK K) | (go_at_call 51; ((with_reducible refine (HM.out.put 2 2 8 _ rfl rfl (by omega) (by omega)).mono ?_)); rintro e w5 ⟨a5, cap5, rfl, hrm2⟩; have H5 := zqd hrm2; have him2 := hrm2.at 0 rfl 2 rfl; clear hrm2 him; refine ⟨_, rfl, ?_⟩; refine hK _ _ (.inr him2) ?_; clear hK K him2)))
   refine Sched2.walk2_nil ?_
   clear H4 HQ HM
   have hI : ∀ u, Gr w5 u → u.cell? ⟨w.heap.size, 22, none⟩ = some (.int .i64 s.str) := fun u hu => ((H5).out.gr hu).at 1 rfl 22 rfl
   have hI1 : ∀ u, Gr w5 u → u.cell? ⟨w1.heap.size, 13, none⟩ = some (.int .i64 s.hd.time) := fun u hu => ((H5).out.gr hu).at 0 rfl 13 rfl
   go_upto_region 10 with (fail)
   refine Sched2.wp_region_sched (fun u => u.cell? ⟨w.heap.size, 22, none⟩ = some (.int .i64 s.str)) [4, 5, 6] [] [3, 7, 8] true hI (by kernel_rfl) (by kernel_rfl) ?_
   repeat (first | (refine Sched2.walk1_ord rfl ?_) | ((first | (refine Sched2.walk1_no rfl rfl rfl (fun K hK => ?_)) | (refine Sched2.walk1_gr rfl rfl rfl rfl (fun K hK => ?_); apply Exists.intro; refine ⟨fun w1 hw1 => ?_, ?_⟩; (focus (go_simp; (try go_ints); (try (simp only [IntWalk.iteOmega]; go_simp)); first | done | (with_reducible rfl) | (with_reducible exact ⟨rfl, rfl⟩)))) | (refine Sched2.walk1_late rfl rfl rfl rfl (fun K hK => ?_); apply Exists.intro; refine ⟨fun w1 hw1 => ?_, ?_⟩; (focus (go_simp; (try go_ints); (try (simp only [IntWalk.iteOmega]; go_simp)); first | done | (with_reducible rfl) | (with_reducible exact ⟨rfl, rfl⟩))))); simp only [Act.put, zqa, zqb, zqc]; refine hK _ ?_; clear hK K))
   refine Sched2.walk1_nil ?_
   intro wq hwq
   have HQ := zqd ((H5).out.gr hwq)
   clear hwq hI hI1
   dsimp only [Sched.EndN, List.nil_append, List.cons_append, Act.put]
   (try simp only [zqa, zqb, zqc])
   simp only [Sched2.lasts, List.filterMap_cons, List.filterMap_nil, List.getElem?_toArray, List.getElem?_cons_succ, List.getElem?_cons_zero]
   repeat (first | (refine Sched2.walk2_no rfl (fun K hK => ?_); simp only [Act.put, zqa, zqb, zqc]; refine hK _ ?_; clear hK K) | (refine Sched2.walk2_go rfl (fun K hK => ?_); go_simp; (try go_ints); (try (simp only [IntWalk.iteOmega]; go_simp)); first | (refine hK _ _ (by first | exact .inl ⟨rfl, rfl⟩ | exact .inr ((by assumption))) ?_; clear hK K) | (go_at_call 51; ((with_reducible refine (HQ.out.put 4 4 12 _ rfl rfl (by omega) (by omega)).mono ?_)); rintro e wm ⟨am, cm, rfl, hrm⟩; have HM := zqd hrm; have him := hrm.at 1 rfl 22 rfl; clear hrm; refine ⟨_, rfl, ?_⟩; refine hK _ _ (.inr him) ?_; clear hK K) | (go_at_call 51; ((with_reducible refine (HM.out.put 2 2 14 _ rfl rfl (by omega) (by omega)).mono ?_)); rintro e w6 ⟨a6, cap6, rfl, hrm2⟩; have H6 := zqd hrm2; have him2 := hrm2.at 1 rfl 22 rfl; clear hrm2 him; refine ⟨_, rfl, ?_⟩; refine hK _ _ (.inr him2) ?_; clear hK K him2)))
   refine Sched2.walk2_nil ?_
   clear H5 HQ HM
   go_wp2_with fail
   go_ret
   exact ⟨a6, 14, cap6, _, rfl, by omega, by omega, H6.out.own, H6.out.gr0⟩
end Go.Proofs.YtlnkofpcidngoaaDoor
