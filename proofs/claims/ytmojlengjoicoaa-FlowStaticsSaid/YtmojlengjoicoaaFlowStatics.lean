/- The law FlowStatics (layer 06): its walk. -/
import Derived.Test.YtmojlengjoicoaaFlowF
import Derived.Test.YtmojlengjoicoaaFlowX
namespace Go.Proofs.Ytmojlengjoicoaa
open Go.ChangeShapes Go.WideShapes Go.ChangeAt Go.RowKit

theorem eq_selfs (R : Hdr) (u : World) : (binOp .eql 29 (HVal R) (HVal R)).run Try.prog u = .ok (.bool true) u := by rw [run_eqH, eqH_refl]
theorem same_self (a c : Hdr) (h : statH c = statH a) : sameB a c = true := by
  rw [← stat_eq, h, eqH_refl]
theorem same_port {a b : Hdr} (h : a.tport ≠ b.tport) : sameB a b = false := by simp [sameB, h]
theorem ch_self (a : Hdr) : chH a a = 0 := by simp [chH, ch5]
theorem ch_comm (a b : Hdr) : chH a b = chH b a := by
  have e (x y : Int) : (x != y) = (y != x) := by rw [Bool.eq_iff_iff]; simp; exact ⟨fun h k => h k.symm, fun h k => h k.symm⟩
  have e2 (x y : Bool) : (x != y) = (y != x) := by cases x <;> cases y <;> rfl
  unfold chH
  rw [e a.tos, e a.ttl, e a.fixed, e a.type, e2 (a.check == 0)]
theorem ch_fol {a : Hdr} {s c : Int} (hc : ChkOk a c) : chH a (folH a s c) = 0 := by
  obtain ⟨_, h1, h2⟩ := hc
  have e : ((a.check == 0) != (c == 0)) = false := by
    by_cases h : a.check = 0
    · rw [h, h1 h]; rfl
    · rw [beq_false_of_ne h, beq_false_of_ne (h2 h)]; rfl
  unfold chH folH
  split <;> simp [ch5, e]
theorem made_rng {fl : Int} {h : Hdr} (hm : MadeH fl h) (h0 : 0 ≤ fl) (h1 : fl ≤ 10) : RngH h := by
  have ho := made_ok hm h0 h1
  obtain ⟨k, t, i, f, l, fr, tt, fp, tp, c, r⟩ := hm
  refine ⟨ho, i, c, ?_, ?_⟩ <;> (rcases r with ⟨r0, r1, r2, r3, r4, r5⟩ | ⟨r0, r1, r2, r3, r4, r5⟩ <;> omega)
set_option maxRecDepth 100000 in
set_option maxHeartbeats 4000000 in
theorem statics_walk (a : Option Addr) (len cap : Nat) (ts : List Int) (reg : Bool) (w : World) (hr : Rd .i64 w a len ts) : Calls Try.prog 7 #[.slice a len cap, .bool reg] w fun e w' => e = .returned (.bool true) ∧ Gr w w' := by
  have hm : len ≤ 9223372036854775807 := by have := hr.2.2.1; simp only [maxLen] at this; omega
  have HR := Lib.hid hr
  clear hr
  go_enter Try.func7, Try.ntmps7
  by_cases hlen : len ≤ 400
  rotate_left
  · have hld : decide (len ≤ 400) = false := decide_eq_false hlen
    go_wp2_with ((go_at_call 14; refine (light_any _ _ _ _ hm).mono ?_; rintro e w' ⟨rfl, rfl⟩))
    refine (awake06 w).mono ?_
    rintro e w2 ⟨rfl, hg2⟩
    have HG2 := Lib.hid hg2
    clear hg2
    go_wp2_with fail
    go_ret
    exact ⟨rfl, HG2.out⟩
  have hld : decide (len ≤ 400) = true := decide_eq_true hlen
  go_wp2_with ((go_at_call 14; refine (light_any _ _ _ _ hm).mono ?_; rintro e w' ⟨rfl, rfl⟩))
  refine (roll_any a len cap ts w HR.out).mono ?_
  rintro e w2 ⟨p, rfl, hd2, hg2, hp2⟩
  have HD2 := Lib.hid hd2
  have HG2 := Lib.hid hg2
  clear hd2 hg2 hld
  go_wp2_with fail
  refine (next_any p 4 _ HD2.out (by omega) (by omega)).mono ?_
  rintro e w3 ⟨fl, rfl, fl1, fl2, hd3, hg3⟩
  have HD3 := Lib.hid hd3
  have HX3 := Lib.hid hg3
  clear hd3 hg3
  go_wp2_with fail
  refine (header_any p fl w3 HD3.out fl1 (by omega)).mono ?_
  rintro e w4 ⟨A, rfl, hmade, hd4, hg4⟩
  have HMA := Lib.hid hmade
  have HD4 := Lib.hid hd4
  have HX4 := Lib.hid (grown_trans' HX3.out hg4)
  clear hd4 hg4 hmade
  go_wp2_with fail
  refine (next_any p 3 _ HD4.out (by omega) (by omega)).mono ?_
  rintro e w5 ⟨u, rfl, u1, u2, hd5, hg5⟩
  have HD5 := Lib.hid hd5
  have HX5 := Lib.hid (grown_trans' HX4.out hg5)
  clear hd5 hg5
  go_wp2_with fail
  refine (header_any p (fl + 1 + u) w5 HD5.out (by omega) (by omega)).mono ?_
  rintro e w6 ⟨B, rfl, hmade, hd6, hg6⟩
  have HMB := Lib.hid hmade
  have HD6 := Lib.hid hd6
  have HX6 := Lib.hid (grown_trans' HX5.out hg6)
  clear hd6 hg6 hmade
  go_upto_region 6 with (fail)
  obtain ⟨w7, hw7⟩ : ∃ y, y = (w6.alloc (.cells (HCells A).toArray 29)).alloc (.cells (HCells B).toArray 29) := ⟨_, rfl⟩
  have hra : HBlk w6.heap.size A w7 := by rw [hw7]; exact HBlk.kept (show HBlk w6.heap.size A (w6.alloc _) from heap_alloc_new _ _) (Gr.alloc _ _)
  have hrb : HBlk (w6.heap.size + 1) B w7 := by rw [hw7]; exact heap_two w6 _ _
  have hg7 : Gr w6 w7 := by rw [hw7]; exact (Gr.alloc _ _).trans (Gr.alloc _ _)
  simp only [HCells] at hw7
  rw [← hw7]
  have HA7 := Lib.hid hra
  have HB7 := Lib.hid hrb
  have HD7 := Lib.hid (HD6.out.kept hg7 (by simp))
  have HX7 := Lib.hid (grown_trans' HX6.out (grown_weak hg7 _))
  have hp6 : p < w6.heap.size := HD6.out.lt
  have ha7' := hra
  unfold HBlk at ha7'
  have HA7' := Lib.hid ha7'
  clear hw7 hra hrb hg7 ha7'
  go_wp2_with (first | (refine wpList_load_w rfl 29 _ rfl w6.heap.size rfl 29 _ _ _ HA7'.out Try.underlying29 rfl (by kernel_rfl) ?_))
  refine (follow_any p A reg w7 HD7.out (made_rng HMA.out fl1 (by omega))).mono ?_
  rintro e w8 ⟨C, rfl, hst, -, hreg, hd8, hg8⟩
  have HST := Lib.hid hst
  have HREG := Lib.hid hreg
  have HA8 := Lib.hid (HA7.out.dice hg8 (by omega))
  have HB8 := Lib.hid (HB7.out.dice hg8 (by omega))
  have HX8 := Lib.hid (grown_trans' HX7.out hg8)
  have h68 : w6.heap.size + 2 ≤ w8.heap.size := by
    have := heap_lt HB8.out; omega
  clear hst hreg hd8 hg8 HA7'
  go_upto_region 7 with (fail)
  obtain ⟨w9, hw9⟩ : ∃ y, y = w8.alloc (.cells (HCells C).toArray 29) := ⟨_, rfl⟩
  have hrc : HBlk w8.heap.size C w9 := by rw [hw9]; exact heap_alloc_new _ _
  have hg9 : Gr w8 w9 := by rw [hw9]; exact Gr.alloc _ _
  simp only [HCells] at hw9
  rw [← hw9]
  have HC9 := Lib.hid hrc
  have HA9 := Lib.hid (HA8.out.kept hg9)
  have HB9 := Lib.hid (HB8.out.kept hg9)
  have HX9 := Lib.hid (grown_trans' HX8.out (grown_weak hg9 _))
  have ha9' := HA9.out
  unfold HBlk at ha9'
  have HA9' := Lib.hid ha9'
  clear hw9 hrc hg9 ha9'
  obtain ⟨S, hS⟩ : ∃ S, statH A = S := ⟨_, rfl⟩
  have HS := Lib.hid hS
  clear hS
  go_wp2_with (first | (refine wpList_load_w rfl 29 _ rfl w6.heap.size rfl 29 _ _ _ HA9'.out Try.underlying29 rfl (by kernel_rfl) ?_))
  refine (stat_is HS.out w9).mono ?_
  rintro e w10 ⟨rfl, hg10⟩
  have HA10 := Lib.hid (HA9.out.kept hg10)
  have HB10 := Lib.hid (HB9.out.kept hg10)
  have HC10 := Lib.hid (HC9.out.kept hg10)
  have HX10 := Lib.hid (grown_trans' HX9.out (grown_weak hg10 _))
  clear hg10 HA9'
  go_upto_region 8 with (fail)
  obtain ⟨w11, hw11⟩ : ∃ y, y = w10.alloc (.cells (HCells S).toArray 29) := ⟨_, rfl⟩
  have hrs : HBlk w10.heap.size S w11 := by rw [hw11]; exact heap_alloc_new _ _
  have hg11 : Gr w10 w11 := by rw [hw11]; exact Gr.alloc _ _
  simp only [HCells] at hw11
  rw [← hw11]
  have HAK := Lib.hid (fun u (hu : Gr w11 u) => HA10.out.kept (hg11.trans hu))
  have HBK := Lib.hid (fun u (hu : Gr w11 u) => HB10.out.kept (hg11.trans hu))
  have HCK := Lib.hid (fun u (hu : Gr w11 u) => HC10.out.kept (hg11.trans hu))
  have HSK := Lib.hid (fun u (hu : Gr w11 u) => hrs.kept hu)
  have HG11 := Lib.hid (show Gr w w11 from grownBy_trans HG2.out (grown_trans' HX10.out (grown_weak hg11 _)) (.inr (.inr ⟨p, rfl, hp2⟩)))
  clear hw11 hrs hg11
  have sac := Lib.hid (same_self A C HST.out)
  have sab := Lib.hid (same_port (a := A) (b := B) (by have x := HMA.out.tport; have y := HMB.out.tport; omega))
  have sss := Lib.hid (show statH S = S by rw [← HS.out]; rfl)
  have sas := Lib.hid (same_self A S (by rw [sss.out, HS.out]))
  have scs := Lib.hid (show statH C = S by rw [HST.out, HS.out])
  have caa := Lib.hid (ch_self A)
  obtain ⟨X, hX⟩ : ∃ X, chH A C = X := ⟨_, rfl⟩
  have cac := Lib.hid hX
  have cca := Lib.hid (show chH C A = X by rw [ch_comm]; exact hX)
  have hX0 : reg = true → X = 0 := by
    intro h
    obtain ⟨c, hc, rfl⟩ := HREG.out h
    rw [← hX]; exact ch_fol hc
  have HX0 := Lib.hid hX0
  clear hX hX0
  have he := eq_selfs S
  refine Sched.wp_region_sched 54 [] [] (by kernel_rfl) (by kernel_rfl) ?_
  simp only [List.take_succ_cons, List.take_zero, List.drop_succ_cons, List.drop_zero]
  repeat (first | ((with_reducible refine Sched.walk1_no ?_ ?_ (fun K hK => ?_)); (focus rfl); (focus rfl); simp only [Act.put, List.setIfInBounds_toArray, List.set_cons_zero, List.set_cons_succ]; refine hK _ ?_; clear hK K) | ((with_reducible refine Sched.walk1_gr ?_ ?_ ?_ (fun K hK => ?_)); (focus rfl); (focus rfl); (focus rfl); apply Exists.intro; refine ⟨fun w1 hw1 => ?_, ?_⟩; (focus (go_simp; (try go_ints); (try (simp only [IntWalk.iteOmega]; go_simp)); first | done | (go_at_call 15; (with_reducible exact awake06 _)) | (with_reducible rfl) | (with_reducible exact ⟨rfl, rfl⟩))); simp only [Act.put, List.setIfInBounds_toArray, List.set_cons_zero, List.set_cons_succ]; refine hK _ ?_; clear hK K) | ((with_reducible refine Sched.walk1_pure ?_ ?_ ?_ (fun K hK => ?_)); (focus rfl); (focus rfl); (focus rfl); apply Exists.intro; refine ⟨fun w1 => ?_, ?_⟩; (focus (go_simp; (try go_ints); (try (simp only [IntWalk.iteOmega]; go_simp)); first | done | (with_reducible rfl) | (with_reducible exact ⟨rfl, rfl⟩))); simp only [Act.put, List.setIfInBounds_toArray, List.set_cons_zero, List.set_cons_succ]; refine hK _ ?_; clear hK K) | (refine Sched.walk1_box rfl rfl ?_; apply Exists.intro; refine ⟨fun w1 hw1 => ?_, ?_⟩; (focus (go_simp; exact ⟨Gr.alloc _ _, rfl, by simp, heap_alloc_new _ _⟩))))
  refine Sched.walk1_gr rfl rfl rfl (fun K hK => ?_)
  refine ⟨HVal A, fun w1 hw1 => (HAK.out w1 hw1).load _ rfl rfl, ?_⟩
  simp only [Act.put, List.setIfInBounds_toArray, List.set_cons_zero, List.set_cons_succ]
  refine hK _ ?_
  clear hK K
  refine Sched.walk1_gr rfl rfl rfl (fun K hK => ?_)
  refine ⟨HVal C, fun w1 hw1 => (HCK.out w1 hw1).load _ rfl rfl, ?_⟩
  simp only [Act.put, List.setIfInBounds_toArray, List.set_cons_zero, List.set_cons_succ]
  refine hK _ ?_
  clear hK K
  repeat (first | ((with_reducible refine Sched.walk1_no ?_ ?_ (fun K hK => ?_)); (focus rfl); (focus rfl); simp only [Act.put, List.setIfInBounds_toArray, List.set_cons_zero, List.set_cons_succ]; refine hK _ ?_; clear hK K) | ((with_reducible refine Sched.walk1_gr ?_ ?_ ?_ (fun K hK => ?_)); (focus rfl); (focus rfl); (focus rfl); apply Exists.intro; refine ⟨fun w1 hw1 => ?_, ?_⟩; (focus (go_simp; (try go_ints); (try (simp only [IntWalk.iteOmega]; go_simp)); first | done | (go_at_call 25; (with_reducible exact same_is sac.out _)) | (with_reducible rfl) | (with_reducible exact ⟨rfl, rfl⟩))); simp only [Act.put, List.setIfInBounds_toArray, List.set_cons_zero, List.set_cons_succ]; refine hK _ ?_; clear hK K) | ((with_reducible refine Sched.walk1_pure ?_ ?_ ?_ (fun K hK => ?_)); (focus rfl); (focus rfl); (focus rfl); apply Exists.intro; refine ⟨fun w1 => ?_, ?_⟩; (focus (go_simp; (try go_ints); (try (simp only [IntWalk.iteOmega]; go_simp)); first | done | (with_reducible rfl) | (with_reducible exact ⟨rfl, rfl⟩))); simp only [Act.put, List.setIfInBounds_toArray, List.set_cons_zero, List.set_cons_succ]; refine hK _ ?_; clear hK K) | (refine Sched.walk1_box rfl rfl ?_; apply Exists.intro; refine ⟨fun w1 hw1 => ?_, ?_⟩; (focus (go_simp; exact ⟨Gr.alloc _ _, rfl, by simp, heap_alloc_new _ _⟩))))
  refine Sched.walk1_gr rfl rfl rfl (fun K hK => ?_)
  refine ⟨HVal A, fun w1 hw1 => (HAK.out w1 hw1).load _ rfl rfl, ?_⟩
  simp only [Act.put, List.setIfInBounds_toArray, List.set_cons_zero, List.set_cons_succ]
  refine hK _ ?_
  clear hK K
  refine Sched.walk1_gr rfl rfl rfl (fun K hK => ?_)
  refine ⟨HVal B, fun w1 hw1 => (HBK.out w1 hw1).load _ rfl rfl, ?_⟩
  simp only [Act.put, List.setIfInBounds_toArray, List.set_cons_zero, List.set_cons_succ]
  refine hK _ ?_
  clear hK K
  repeat (first | ((with_reducible refine Sched.walk1_no ?_ ?_ (fun K hK => ?_)); (focus rfl); (focus rfl); simp only [Act.put, List.setIfInBounds_toArray, List.set_cons_zero, List.set_cons_succ]; refine hK _ ?_; clear hK K) | ((with_reducible refine Sched.walk1_gr ?_ ?_ ?_ (fun K hK => ?_)); (focus rfl); (focus rfl); (focus rfl); apply Exists.intro; refine ⟨fun w1 hw1 => ?_, ?_⟩; (focus (go_simp; (try go_ints); (try (simp only [IntWalk.iteOmega]; go_simp)); first | done | (go_at_call 25; (with_reducible exact same_is sab.out _)) | (with_reducible rfl) | (with_reducible exact ⟨rfl, rfl⟩))); simp only [Act.put, List.setIfInBounds_toArray, List.set_cons_zero, List.set_cons_succ]; refine hK _ ?_; clear hK K) | ((with_reducible refine Sched.walk1_pure ?_ ?_ ?_ (fun K hK => ?_)); (focus rfl); (focus rfl); (focus rfl); apply Exists.intro; refine ⟨fun w1 => ?_, ?_⟩; (focus (go_simp; (try go_ints); (try (simp only [IntWalk.iteOmega]; go_simp)); first | done | (with_reducible rfl) | (with_reducible exact ⟨rfl, rfl⟩))); simp only [Act.put, List.setIfInBounds_toArray, List.set_cons_zero, List.set_cons_succ]; refine hK _ ?_; clear hK K) | (refine Sched.walk1_box rfl rfl ?_; apply Exists.intro; refine ⟨fun w1 hw1 => ?_, ?_⟩; (focus (go_simp; exact ⟨Gr.alloc _ _, rfl, by simp, heap_alloc_new _ _⟩))))
  refine Sched.walk1_gr rfl rfl rfl (fun K hK => ?_)
  refine ⟨HVal S, fun w1 hw1 => (HSK.out w1 hw1).load _ rfl rfl, ?_⟩
  simp only [Act.put, List.setIfInBounds_toArray, List.set_cons_zero, List.set_cons_succ]
  refine hK _ ?_
  clear hK K
  repeat (first | ((with_reducible refine Sched.walk1_no ?_ ?_ (fun K hK => ?_)); (focus rfl); (focus rfl); simp only [Act.put, List.setIfInBounds_toArray, List.set_cons_zero, List.set_cons_succ]; refine hK _ ?_; clear hK K) | ((with_reducible refine Sched.walk1_gr ?_ ?_ ?_ (fun K hK => ?_)); (focus rfl); (focus rfl); (focus rfl); apply Exists.intro; refine ⟨fun w1 hw1 => ?_, ?_⟩; (focus (go_simp; (try go_ints); (try (simp only [IntWalk.iteOmega]; go_simp)); first | done | (go_at_call 27; (with_reducible exact stat_is sss.out _)) | (with_reducible rfl) | (with_reducible exact ⟨rfl, rfl⟩))); simp only [Act.put, List.setIfInBounds_toArray, List.set_cons_zero, List.set_cons_succ]; refine hK _ ?_; clear hK K) | ((with_reducible refine Sched.walk1_pure ?_ ?_ ?_ (fun K hK => ?_)); (focus rfl); (focus rfl); (focus rfl); apply Exists.intro; refine ⟨fun w1 => ?_, ?_⟩; (focus (go_simp; (try go_ints); (try (simp only [IntWalk.iteOmega]; go_simp)); first | done | (with_reducible rfl) | (with_reducible exact ⟨rfl, rfl⟩))); simp only [Act.put, List.setIfInBounds_toArray, List.set_cons_zero, List.set_cons_succ]; refine hK _ ?_; clear hK K) | (refine Sched.walk1_box rfl rfl ?_; apply Exists.intro; refine ⟨fun w1 hw1 => ?_, ?_⟩; (focus (go_simp; exact ⟨Gr.alloc _ _, rfl, by simp, heap_alloc_new _ _⟩))))
  refine Sched.walk1_gr rfl rfl rfl (fun K hK => ?_)
  refine ⟨HVal S, fun w1 hw1 => (HSK.out w1 hw1).load _ rfl rfl, ?_⟩
  simp only [Act.put, List.setIfInBounds_toArray, List.set_cons_zero, List.set_cons_succ]
  refine hK _ ?_
  clear hK K
  repeat (first | ((with_reducible refine Sched.walk1_no ?_ ?_ (fun K hK => ?_)); (focus rfl); (focus rfl); simp only [Act.put, List.setIfInBounds_toArray, List.set_cons_zero, List.set_cons_succ]; refine hK _ ?_; clear hK K) | ((with_reducible refine Sched.walk1_gr ?_ ?_ ?_ (fun K hK => ?_)); (focus rfl); (focus rfl); (focus rfl); apply Exists.intro; refine ⟨fun w1 hw1 => ?_, ?_⟩; (focus (go_simp; (try go_ints); (try (simp only [IntWalk.iteOmega]; go_simp)); first | done | fail | (with_reducible rfl) | (with_reducible exact ⟨rfl, rfl⟩))); simp only [Act.put, List.setIfInBounds_toArray, List.set_cons_zero, List.set_cons_succ]; refine hK _ ?_; clear hK K) | ((with_reducible refine Sched.walk1_pure ?_ ?_ ?_ (fun K hK => ?_)); (focus rfl); (focus rfl); (focus rfl); apply Exists.intro; refine ⟨fun w1 => ?_, ?_⟩; (focus (go_simp; (try go_ints); (try (simp only [IntWalk.iteOmega]; go_simp)); first | done | (with_reducible rfl) | (with_reducible exact ⟨rfl, rfl⟩))); simp only [Act.put, List.setIfInBounds_toArray, List.set_cons_zero, List.set_cons_succ]; refine hK _ ?_; clear hK K) | (refine Sched.walk1_box rfl rfl ?_; apply Exists.intro; refine ⟨fun w1 hw1 => ?_, ?_⟩; (focus (go_simp; exact ⟨Gr.alloc _ _, rfl, by simp, heap_alloc_new _ _⟩))))
  refine Sched.walk1_gr rfl rfl rfl (fun K hK => ?_)
  refine ⟨HVal A, fun w1 hw1 => (HAK.out w1 hw1).load _ rfl rfl, ?_⟩
  simp only [Act.put, List.setIfInBounds_toArray, List.set_cons_zero, List.set_cons_succ]
  refine hK _ ?_
  clear hK K
  refine Sched.walk1_gr rfl rfl rfl (fun K hK => ?_)
  refine ⟨HVal S, fun w1 hw1 => (HSK.out w1 hw1).load _ rfl rfl, ?_⟩
  simp only [Act.put, List.setIfInBounds_toArray, List.set_cons_zero, List.set_cons_succ]
  refine hK _ ?_
  clear hK K
  repeat (first | ((with_reducible refine Sched.walk1_no ?_ ?_ (fun K hK => ?_)); (focus rfl); (focus rfl); simp only [Act.put, List.setIfInBounds_toArray, List.set_cons_zero, List.set_cons_succ]; refine hK _ ?_; clear hK K) | ((with_reducible refine Sched.walk1_gr ?_ ?_ ?_ (fun K hK => ?_)); (focus rfl); (focus rfl); (focus rfl); apply Exists.intro; refine ⟨fun w1 hw1 => ?_, ?_⟩; (focus (go_simp; (try go_ints); (try (simp only [IntWalk.iteOmega]; go_simp)); first | done | (go_at_call 25; (with_reducible exact same_is sas.out _)) | (with_reducible rfl) | (with_reducible exact ⟨rfl, rfl⟩))); simp only [Act.put, List.setIfInBounds_toArray, List.set_cons_zero, List.set_cons_succ]; refine hK _ ?_; clear hK K) | ((with_reducible refine Sched.walk1_pure ?_ ?_ ?_ (fun K hK => ?_)); (focus rfl); (focus rfl); (focus rfl); apply Exists.intro; refine ⟨fun w1 => ?_, ?_⟩; (focus (go_simp; (try go_ints); (try (simp only [IntWalk.iteOmega]; go_simp)); first | done | (with_reducible rfl) | (with_reducible exact ⟨rfl, rfl⟩))); simp only [Act.put, List.setIfInBounds_toArray, List.set_cons_zero, List.set_cons_succ]; refine hK _ ?_; clear hK K) | (refine Sched.walk1_box rfl rfl ?_; apply Exists.intro; refine ⟨fun w1 hw1 => ?_, ?_⟩; (focus (go_simp; exact ⟨Gr.alloc _ _, rfl, by simp, heap_alloc_new _ _⟩))))
  refine Sched.walk1_gr rfl rfl rfl (fun K hK => ?_)
  refine ⟨HVal C, fun w1 hw1 => (HCK.out w1 hw1).load _ rfl rfl, ?_⟩
  simp only [Act.put, List.setIfInBounds_toArray, List.set_cons_zero, List.set_cons_succ]
  refine hK _ ?_
  clear hK K
  repeat (first | ((with_reducible refine Sched.walk1_no ?_ ?_ (fun K hK => ?_)); (focus rfl); (focus rfl); simp only [Act.put, List.setIfInBounds_toArray, List.set_cons_zero, List.set_cons_succ]; refine hK _ ?_; clear hK K) | ((with_reducible refine Sched.walk1_gr ?_ ?_ ?_ (fun K hK => ?_)); (focus rfl); (focus rfl); (focus rfl); apply Exists.intro; refine ⟨fun w1 hw1 => ?_, ?_⟩; (focus (go_simp; (try go_ints); (try (simp only [IntWalk.iteOmega]; go_simp)); first | done | (go_at_call 27; (with_reducible exact stat_is scs.out _)) | (with_reducible rfl) | (with_reducible exact ⟨rfl, rfl⟩))); simp only [Act.put, List.setIfInBounds_toArray, List.set_cons_zero, List.set_cons_succ]; refine hK _ ?_; clear hK K) | ((with_reducible refine Sched.walk1_pure ?_ ?_ ?_ (fun K hK => ?_)); (focus rfl); (focus rfl); (focus rfl); apply Exists.intro; refine ⟨fun w1 => ?_, ?_⟩; (focus (go_simp; (try go_ints); (try (simp only [IntWalk.iteOmega]; go_simp)); first | done | (with_reducible rfl) | (with_reducible exact ⟨rfl, rfl⟩))); simp only [Act.put, List.setIfInBounds_toArray, List.set_cons_zero, List.set_cons_succ]; refine hK _ ?_; clear hK K) | (refine Sched.walk1_box rfl rfl ?_; apply Exists.intro; refine ⟨fun w1 hw1 => ?_, ?_⟩; (focus (go_simp; exact ⟨Gr.alloc _ _, rfl, by simp, heap_alloc_new _ _⟩))))
  refine Sched.walk1_gr rfl rfl rfl (fun K hK => ?_)
  refine ⟨HVal S, fun w1 hw1 => (HSK.out w1 hw1).load _ rfl rfl, ?_⟩
  simp only [Act.put, List.setIfInBounds_toArray, List.set_cons_zero, List.set_cons_succ]
  refine hK _ ?_
  clear hK K
  repeat (first | ((with_reducible refine Sched.walk1_no ?_ ?_ (fun K hK => ?_)); (focus rfl); (focus rfl); simp only [Act.put, List.setIfInBounds_toArray, List.set_cons_zero, List.set_cons_succ]; refine hK _ ?_; clear hK K) | ((with_reducible refine Sched.walk1_gr ?_ ?_ ?_ (fun K hK => ?_)); (focus rfl); (focus rfl); (focus rfl); apply Exists.intro; refine ⟨fun w1 hw1 => ?_, ?_⟩; (focus (go_simp; (try go_ints); (try (simp only [IntWalk.iteOmega]; go_simp)); first | done | fail | (with_reducible rfl) | (with_reducible exact ⟨rfl, rfl⟩))); simp only [Act.put, List.setIfInBounds_toArray, List.set_cons_zero, List.set_cons_succ]; refine hK _ ?_; clear hK K) | ((with_reducible refine Sched.walk1_pure ?_ ?_ ?_ (fun K hK => ?_)); (focus rfl); (focus rfl); (focus rfl); apply Exists.intro; refine ⟨fun w1 => ?_, ?_⟩; (focus (go_simp; (try go_ints); (try (simp only [IntWalk.iteOmega]; go_simp)); first | done | (with_reducible rfl) | (with_reducible exact ⟨rfl, rfl⟩))); simp only [Act.put, List.setIfInBounds_toArray, List.set_cons_zero, List.set_cons_succ]; refine hK _ ?_; clear hK K) | (refine Sched.walk1_box rfl rfl ?_; apply Exists.intro; refine ⟨fun w1 hw1 => ?_, ?_⟩; (focus (go_simp; exact ⟨Gr.alloc _ _, rfl, by simp, heap_alloc_new _ _⟩))))
  refine Sched.walk1_gr rfl rfl rfl (fun K hK => ?_)
  refine ⟨HVal A, fun w1 hw1 => (HAK.out w1 hw1).load _ rfl rfl, ?_⟩
  simp only [Act.put, List.setIfInBounds_toArray, List.set_cons_zero, List.set_cons_succ]
  refine hK _ ?_
  clear hK K
  refine Sched.walk1_gr rfl rfl rfl (fun K hK => ?_)
  refine ⟨HVal A, fun w1 hw1 => (HAK.out w1 hw1).load _ rfl rfl, ?_⟩
  simp only [Act.put, List.setIfInBounds_toArray, List.set_cons_zero, List.set_cons_succ]
  refine hK _ ?_
  clear hK K
  repeat (first | ((with_reducible refine Sched.walk1_no ?_ ?_ (fun K hK => ?_)); (focus rfl); (focus rfl); simp only [Act.put, List.setIfInBounds_toArray, List.set_cons_zero, List.set_cons_succ]; refine hK _ ?_; clear hK K) | ((with_reducible refine Sched.walk1_gr ?_ ?_ ?_ (fun K hK => ?_)); (focus rfl); (focus rfl); (focus rfl); apply Exists.intro; refine ⟨fun w1 hw1 => ?_, ?_⟩; (focus (go_simp; (try go_ints); (try (simp only [IntWalk.iteOmega]; go_simp)); first | done | (go_at_call 30; (with_reducible exact chg_is caa.out _)) | (with_reducible rfl) | (with_reducible exact ⟨rfl, rfl⟩))); simp only [Act.put, List.setIfInBounds_toArray, List.set_cons_zero, List.set_cons_succ]; refine hK _ ?_; clear hK K) | ((with_reducible refine Sched.walk1_pure ?_ ?_ ?_ (fun K hK => ?_)); (focus rfl); (focus rfl); (focus rfl); apply Exists.intro; refine ⟨fun w1 => ?_, ?_⟩; (focus (go_simp; (try go_ints); (try (simp only [IntWalk.iteOmega]; go_simp)); first | done | (with_reducible rfl) | (with_reducible exact ⟨rfl, rfl⟩))); simp only [Act.put, List.setIfInBounds_toArray, List.set_cons_zero, List.set_cons_succ]; refine hK _ ?_; clear hK K) | (refine Sched.walk1_box rfl rfl ?_; apply Exists.intro; refine ⟨fun w1 hw1 => ?_, ?_⟩; (focus (go_simp; exact ⟨Gr.alloc _ _, rfl, by simp, heap_alloc_new _ _⟩))))
  refine Sched.walk1_gr rfl rfl rfl (fun K hK => ?_)
  refine ⟨HVal A, fun w1 hw1 => (HAK.out w1 hw1).load _ rfl rfl, ?_⟩
  simp only [Act.put, List.setIfInBounds_toArray, List.set_cons_zero, List.set_cons_succ]
  refine hK _ ?_
  clear hK K
  refine Sched.walk1_gr rfl rfl rfl (fun K hK => ?_)
  refine ⟨HVal C, fun w1 hw1 => (HCK.out w1 hw1).load _ rfl rfl, ?_⟩
  simp only [Act.put, List.setIfInBounds_toArray, List.set_cons_zero, List.set_cons_succ]
  refine hK _ ?_
  clear hK K
  repeat (first | ((with_reducible refine Sched.walk1_no ?_ ?_ (fun K hK => ?_)); (focus rfl); (focus rfl); simp only [Act.put, List.setIfInBounds_toArray, List.set_cons_zero, List.set_cons_succ]; refine hK _ ?_; clear hK K) | ((with_reducible refine Sched.walk1_gr ?_ ?_ ?_ (fun K hK => ?_)); (focus rfl); (focus rfl); (focus rfl); apply Exists.intro; refine ⟨fun w1 hw1 => ?_, ?_⟩; (focus (go_simp; (try go_ints); (try (simp only [IntWalk.iteOmega]; go_simp)); first | done | (go_at_call 30; (with_reducible exact chg_is cac.out _)) | (with_reducible rfl) | (with_reducible exact ⟨rfl, rfl⟩))); simp only [Act.put, List.setIfInBounds_toArray, List.set_cons_zero, List.set_cons_succ]; refine hK _ ?_; clear hK K) | ((with_reducible refine Sched.walk1_pure ?_ ?_ ?_ (fun K hK => ?_)); (focus rfl); (focus rfl); (focus rfl); apply Exists.intro; refine ⟨fun w1 => ?_, ?_⟩; (focus (go_simp; (try go_ints); (try (simp only [IntWalk.iteOmega]; go_simp)); first | done | (with_reducible rfl) | (with_reducible exact ⟨rfl, rfl⟩))); simp only [Act.put, List.setIfInBounds_toArray, List.set_cons_zero, List.set_cons_succ]; refine hK _ ?_; clear hK K) | (refine Sched.walk1_box rfl rfl ?_; apply Exists.intro; refine ⟨fun w1 hw1 => ?_, ?_⟩; (focus (go_simp; exact ⟨Gr.alloc _ _, rfl, by simp, heap_alloc_new _ _⟩))))
  refine Sched.walk1_gr rfl rfl rfl (fun K hK => ?_)
  refine ⟨HVal C, fun w1 hw1 => (HCK.out w1 hw1).load _ rfl rfl, ?_⟩
  simp only [Act.put, List.setIfInBounds_toArray, List.set_cons_zero, List.set_cons_succ]
  refine hK _ ?_
  clear hK K
  refine Sched.walk1_gr rfl rfl rfl (fun K hK => ?_)
  refine ⟨HVal A, fun w1 hw1 => (HAK.out w1 hw1).load _ rfl rfl, ?_⟩
  simp only [Act.put, List.setIfInBounds_toArray, List.set_cons_zero, List.set_cons_succ]
  refine hK _ ?_
  clear hK K
  cases reg
  · repeat (first | ((with_reducible refine Sched.walk1_no ?_ ?_ (fun K hK => ?_)); (focus rfl); (focus rfl); simp only [Act.put, List.setIfInBounds_toArray, List.set_cons_zero, List.set_cons_succ]; refine hK _ ?_; clear hK K) | ((with_reducible refine Sched.walk1_gr ?_ ?_ ?_ (fun K hK => ?_)); (focus rfl); (focus rfl); (focus rfl); apply Exists.intro; refine ⟨fun w1 hw1 => ?_, ?_⟩; (focus (go_simp; (try go_ints); (try (simp only [IntWalk.iteOmega]; go_simp)); first | done | (go_at_call 30; (with_reducible exact chg_is cca.out _)) | (with_reducible rfl) | (with_reducible exact ⟨rfl, rfl⟩))); simp only [Act.put, List.setIfInBounds_toArray, List.set_cons_zero, List.set_cons_succ]; refine hK _ ?_; clear hK K) | ((with_reducible refine Sched.walk1_pure ?_ ?_ ?_ (fun K hK => ?_)); (focus rfl); (focus rfl); (focus rfl); apply Exists.intro; refine ⟨fun w1 => ?_, ?_⟩; (focus (go_simp; (try go_ints); (try (simp only [IntWalk.iteOmega]; go_simp)); first | done | (with_reducible rfl) | (with_reducible exact ⟨rfl, rfl⟩))); simp only [Act.put, List.setIfInBounds_toArray, List.set_cons_zero, List.set_cons_succ]; refine hK _ ?_; clear hK K) | (refine Sched.walk1_box rfl rfl ?_; apply Exists.intro; refine ⟨fun w1 hw1 => ?_, ?_⟩; (focus (go_simp; exact ⟨Gr.alloc _ _, rfl, by simp, heap_alloc_new _ _⟩))))
    refine Sched.walk1_nil ?_
    intro wq hwq
    have HGQ := Lib.hid (HG11.out.trans hwq)
    clear hwq he
    dsimp only [Sched.EndN, List.nil_append, List.cons_append, Act.put]
    (try simp only [List.setIfInBounds_toArray, List.set_cons_zero, List.set_cons_succ])
    repeat (first | (refine Sched.walk2_no rfl (fun K hK => ?_); simp only [Act.put, List.setIfInBounds_toArray, List.set_cons_zero, List.set_cons_succ]; refine hK _ ?_; clear hK K) | (refine Sched.walk2_go rfl (fun K hK => ?_); go_simp; (try go_ints); (try (simp only [IntWalk.iteOmega]; go_simp)); first | (refine hK _ _ ?_; clear hK K) | fail))
    refine Sched.walk2_nil ?_
    go_wp2_with fail
    go_ret
    exact ⟨rfl, HGQ.out⟩
  · obtain rfl := HX0.out rfl
    repeat (first | ((with_reducible refine Sched.walk1_no ?_ ?_ (fun K hK => ?_)); (focus rfl); (focus rfl); simp only [Act.put, List.setIfInBounds_toArray, List.set_cons_zero, List.set_cons_succ]; refine hK _ ?_; clear hK K) | ((with_reducible refine Sched.walk1_gr ?_ ?_ ?_ (fun K hK => ?_)); (focus rfl); (focus rfl); (focus rfl); apply Exists.intro; refine ⟨fun w1 hw1 => ?_, ?_⟩; (focus (go_simp; (try go_ints); (try (simp only [IntWalk.iteOmega]; go_simp)); first | done | (go_at_call 30; (with_reducible exact chg_is cca.out _)) | (with_reducible rfl) | (with_reducible exact ⟨rfl, rfl⟩))); simp only [Act.put, List.setIfInBounds_toArray, List.set_cons_zero, List.set_cons_succ]; refine hK _ ?_; clear hK K) | ((with_reducible refine Sched.walk1_pure ?_ ?_ ?_ (fun K hK => ?_)); (focus rfl); (focus rfl); (focus rfl); apply Exists.intro; refine ⟨fun w1 => ?_, ?_⟩; (focus (go_simp; (try go_ints); (try (simp only [IntWalk.iteOmega]; go_simp)); first | done | (with_reducible rfl) | (with_reducible exact ⟨rfl, rfl⟩))); simp only [Act.put, List.setIfInBounds_toArray, List.set_cons_zero, List.set_cons_succ]; refine hK _ ?_; clear hK K) | (refine Sched.walk1_box rfl rfl ?_; apply Exists.intro; refine ⟨fun w1 hw1 => ?_, ?_⟩; (focus (go_simp; exact ⟨Gr.alloc _ _, rfl, by simp, heap_alloc_new _ _⟩))))
    refine Sched.walk1_gr rfl rfl rfl (fun K hK => ?_)
    refine ⟨HVal A, fun w1 hw1 => (HAK.out w1 hw1).load _ rfl rfl, ?_⟩
    simp only [Act.put, List.setIfInBounds_toArray, List.set_cons_zero, List.set_cons_succ]
    refine hK _ ?_
    clear hK K
    refine Sched.walk1_gr rfl rfl rfl (fun K hK => ?_)
    refine ⟨HVal C, fun w1 hw1 => (HCK.out w1 hw1).load _ rfl rfl, ?_⟩
    simp only [Act.put, List.setIfInBounds_toArray, List.set_cons_zero, List.set_cons_succ]
    refine hK _ ?_
    clear hK K
    repeat (first | ((with_reducible refine Sched.walk1_no ?_ ?_ (fun K hK => ?_)); (focus rfl); (focus rfl); simp only [Act.put, List.setIfInBounds_toArray, List.set_cons_zero, List.set_cons_succ]; refine hK _ ?_; clear hK K) | ((with_reducible refine Sched.walk1_gr ?_ ?_ ?_ (fun K hK => ?_)); (focus rfl); (focus rfl); (focus rfl); apply Exists.intro; refine ⟨fun w1 hw1 => ?_, ?_⟩; (focus (go_simp; (try go_ints); (try (simp only [IntWalk.iteOmega]; go_simp)); first | done | (go_at_call 30; (with_reducible exact chg_is cac.out _)) | (with_reducible rfl) | (with_reducible exact ⟨rfl, rfl⟩))); simp only [Act.put, List.setIfInBounds_toArray, List.set_cons_zero, List.set_cons_succ]; refine hK _ ?_; clear hK K) | ((with_reducible refine Sched.walk1_pure ?_ ?_ ?_ (fun K hK => ?_)); (focus rfl); (focus rfl); (focus rfl); apply Exists.intro; refine ⟨fun w1 => ?_, ?_⟩; (focus (go_simp; (try go_ints); (try (simp only [IntWalk.iteOmega]; go_simp)); first | done | (with_reducible rfl) | (with_reducible exact ⟨rfl, rfl⟩))); simp only [Act.put, List.setIfInBounds_toArray, List.set_cons_zero, List.set_cons_succ]; refine hK _ ?_; clear hK K) | (refine Sched.walk1_box rfl rfl ?_; apply Exists.intro; refine ⟨fun w1 hw1 => ?_, ?_⟩; (focus (go_simp; exact ⟨Gr.alloc _ _, rfl, by simp, heap_alloc_new _ _⟩))))
    refine Sched.walk1_nil ?_
    intro wq hwq
    have HGQ := Lib.hid (HG11.out.trans hwq)
    clear hwq he
    dsimp only [Sched.EndN, List.nil_append, List.cons_append, Act.put]
    (try simp only [List.setIfInBounds_toArray, List.set_cons_zero, List.set_cons_succ])
    repeat (first | (refine Sched.walk2_no rfl (fun K hK => ?_); simp only [Act.put, List.setIfInBounds_toArray, List.set_cons_zero, List.set_cons_succ]; refine hK _ ?_; clear hK K) | (refine Sched.walk2_go rfl (fun K hK => ?_); go_simp; (try go_ints); (try (simp only [IntWalk.iteOmega]; go_simp)); first | (refine hK _ _ ?_; clear hK K) | fail))
    refine Sched.walk2_nil ?_
    go_wp2_with fail
    go_ret
    exact ⟨rfl, HGQ.out⟩
theorem statics_fit (a : Option Addr) (len cap : Nat) (ts : List Int) (reg : Bool) (w : World) (hr : Rd .i64 w a len ts) (_hc : len ≤ cap) (_hL : len * 8 ≤ 140737488351232) :
    Calls Try.prog 7 #[.slice a len cap, .bool reg] w fun e w' => e = .returned (.bool true) ∧ Below w.heap.size w w' :=
  (statics_walk a len cap ts reg w hr).mono fun _ _ ⟨he, hg⟩ => ⟨he, Below.of_none hg⟩
end Go.Proofs.Ytmojlengjoicoaa
