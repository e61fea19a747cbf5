/- Layer 05 (packet): PacketBuilds. -/
import Derived.Test.YtmojlengjoicoaaPackI
namespace Go.Proofs.Ytmojlengjoicoaa
open Go.ChangeShapes Go.WideShapes Go.ChangeAt Go.RowKit

def headV (h : Hdr) : List Int := if validH h then headL h else []
theorem head_any (h : Hdr) (w : World) (ho : HOk h) : Calls Try.prog 50 #[HVal h] w fun e w' => ∃ a n cap, e = .returned (.slice a n cap) ∧ Rd .u8 w' a n (headV h) ∧ Gr w w' := by
  cases hv : validH h
  · refine (head_no h w hv ho).mono ?_
    rintro e w' ⟨rfl, hg⟩
    exact ⟨none, 0, 0, rfl, by rw [headV, hv]; exact (OwnI.nil 0 5 _ _).rd, hg⟩
  · refine (head_yes h w hv ho).mono ?_
    rintro e w' ⟨g, n, rfl, _, h2, hg⟩
    exact ⟨_, n, 40, rfl, by rw [headV, hv]; exact h2.rd, hg⟩
theorem rhead_any (h : Hdr) (w : World) : Calls Try.prog 51 #[HVal h] w fun e w' => ∃ a n cap, e = .returned (.slice a n cap) ∧ Rd .u8 w' a n (headV h) ∧ Gr w w' := by
  cases hv : validH h
  · refine (rhead_no h w hv).mono ?_
    rintro e w' ⟨rfl, hg⟩
    exact ⟨none, 0, 0, rfl, by rw [headV, hv]; exact (OwnI.nil 0 5 _ _).rd, hg⟩
  · refine (rhead_yes h w hv).mono ?_
    rintro e w' ⟨a, n, cap, rfl, _, h2, hg⟩
    exact ⟨a, n, cap, rfl, by rw [headV, hv]; exact h2.rd, hg⟩
theorem udp_is {h : Hdr} {ys : List Int} {U : Int × Int} (hU : udpF h ys = U) (a : Option Addr) (m c : Nat) (w : World) (ho : HOk h) (hr : Rd .u8 w a m ys) (hm : m ≤ 140737488351232) : Calls Try.prog 47 #[HVal h, .slice a m c] w fun e w' => e = .returned (.tuple #[.int .i64 U.1, .int .i64 U.2]) ∧ Gr w w' := hU ▸ udp_any h a m c ys w ho hr hm
theorem rudp_is {h : Hdr} {ys : List Int} {U : Int × Int} (hU : udpF h ys = U) (a : Option Addr) (m c : Nat) (w : World) (hr : Rd .u8 w a m ys) (hm : m ≤ 140737488351232) : Calls Try.prog 48 #[HVal h, .slice a m c] w fun e w' => e = .returned (.tuple #[.int .i64 U.1, .int .i64 U.2]) ∧ Gr w w' := hU ▸ rudp_any h a m c ys w hr hm
set_option maxRecDepth 100000 in
set_option maxHeartbeats 4000000 in
theorem builds_any (h : Hdr) (a : Option Addr) (m c : Nat) (ys : List Int) (w : World) (ho : HOk h) (hr : Rd .u8 w a m ys) (hm : m ≤ 140737488351232) : Calls Try.prog 11 #[HVal h, .slice a m c] w fun e w' => e = .returned (.bool true) ∧ Gr w w' := by
  obtain ⟨R, hR⟩ : ∃ R, buildF h ys = R := ⟨_, rfl⟩
  obtain ⟨U, hU⟩ : ∃ U, udpF h ys = U := ⟨_, rfl⟩
  obtain ⟨V, hV⟩ : ∃ V, validH h = V := ⟨_, rfl⟩
  have HU := Lib.hid hU
  have HRF := Lib.hid hR
  have HV := Lib.hid hV
  have HO := Lib.hid ho
  have HR := Lib.hid hr
  clear hR ho hr hU hV
  go_enter Try.func11, Try.ntmps11
  go_upto_region 1 with (fail)
  obtain ⟨w1, hw1⟩ : ∃ y, y = w.alloc (.cells (HCells h).toArray 29) := ⟨_, rfl⟩
  have hb1 : HBlk w.heap.size h w1 := by rw [hw1]; exact heap_alloc_new _ _
  have hg1 : Gr w w1 := by rw [hw1]; exact Gr.alloc _ _
  simp only [HCells] at hw1
  rw [← hw1]
  have HB1 := Lib.hid hb1
  have HG1 := Lib.hid hg1
  clear hw1 hb1 hg1
  have hbx := (HB1).out
  unfold HBlk at hbx
  have HBX := Lib.hid hbx
  clear hbx
  go_wp2_with (first | (refine wpList_load_w rfl 29 _ rfl w.heap.size rfl 29 _ _ _ HBX.out Try.underlying29 rfl (by kernel_rfl) ?_))
  refine (build_is HRF.out a m c w1 HO.out (HR.out.kept HG1.out) hm).mono ?_
  clear HBX
  rintro e w2 ⟨a2, n2, c2, rfl, -, -, hr2, hg2⟩
  have HB2 := Lib.hid (HB1.out.kept hg2)
  have HG2 := Lib.hid (HG1.out.trans hg2)
  have HR2 := Lib.hid hr2
  clear hr2 hg2 HB1 HG1
  have hbx := (HB2).out
  unfold HBlk at hbx
  have HBX := Lib.hid hbx
  clear hbx
  go_wp2_with (first | (refine wpList_load_w rfl 29 _ rfl w.heap.size rfl 29 _ _ _ HBX.out Try.underlying29 rfl (by kernel_rfl) ?_))
  refine (rbuild_is HRF.out a m c w2 (HR.out.kept HG2.out) hm).mono ?_
  clear HBX
  rintro e w3 ⟨a3, n3, c3, rfl, -, -, hr3, hg3⟩
  have HB3 := Lib.hid (HB2.out.kept hg3)
  have HG3 := Lib.hid (HG2.out.trans hg3)
  have HR2b := Lib.hid (HR2.out.kept hg3)
  have HR3 := Lib.hid hr3
  clear hr3 hg3 HB2 HG2 HR2
  have hbx := (HB3).out
  unfold HBlk at hbx
  have HBX := Lib.hid hbx
  clear hbx
  go_wp2_with (first | (refine wpList_load_w rfl 29 _ rfl w.heap.size rfl 29 _ _ _ HBX.out Try.underlying29 rfl (by kernel_rfl) ?_))
  refine (udp_is HU.out a m c w3 HO.out (HR.out.kept HG3.out) hm).mono ?_
  clear HBX
  rintro e w4 ⟨rfl, hg4⟩
  have HB4 := Lib.hid (HB3.out.kept hg4)
  have HG4 := Lib.hid (HG3.out.trans hg4)
  have HR2c := Lib.hid (HR2b.out.kept hg4)
  have HR3c := Lib.hid (HR3.out.kept hg4)
  clear hg4 HB3 HG3 HR2b HR3
  have hbx := (HB4).out
  unfold HBlk at hbx
  have HBX := Lib.hid hbx
  clear hbx
  go_wp2_with (first | (refine wpList_load_w rfl 29 _ rfl w.heap.size rfl 29 _ _ _ HBX.out Try.underlying29 rfl (by kernel_rfl) ?_))
  refine (rudp_is HU.out a m c w4 (HR.out.kept HG4.out) hm).mono ?_
  clear HBX
  rintro e w5 ⟨rfl, hg5⟩
  have HB5 := Lib.hid (HB4.out.kept hg5)
  have HG5 := Lib.hid (HG4.out.trans hg5)
  have HRA := Lib.hid (HR2c.out.kept hg5)
  have HRB := Lib.hid (HR3c.out.kept hg5)
  clear hg5 HB4 HG4 HR2c HR3c
  have HAK := Lib.hid (fun u (hu : Gr w5 u) => HB5.out.kept hu)
  go_upto_region 5 with (fail)
  refine SchedD.wp_region_schedd 36 [] [10, 12] (SchedD.nsel [(10, NBy (headV h)), (12, NBy (headV h))]) [(13, [(10, 47), (12, 49)])] (by kernel_rfl) (by kernel_rfl) ?_
  simp only [List.take_succ_cons, List.take_zero, List.drop_succ_cons, List.drop_zero]
  repeat (first | ((with_reducible refine SchedD.walk1_no ?_ ?_ ?_ (fun K hK => ?_)); (focus rfl); (focus rfl); (focus rfl); simp only [Act.put, List.setIfInBounds_toArray, List.set_cons_zero, List.set_cons_succ]; refine hK _ ?_; clear hK K) | ((with_reducible refine SchedD.walk1_gr ?_ ?_ ?_ ?_ (fun K hK => ?_)); (focus rfl); (focus rfl); (focus rfl); (focus rfl); apply Exists.intro; refine ⟨fun w1 hw1 => ?_, ?_⟩; (focus (go_simp; (try go_ints); (try (simp only [IntWalk.iteOmega]; go_simp)); first | done | (go_at_call 41; (with_reducible exact awake05 _)) | (with_reducible rfl) | (with_reducible exact ⟨rfl, rfl⟩))); simp only [Act.put, List.setIfInBounds_toArray, List.set_cons_zero, List.set_cons_succ]; refine hK _ ?_; clear hK K) | ((with_reducible refine SchedD.walk1_pure ?_ ?_ ?_ ?_ (fun K hK => ?_)); (focus rfl); (focus rfl); (focus rfl); (focus rfl); apply Exists.intro; refine ⟨fun w1 => ?_, ?_⟩; (focus (go_simp; (try go_ints); (try (simp only [IntWalk.iteOmega]; go_simp)); first | done | (with_reducible rfl) | (with_reducible exact ⟨rfl, rfl⟩))); simp only [Act.put, List.setIfInBounds_toArray, List.set_cons_zero, List.set_cons_succ]; refine hK _ ?_; clear hK K))
  (with_reducible refine SchedD.walk1_gr ?_ ?_ ?_ ?_ (fun K hK => ?_)); (focus rfl); (focus rfl); (focus rfl); (focus rfl)
  refine ⟨HVal h, fun w1 hw1 => (HAK.out w1 hw1).load _ rfl rfl, ?_⟩
  simp only [Act.put, List.setIfInBounds_toArray, List.set_cons_zero, List.set_cons_succ]
  refine hK _ ?_
  clear hK K
  repeat (first | ((with_reducible refine SchedD.walk1_no ?_ ?_ ?_ (fun K hK => ?_)); (focus rfl); (focus rfl); (focus rfl); simp only [Act.put, List.setIfInBounds_toArray, List.set_cons_zero, List.set_cons_succ]; refine hK _ ?_; clear hK K) | ((with_reducible refine SchedD.walk1_gr ?_ ?_ ?_ ?_ (fun K hK => ?_)); (focus rfl); (focus rfl); (focus rfl); (focus rfl); apply Exists.intro; refine ⟨fun w1 hw1 => ?_, ?_⟩; (focus (go_simp; (try go_ints); (try (simp only [IntWalk.iteOmega]; go_simp)); first | done | (go_at_call 49; (with_reducible exact pvalid_is HV.out _ HO.out)) | (with_reducible rfl) | (with_reducible exact ⟨rfl, rfl⟩))); simp only [Act.put, List.setIfInBounds_toArray, List.set_cons_zero, List.set_cons_succ]; refine hK _ ?_; clear hK K) | ((with_reducible refine SchedD.walk1_pure ?_ ?_ ?_ ?_ (fun K hK => ?_)); (focus rfl); (focus rfl); (focus rfl); (focus rfl); apply Exists.intro; refine ⟨fun w1 => ?_, ?_⟩; (focus (go_simp; (try go_ints); (try (simp only [IntWalk.iteOmega]; go_simp)); first | done | (with_reducible rfl) | (with_reducible exact ⟨rfl, rfl⟩))); simp only [Act.put, List.setIfInBounds_toArray, List.set_cons_zero, List.set_cons_succ]; refine hK _ ?_; clear hK K))
  (with_reducible refine SchedD.walk1_gr ?_ ?_ ?_ ?_ (fun K hK => ?_)); (focus rfl); (focus rfl); (focus rfl); (focus rfl)
  refine ⟨HVal h, fun w1 hw1 => (HAK.out w1 hw1).load _ rfl rfl, ?_⟩
  simp only [Act.put, List.setIfInBounds_toArray, List.set_cons_zero, List.set_cons_succ]
  refine hK _ ?_
  clear hK K
  repeat (first | ((with_reducible refine SchedD.walk1_no ?_ ?_ ?_ (fun K hK => ?_)); (focus rfl); (focus rfl); (focus rfl); simp only [Act.put, List.setIfInBounds_toArray, List.set_cons_zero, List.set_cons_succ]; refine hK _ ?_; clear hK K) | ((with_reducible refine SchedD.walk1_gr ?_ ?_ ?_ ?_ (fun K hK => ?_)); (focus rfl); (focus rfl); (focus rfl); (focus rfl); apply Exists.intro; refine ⟨fun w1 hw1 => ?_, ?_⟩; (focus (go_simp; (try go_ints); (try (simp only [IntWalk.iteOmega]; go_simp)); first | done | (go_at_call 23; (with_reducible exact rvalid_is HV.out _)) | (with_reducible rfl) | (with_reducible exact ⟨rfl, rfl⟩))); simp only [Act.put, List.setIfInBounds_toArray, List.set_cons_zero, List.set_cons_succ]; refine hK _ ?_; clear hK K) | ((with_reducible refine SchedD.walk1_pure ?_ ?_ ?_ ?_ (fun K hK => ?_)); (focus rfl); (focus rfl); (focus rfl); (focus rfl); apply Exists.intro; refine ⟨fun w1 => ?_, ?_⟩; (focus (go_simp; (try go_ints); (try (simp only [IntWalk.iteOmega]; go_simp)); first | done | (with_reducible rfl) | (with_reducible exact ⟨rfl, rfl⟩))); simp only [Act.put, List.setIfInBounds_toArray, List.set_cons_zero, List.set_cons_succ]; refine hK _ ?_; clear hK K))
  (with_reducible refine SchedD.walk1_gr ?_ ?_ ?_ ?_ (fun K hK => ?_)); (focus rfl); (focus rfl); (focus rfl); (focus rfl)
  refine ⟨HVal h, fun w1 hw1 => (HAK.out w1 hw1).load _ rfl rfl, ?_⟩
  simp only [Act.put, List.setIfInBounds_toArray, List.set_cons_zero, List.set_cons_succ]
  refine hK _ ?_
  clear hK K
  refine SchedD.walk1_new0 (NBy (headV h)) rfl rfl rfl rfl (NBy.stable _) (fun u hu => ?_) ?_
  · go_simp
    go_at_call 50
    refine (head_any h u HO.out).mono ?_
    rintro e w8 ⟨a8, n8, c8, rfl, hr8, hgr⟩
    exact ⟨_, rfl, hgr, a8, n8, c8, rfl, hr8⟩
  (with_reducible refine SchedD.walk1_gr ?_ ?_ ?_ ?_ (fun K hK => ?_)); (focus rfl); (focus rfl); (focus rfl); (focus rfl)
  refine ⟨HVal h, fun w1 hw1 => (HAK.out w1 hw1).load _ rfl rfl, ?_⟩
  simp only [Act.put, List.setIfInBounds_toArray, List.set_cons_zero, List.set_cons_succ]
  refine hK _ ?_
  clear hK K
  refine SchedD.walk1_new0 (NBy (headV h)) rfl rfl rfl rfl (NBy.stable _) (fun u hu => ?_) ?_
  · go_simp
    go_at_call 51
    refine (rhead_any h u).mono ?_
    rintro e w8 ⟨a8, n8, c8, rfl, hr8, hgr⟩
    exact ⟨_, rfl, hgr, a8, n8, c8, rfl, hr8⟩
  refine SchedD.walk1_dep2 (.bool true) (NBy (headV h)) (NBy (headV h)) 10 47 12 49 rfl rfl rfl rfl rfl (fun u hu lo1 hi1 u1 q1 lo2 hi2 u2 q2 => ?_) ?_
  · obtain ⟨a8, n8, c8, rfl, hr1⟩ := q1
    obtain ⟨a9, n9, c9, rfl, hr2⟩ := q2
    refine ⟨rfl, ?_⟩
    go_simp
    go_at_call 42
    exact gr_same (bsame_is (decide_eq_true rfl) u hr1 hr2)
  repeat (first | ((with_reducible refine SchedD.walk1_no ?_ ?_ ?_ (fun K hK => ?_)); (focus rfl); (focus rfl); (focus rfl); simp only [Act.put, List.setIfInBounds_toArray, List.set_cons_zero, List.set_cons_succ]; refine hK _ ?_; clear hK K) | ((with_reducible refine SchedD.walk1_gr ?_ ?_ ?_ ?_ (fun K hK => ?_)); (focus rfl); (focus rfl); (focus rfl); (focus rfl); apply Exists.intro; refine ⟨fun w1 hw1 => ?_, ?_⟩; (focus (go_simp; (try go_ints); (try (simp only [IntWalk.iteOmega]; go_simp)); first | done | (go_at_call 42; (with_reducible exact gr_same (bsame_is (decide_eq_true rfl) _ (rd_gr HRA.out hw1) (rd_gr HRB.out hw1)))) | (with_reducible rfl) | (with_reducible exact ⟨rfl, rfl⟩))); simp only [Act.put, List.setIfInBounds_toArray, List.set_cons_zero, List.set_cons_succ]; refine hK _ ?_; clear hK K) | ((with_reducible refine SchedD.walk1_pure ?_ ?_ ?_ ?_ (fun K hK => ?_)); (focus rfl); (focus rfl); (focus rfl); (focus rfl); apply Exists.intro; refine ⟨fun w1 => ?_, ?_⟩; (focus (go_simp; (try go_ints); (try (simp only [IntWalk.iteOmega]; go_simp)); first | done | (with_reducible rfl) | (with_reducible exact ⟨rfl, rfl⟩))); simp only [Act.put, List.setIfInBounds_toArray, List.set_cons_zero, List.set_cons_succ]; refine hK _ ?_; clear hK K))
  (with_reducible refine SchedD.walk1_nil ?_)
  intro wq hwq
  dsimp only [Sched.EndN, List.nil_append, List.cons_append, Act.put]
  rintro - - v1 ⟨a8, n8, c8, rfl, -⟩ - - - - - - v2 ⟨a9, n9, c9, rfl, -⟩ - - - -
  (try simp only [List.setIfInBounds_toArray, List.set_cons_zero, List.set_cons_succ])
  refine Sched.walk2_nil ?_
  have HQ := Lib.hid (HG5.out.trans hwq)
  clear hwq HAK
  go_wp2_with fail
  go_ret
  exact ⟨rfl, HQ.out⟩
theorem hok_list {xs : List Int} (hl : xs.length = 15) (hb : ∀ x ∈ xs, -9223372036854775808 ≤ x ∧ x ≤ 9223372036854775807) : ∃ h : Hdr, HOk h ∧ (xs.map (Value.int .i64)).toArray = (HCells h).toArray := by
  match xs, hl with
  | [a0, a1, a2, a3, a4, a5, a6, a7, a8, a9, a10, a11, a12, a13, a14], _ =>
    refine ⟨⟨a0, a1, a2, a3, a4, a5, a6, a7, a8, a9, a10, a11, a12, a13, a14⟩, ⟨?_, ?_, ?_, ?_, ?_, ?_, ?_, ?_, ?_, ?_, ?_, ?_, ?_, ?_, ?_⟩, rfl⟩ <;> exact hb _ (by simp)
theorem builds_fit (xs : List Int) (a : Option Addr) (m c : Nat) (ys : List Int) (w : World) (hl : xs.length = 15) (hb : ∀ x ∈ xs, -9223372036854775808 ≤ x ∧ x ≤ 9223372036854775807) (hr : Rd .u8 w a m ys) (_hc : m ≤ c) (hm : m ≤ 140737488351232) : Calls Try.prog 11 #[.agg (xs.map (Value.int .i64)).toArray, .slice a m c] w fun e w' => e = .returned (.bool true) ∧ Below w.heap.size w w' := by
  obtain ⟨h, ho, e⟩ := hok_list hl hb
  rw [e]
  exact (builds_any h a m c ys w ho hr hm).mono fun _ _ ⟨h, hg⟩ => ⟨h, Below.of_none hg⟩
end Go.Proofs.Ytmojlengjoicoaa
