/- Layer 05 (packet): Head of the program. -/
import Derived.Test.YtmojlengjoicoaaPackP
import Derived.Test.YtmojlengjoicoaaSched2
import Derived.Laws.MakeOwn
import Derived.Laws.OwnMore
namespace Go.Proofs.Ytmojlengjoicoaa
open Go.ChangeShapes Go.WideShapes Go.ChangeAt Go.RowKit

theorem make40 (B : Nat) (w : World) (hB : B ≤ w.heap.size) : ∃ w', (Instr.makeSlice 52 (.int .i64 28) (.int .i64 40)).run Try.prog w = .ok (.slice (some ⟨w.heap.size, 0, none⟩) 28 40) w' ∧ OwnI B 5 .u8 w' (some ⟨w.heap.size, 0, none⟩) 40 40 (List.replicate 40 0) ∧ Gr w w' := by
  obtain ⟨i0, hi, hz0, hz1, hz2⟩ := info_parts info_u8
  have := run_make (P := Try.prog) w 52 5 i0 (.int .u8 0) Try.underlying52 hi hz0 .i64 .i64 28 40 (by omega) (by omega) (by rw [hz2]; decide) (by omega)
  refine ⟨_, this, ⟨?_, by intro y hy; obtain ⟨_, rfl⟩ := List.mem_replicate.1 hy; rfl⟩, Gr.alloc _ _⟩
  rw [hz1]
  have hc : (madeCells (Value.int .u8 0).cells ((40 : Int).toNat * 1)).toList = (List.replicate 40 0).map (Value.int .u8) := by kernel_rfl
  have h := World.ownsRow_lit (base := B) (e := 5) (size := 1) w (madeCells (Value.int .u8 0).cells ((40 : Int).toNat * 1)) 40 hB (by simp [maxLen]) (by kernel_rfl)
  rw [hc] at h
  exact h
theorem pput_at (B g N C : Nat) (xs : List Int) (len cap o n : Nat) (O K : Int) (x : Int) (w : World) (hO : O = o) (hK : K = n) (hown : OwnI B 5 .u8 w (some ⟨g, 0, none⟩) N C xs) (h1 : o + n ≤ len) (h2 : len ≤ N) (h3 : len ≤ 100000) (hx : i64 x) :
    Calls Try.prog 67 #[.slice (some ⟨g, 0, none⟩) len cap, .int .i64 O, .int .i64 K, .int .i64 x] w fun e w' => e = .returned (.tuple #[]) ∧ OwnI B 5 .u8 w' (some ⟨g, 0, none⟩) N C (setM xs o (putR x n)) ∧ w.grownBy w' (some g) := by
  subst hO hK
  exact pput_any B g N C xs len cap o n x w hown h1 h2 h3 hx
/-- What holds while the head is written: the header's block, the row, the growth. -/
def HeadI (w0 : World) (g : Nat) (h : Hdr) (xs : List Int) (wn : World) : Prop :=
  HBlk w0.heap.size h wn ∧ OwnI w0.heap.size 5 .u8 wn (some ⟨g, 0, none⟩) 40 40 xs ∧ Gr w0 wn ∧ w0.heap.size < g
theorem HeadI.turn {w0 wn w' : World} {g : Nat} {h : Hdr} {xs ys : List Int} (hI : HeadI w0 g h xs wn) (ho : OwnI w0.heap.size 5 .u8 w' (some ⟨g, 0, none⟩) 40 40 ys) (hg : wn.grownBy w' (some g)) : HeadI w0 g h ys w' := by
  obtain ⟨h1, _, h3, h4⟩ := hI
  refine ⟨?_, ho, grownBy_trans h3 hg (.inr (.inr ⟨g, rfl, by omega⟩)), h4⟩
  unfold HBlk at h1 ⊢
  rw [hg.block _ (heap_lt h1) (by simp; omega)]
  exact h1
theorem HeadI.gr {w0 wn w' : World} {g : Nat} {h : Hdr} {xs : List Int} (hI : HeadI w0 g h xs wn) (hg : Gr wn w') : HeadI w0 g h xs w' := by
  obtain ⟨h1, h2, h3, h4⟩ := hI
  exact ⟨h1.kept hg, h2.stay hg, h3.trans hg, h4⟩
theorem HeadI.set {w0 wn : World} {g : Nat} {h : Hdr} {xs : List Int} (hI : HeadI w0 g h xs wn) (i : Nat) (u : Int) (hu : 0 ≤ u ∧ u ≤ 255) : HeadI w0 g h (xs.set i u) (wn.setCell ⟨g, i, none⟩ (.int .u8 u)) :=
  hI.turn (hI.2.1.set i u (WalkArith.wf_u8 hu)) (grown_setAt wn g i _)
def hdw1 (h : Hdr) : List Int := ((List.replicate 40 0).set 0 69).set 1 h.tos
def hdw2 (h : Hdr) : List Int := (setM (hdw1 h) 4 (putR h.id 2)).set 6 (64 * h.fixed)
def hdw3 (h : Hdr) : List Int := ((hdw2 h).set 8 h.ttl).set 9 17
def hdw4 (h : Hdr) : List Int := setM (setM (setM (setM (setM (hdw3 h) 12 (putR h.frm 4)) 16 (putR h.to 4)) 20 (putR h.fport 2)) 22 (putR h.tport 2)) 26 (putR h.check 2)
def hdw5 (h : Hdr) : List Int := ((hdw4 h).set 28 128).set 29 (128 * h.marker + h.type)
def hdw6 (h : Hdr) : List Int := setM (setM (setM (hdw5 h) 30 (putR h.seq 2)) 32 (putR h.time 4)) 36 (putR h.source 4)
theorem hdw4_head {h : Hdr} (hk : h.kind = 1) : (hdw4 h).take 28 = headL h := by
  have e := headL_ex h []
  rw [List.append_nil, List.append_nil, tailL_ex, if_neg (by omega)] at e
  rw [e]
  simp only [hdw4, hdw3, hdw2, hdw1, putR2, putR4, List.replicate, setM, List.set_cons_zero, List.set_cons_succ, Nat.reduceAdd, List.take_succ_cons, List.take_zero, ex0]
theorem hdw6_head {h : Hdr} (hk : h.kind = 2) : hdw6 h = headL h := by
  have e := headL_ex h []
  rw [List.append_nil, List.append_nil, tailL_ex, if_pos hk] at e
  rw [e]
  simp only [hdw6, hdw5, hdw4, hdw3, hdw2, hdw1, putR2, putR4, List.replicate, setM, List.set_cons_zero, List.set_cons_succ, Nat.reduceAdd, ex0, ext]
set_option maxRecDepth 100000 in
set_option maxHeartbeats 4000000 in
theorem head_yes (h : Hdr) (w : World) (hv : validH h = true) (ho : HOk h) : Calls Try.prog 50 #[HVal h] w fun e w' => ∃ g n, e = .returned (.slice (some ⟨g, 0, none⟩) n 40) ∧ n = (headL h).length ∧ OwnI w.heap.size 5 .u8 w' (some ⟨g, 0, none⟩) n 40 (headL h) ∧ Gr w w' := by
  have HV := Lib.hid hv
  have HO := Lib.hid ho
  obtain ⟨hk, ⟨t1, t2⟩, ⟨l1, l2⟩, _, _, _, _, ⟨x1, x2⟩, _, _, hk1, hk2⟩ := valid_all hv
  have HK1 := Lib.hid hk1
  have HK2 := Lib.hid hk2
  have HK := Lib.hid hk
  clear hv ho hk1 hk2 hk
  go_enter Try.func50, Try.ntmps50
  go_upto_region 1 with (fail)
  obtain ⟨w1, hw1⟩ : ∃ y, y = w.alloc (.cells (HCells h).toArray 29) := ⟨_, rfl⟩
  have hb1 : HBlk w.heap.size h w1 := by rw [hw1]; exact heap_alloc_new _ _
  have hg1 : Gr w w1 := by rw [hw1]; exact Gr.alloc _ _
  have hz1 : w.heap.size < w1.heap.size := heap_lt hb1
  simp only [HCells] at hw1
  rw [← hw1]
  have hb1' := hb1
  unfold HBlk at hb1'
  have HB1 := Lib.hid hb1
  have HB1' := Lib.hid hb1'
  have HG1 := Lib.hid hg1
  clear hw1 hb1 hb1' hg1
  go_wp2_with (first | (refine wpList_load_row rfl 29 _ rfl w.heap.size rfl 29 _ _ _ HB1'.out Try.underlying29 rfl (by kernel_rfl) ?_))
  refine (pvalid_is HV.out w1 HO.out).mono ?_
  rintro e w2 ⟨rfl, hg2⟩
  obtain ⟨w3, hmk, ho3, hg3⟩ := make40 w.heap.size w2 (by have := hg2.size; omega)
  obtain ⟨g, hg⟩ : ∃ g, w2.heap.size = g := ⟨_, rfl⟩
  rw [hg] at hmk ho3
  have H3 := Lib.hid (show HeadI w g h (List.replicate 40 0) w3 from ⟨(HB1.out.kept hg2).kept hg3, ho3, (HG1.out.trans hg2).trans hg3, by have := hg2.size; omega⟩)
  clear hg2 HB1 HB1' HG1 ho3 hg3 hz1 hg
  go_upto_region 4 with (fail)
  clear hmk
  have hI : ∀ u, Gr w3 u → u.cell? ⟨w.heap.size, 1, none⟩ = some (.int .i64 h.tos) := fun u hu => (H3.out.gr hu).1.at 1 rfl
  refine Sched2.wp_region_sched (fun u => u.cell? ⟨w.heap.size, 1, none⟩ = some (.int .i64 h.tos)) [1, 2, 3, 4, 7] [] [6, 8] true hI (by kernel_rfl) (by kernel_rfl) ?_
  repeat (first | (refine Sched2.walk1_ord rfl ?_) | (refine Sched2.walk1_no rfl rfl rfl (fun K hK => ?_); simp only [Act.put, List.setIfInBounds_toArray, List.set_cons_zero, List.set_cons_succ]; refine hK _ ?_; clear hK K) | (refine Sched2.walk1_gr rfl rfl rfl rfl (fun K hK => ?_); apply Exists.intro; refine ⟨fun w1 hw1 => ?_, ?_⟩; (focus (go_simp; (try go_ints); (try (simp only [IntWalk.iteOmega]; go_simp)); first | done | fail | (with_reducible rfl) | (with_reducible exact ⟨rfl, rfl⟩))); simp only [Act.put, List.setIfInBounds_toArray, List.set_cons_zero, List.set_cons_succ]; refine hK _ ?_; clear hK K) | (refine Sched2.walk1_late rfl rfl rfl rfl (fun K hK => ?_); apply Exists.intro; refine ⟨fun w1 hw1 => ?_, ?_⟩; (focus (go_simp; (try go_ints); (try (simp only [IntWalk.iteOmega]; go_simp)); first | done | fail | (with_reducible rfl) | (with_reducible exact ⟨rfl, rfl⟩))); simp only [Act.put, List.setIfInBounds_toArray, List.set_cons_zero, List.set_cons_succ]; refine hK _ ?_; clear hK K) | (refine Sched2.walk1_box rfl rfl rfl ?_; apply Exists.intro; refine ⟨fun w1 hw1 => ?_, ?_⟩; (focus (go_simp; exact ⟨Gr.alloc _ _, rfl, by simp, heap_alloc_new _ _⟩))))
  refine Sched2.walk1_nil ?_
  intro wq hwq
  have hq := H3.out.gr hwq
  have hs := hq.set 0 69 (by omega)
  obtain ⟨c1, f1⟩ := hq.2.1.at 0 (by omega)
  obtain ⟨c2, f2⟩ := hs.2.1.at 1 (by omega)
  have hi2 := hs.1.at 1 rfl
  have HS := Lib.hid (hs.set 1 h.tos ⟨t1, t2⟩)
  clear hq hs hI
  dsimp only [Sched.EndN, List.nil_append, List.cons_append, Act.put]
  (try simp only [List.setIfInBounds_toArray, List.set_cons_zero, List.set_cons_succ])
  simp only [Sched2.lasts, List.filterMap_cons, List.filterMap_nil, List.getElem?_toArray, List.getElem?_cons_succ, List.getElem?_cons_zero]
  repeat (first | (refine Sched2.walk2_no rfl (fun K hK => ?_); simp only [Act.put, List.setIfInBounds_toArray, List.set_cons_zero, List.set_cons_succ]; refine hK _ ?_; clear hK K) | (refine Sched2.walk2_go rfl (fun K hK => ?_); go_simp; (try go_ints); (try (simp only [IntWalk.iteOmega]; go_simp)); first | (refine hK _ _ (by first | exact .inl ⟨rfl, rfl⟩ | exact .inr ((by assumption))) ?_; clear hK K) | fail))
  refine Sched2.walk2_nil ?_
  obtain ⟨w4, hw4⟩ : ∃ y, y = (wq.setCell ⟨g, 0, none⟩ (.int .u8 69)).setCell ⟨g, 1, none⟩ (.int .u8 h.tos) := ⟨_, rfl⟩
  have H4 := Lib.hid (show HeadI w g h (hdw1 h) w4 by rw [hw4]; exact HS.out)
  rw [← hw4]
  clear hw4 HS c1 f1 c2 f2 hi2 hwq wq
  have c := (H4).out.1.at 2 rfl
  go_wp2_with fail
  refine (pput_at w.heap.size g 40 40 _ 28 40 4 2 _ _ _ w4 rfl rfl (H4).out.2.1 (by omega) (by omega) (by omega) HO.out.2.2.1).mono ?_
  rintro e w5 ⟨rfl, ho, hg⟩
  have H5 := Lib.hid ((H4).out.turn ho hg)
  clear c ho hg
  have c3 := H5.out.1.at 3 rfl
  obtain ⟨c1, f1⟩ := H5.out.2.1.at 6 (by omega)
  go_upto_region 7 with (fail)
  obtain ⟨w6, hw6⟩ : ∃ y, y = w5.setCell ⟨g, 6, none⟩ (.int .u8 (64 * h.fixed)) := ⟨_, rfl⟩
  have H6 := Lib.hid (show HeadI w g h (hdw2 h) w6 by rw [hw6]; exact H5.out.set 6 _ (by omega))
  first | rw [← hw6] | (go_show; fail)
  clear hw6 c3 c1 f1
  have c4 := H6.out.1.at 4 rfl
  have hs := H6.out.set 8 h.ttl ⟨l1, l2⟩
  obtain ⟨c1, f1⟩ := H6.out.2.1.at 8 (by omega)
  obtain ⟨c2, f2⟩ := hs.2.1.at 9 (by omega)
  have HS := Lib.hid (hs.set 9 17 (by omega))
  clear hs
  go_upto_region 8 with (fail)
  obtain ⟨w7, hw7⟩ : ∃ y, y = (w6.setCell ⟨g, 8, none⟩ (.int .u8 h.ttl)).setCell ⟨g, 9, none⟩ (.int .u8 17) := ⟨_, rfl⟩
  have H7 := Lib.hid (show HeadI w g h (hdw3 h) w7 by rw [hw7]; exact HS.out)
  first | rw [← hw7] | (go_show; fail)
  clear hw7 HS c1 f1 c2 f2 c4
  have c := (H7).out.1.at 5 rfl
  go_wp2_with fail
  refine (pput_at w.heap.size g 40 40 _ 28 40 12 4 _ _ _ w7 rfl rfl (H7).out.2.1 (by omega) (by omega) (by omega) HO.out.2.2.2.2.2.1).mono ?_
  rintro e w8 ⟨rfl, ho, hg⟩
  have H8 := Lib.hid ((H7).out.turn ho hg)
  clear c ho hg
  have c := (H8).out.1.at 6 rfl
  go_wp2_with fail
  refine (pput_at w.heap.size g 40 40 _ 28 40 16 4 _ _ _ w8 rfl rfl (H8).out.2.1 (by omega) (by omega) (by omega) HO.out.2.2.2.2.2.2.1).mono ?_
  rintro e w9 ⟨rfl, ho, hg⟩
  have H9 := Lib.hid ((H8).out.turn ho hg)
  clear c ho hg
  have c := (H9).out.1.at 7 rfl
  go_wp2_with fail
  refine (pput_at w.heap.size g 40 40 _ 28 40 20 2 _ _ _ w9 rfl rfl (H9).out.2.1 (by omega) (by omega) (by omega) HO.out.2.2.2.2.2.2.2.1).mono ?_
  rintro e w10 ⟨rfl, ho, hg⟩
  have H10 := Lib.hid ((H9).out.turn ho hg)
  clear c ho hg
  have c := (H10).out.1.at 8 rfl
  go_wp2_with fail
  refine (pput_at w.heap.size g 40 40 _ 28 40 22 2 _ _ _ w10 rfl rfl (H10).out.2.1 (by omega) (by omega) (by omega) HO.out.2.2.2.2.2.2.2.2.1).mono ?_
  rintro e w11 ⟨rfl, ho, hg⟩
  have H11 := Lib.hid ((H10).out.turn ho hg)
  clear c ho hg
  have c := (H11).out.1.at 9 rfl
  go_wp2_with fail
  refine (pput_at w.heap.size g 40 40 _ 28 40 26 2 _ _ _ w11 rfl rfl (H11).out.2.1 (by omega) (by omega) (by omega) HO.out.2.2.2.2.2.2.2.2.2.1).mono ?_
  rintro e w12 ⟨rfl, ho, hg⟩
  have H12 := Lib.hid ((H11).out.turn ho hg)
  clear c ho hg
  have c0 := H12.out.1.at 0 rfl
  rcases HK.out with hk | hk
  · have hkb : (h.kind == 2) = false := by rw [hk]; rfl
    have HKK := Lib.hid hk
    clear hk
    go_wp2_with fail
    go_ret
    refine ⟨g, 28, rfl, by rw [headL_len, if_neg (by have := HKK.out; omega)], ?_, H12.out.2.2.1⟩
    rw [← hdw4_head HKK.out]
    exact H12.out.2.1.cut 28 (by omega)
  · have hkb : (h.kind == 2) = true := by rw [hk]; rfl
    obtain ⟨⟨m1, m2⟩, ⟨y1, y2⟩, _⟩ := HK2.out hk
    have HKK := Lib.hid hk
    clear hk
    go_upto_region 15 with (fail)
    have hI : ∀ u, Gr w12 u → u.cell? ⟨w.heap.size, 10, none⟩ = some (.int .i64 h.marker) ∧ u.cell? ⟨w.heap.size, 11, none⟩ = some (.int .i64 h.type) := fun u hu => ⟨(H12.out.gr hu).1.at 10 rfl, (H12.out.gr hu).1.at 11 rfl⟩
    clear c0
    refine Sched2.wp_region_sched (fun u => u.cell? ⟨w.heap.size, 10, none⟩ = some (.int .i64 h.marker) ∧ u.cell? ⟨w.heap.size, 11, none⟩ = some (.int .i64 h.type)) [1, 2, 3, 4, 5, 6, 7, 8, 11] [] [10, 12] true hI (by kernel_rfl) (by kernel_rfl) ?_
    repeat (first | (refine Sched2.walk1_ord rfl ?_) | (refine Sched2.walk1_no rfl rfl rfl (fun K hK => ?_); simp only [Act.put, List.setIfInBounds_toArray, List.set_cons_zero, List.set_cons_succ]; refine hK _ ?_; clear hK K) | (refine Sched2.walk1_gr rfl rfl rfl rfl (fun K hK => ?_); apply Exists.intro; refine ⟨fun w1 hw1 => ?_, ?_⟩; (focus (go_simp; (try go_ints); (try (simp only [IntWalk.iteOmega]; go_simp)); first | done | fail | (with_reducible rfl) | (with_reducible exact ⟨rfl, rfl⟩))); simp only [Act.put, List.setIfInBounds_toArray, List.set_cons_zero, List.set_cons_succ]; refine hK _ ?_; clear hK K) | (refine Sched2.walk1_late rfl rfl rfl rfl (fun K hK => ?_); apply Exists.intro; refine ⟨fun w1 hw1 => ?_, ?_⟩; (focus (go_simp; (try go_ints); (try (simp only [IntWalk.iteOmega]; go_simp)); first | done | fail | (with_reducible rfl) | (with_reducible exact ⟨rfl, rfl⟩))); simp only [Act.put, List.setIfInBounds_toArray, List.set_cons_zero, List.set_cons_succ]; refine hK _ ?_; clear hK K) | (refine Sched2.walk1_box rfl rfl rfl ?_; apply Exists.intro; refine ⟨fun w1 hw1 => ?_, ?_⟩; (focus (go_simp; exact ⟨Gr.alloc _ _, rfl, by simp, heap_alloc_new _ _⟩))))
    refine Sched2.walk1_nil ?_
    intro wq hwq
    have hq := H12.out.gr hwq
    have hs := hq.set 28 128 (by omega)
    obtain ⟨c1, f1⟩ := hq.2.1.at 28 (by omega)
    obtain ⟨c2, f2⟩ := hs.2.1.at 29 (by omega)
    have hi2 : _ ∧ _ := ⟨hs.1.at 10 rfl, hs.1.at 11 rfl⟩
    have HS := Lib.hid (hs.set 29 (128 * h.marker + h.type) (by omega))
    clear hq hs hI
    dsimp only [Sched.EndN, List.nil_append, List.cons_append, Act.put]
    (try simp only [List.setIfInBounds_toArray, List.set_cons_zero, List.set_cons_succ])
    simp only [Sched2.lasts, List.filterMap_cons, List.filterMap_nil, List.getElem?_toArray, List.getElem?_cons_succ, List.getElem?_cons_zero]
    repeat (first | (refine Sched2.walk2_no rfl (fun K hK => ?_); simp only [Act.put, List.setIfInBounds_toArray, List.set_cons_zero, List.set_cons_succ]; refine hK _ ?_; clear hK K) | (refine Sched2.walk2_go rfl (fun K hK => ?_); go_simp; (try go_ints); (try (simp only [IntWalk.iteOmega]; go_simp)); first | (refine hK _ _ (by first | exact .inl ⟨rfl, rfl⟩ | exact .inr (hi2)) ?_; clear hK K) | fail))
    refine Sched2.walk2_nil ?_
    obtain ⟨w13, hw13⟩ : ∃ y, y = (wq.setCell ⟨g, 28, none⟩ (.int .u8 128)).setCell ⟨g, 29, none⟩ (.int .u8 (128 * h.marker + h.type)) := ⟨_, rfl⟩
    have H13 := Lib.hid (show HeadI w g h (hdw5 h) w13 by rw [hw13]; exact HS.out)
    first | rw [← hw13] | (go_show; fail)
    clear hw13 HS c1 f1 c2 f2 hi2 hwq wq
    have c := (H13).out.1.at 12 rfl
    go_wp2_with fail
    refine (pput_at w.heap.size g 40 40 _ 40 40 30 2 _ _ _ w13 rfl rfl (H13).out.2.1 (by omega) (by omega) (by omega) HO.out.2.2.2.2.2.2.2.2.2.2.2.2.1).mono ?_
    rintro e w14 ⟨rfl, ho, hg⟩
    have H14 := Lib.hid ((H13).out.turn ho hg)
    clear c ho hg
    have c := (H14).out.1.at 13 rfl
    go_wp2_with fail
    refine (pput_at w.heap.size g 40 40 _ 40 40 32 4 _ _ _ w14 rfl rfl (H14).out.2.1 (by omega) (by omega) (by omega) HO.out.2.2.2.2.2.2.2.2.2.2.2.2.2.1).mono ?_
    rintro e w15 ⟨rfl, ho, hg⟩
    have H15 := Lib.hid ((H14).out.turn ho hg)
    clear c ho hg
    have c := (H15).out.1.at 14 rfl
    go_wp2_with fail
    refine (pput_at w.heap.size g 40 40 _ 40 40 36 4 _ _ _ w15 rfl rfl (H15).out.2.1 (by omega) (by omega) (by omega) HO.out.2.2.2.2.2.2.2.2.2.2.2.2.2.2).mono ?_
    rintro e w16 ⟨rfl, ho, hg⟩
    have H16 := Lib.hid ((H15).out.turn ho hg)
    clear c ho hg
    go_wp2_with fail
    go_ret
    refine ⟨g, 40, rfl, by rw [headL_len, if_pos HKK.out], ?_, H16.out.2.2.1⟩
    rw [← hdw6_head HKK.out]
    exact H16.out.2.1


end Go.Proofs.Ytmojlengjoicoaa
