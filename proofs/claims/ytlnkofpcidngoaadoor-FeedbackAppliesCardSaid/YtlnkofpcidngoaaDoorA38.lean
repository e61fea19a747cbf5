/- made.Packet: the packet of a valid header with a payload, as the reference builds it. -/
import Derived.Test.YtlnkofpcidngoaaDoorA0
import Derived.Test.YtlnkofpcidngoaaDoorA36
import Derived.Test.YtlnkofpcidngoaaDoorA37
import Derived.Deep.CutRange
namespace Go.Proofs.YtlnkofpcidngoaaDoor
open Go.ChangeShapes Go.WideShapes Go.ChangeAt Go.RowKit
def ml1 (h : Hdr) (n : Int) : List Int := [69, h.tos] ++ putR n 2 ++ putR h.id 2
def ml2 (h : Hdr) (n : Int) : List Int := ml1 h n ++ [64 * h.fixed, 0, h.ttl, 17, 0, 0]
def ml3 (h : Hdr) (n : Int) : List Int := ml2 h n ++ putR h.frm 4 ++ putR h.to 4
def ml4 (h : Hdr) (n S : Int) : List Int := ((ml3 h n).set 10 (S / 256)).set 11 (S % 256)
def ml5 (h : Hdr) (n S : Int) : List Int := ml4 h n S ++ putR h.fport 2 ++ putR h.tport 2
def ml6 (h : Hdr) (n S : Int) : List Int := ml5 h n S ++ putR (n - 20) 2 ++ putR h.check 2
def ml7 (h : Hdr) (n S : Int) : List Int := ml6 h n S ++ [128, 128 * h.marker + h.type] ++ putR h.seq 2 ++ putR h.time 4 ++ putR h.source 4
theorem ml3_ex (h : Hdr) (n : Int) : ml3 h n = (ex h n 0 []).take 20 := by
 simp only [ml3, ml2, ml1, putR2, putR4]; rfl
theorem ml6_ex (h : Hdr) (n S : Int) (h0 : 0 ≤ S) (h1 : S ≤ 65535) : ml6 h n S = ex h n S [] := by
 have e : S / 256 = S / 256 % 256 := by omega
 have e2 : ml4 h n S = ((ml3 h n).set 10 (S / 256 % 256)).set 11 (S % 256) := by rw [← e]; rfl
 simp only [ml6, ml5, e2, ml3, ml2, ml1, putR2, putR4, ex]
 rfl
theorem ml_one {h : Hdr} (hk : h.kind = 1) (ys : List Int) (n S : Int) (hn : n = 28 + ys.length) (hS : S = 65535 - foldS (words (ml3 h n))) : ml6 h n S ++ ys = bldL (headL h ++ ys) := by
 have hr := foldS_rng (words (ml3 h n))
 have e : S = sumOf h n := by rw [hS, sumOf, addS, ml3_ex]; simp [foldS]
 rw [ml6_ex h n S (by omega) (by omega), headL_ex, bldL_ex, tailL, if_neg (by omega), List.nil_append, ← hn, ← e]
 rfl
theorem ml_two {h : Hdr} (hk : h.kind = 2) (ys : List Int) (n S : Int) (hn : n = 40 + ys.length) (hS : S = 65535 - foldS (words (ml3 h n))) : ml7 h n S ++ ys = bldL (headL h ++ ys) := by
 have hr := foldS_rng (words (ml3 h n))
 have e : S = sumOf h n := by rw [hS, sumOf, addS, ml3_ex]; simp [foldS]
 have e2 : n = 28 + ((tailL h ++ ys).length : Nat) := by rw [List.length_append, tailL_len, if_pos hk]; omega
 rw [headL_ex, bldL_ex, ← e2, ← e, ml7, ml6_ex h n S (by omega) (by omega), tailL_ex, if_pos hk]
 simp only [putR2, putR4, ext, ex, List.cons_append, List.nil_append]
set_option maxRecDepth 100000 in
set_option maxHeartbeats 4000000 in
theorem mpacket_any (h : Hdr) (pa : Option Addr) (m pc : Nat) (ys : List Int) (w : World) (hv : validH h = true) (hr : Rd .u8 w pa m ys) (hm : m ≤ 1000) :
  Calls Tryd.prog 27 #[HVal h, .slice pa m pc] w fun e w' => ∃ a n cap, e = .returned (.slice a n cap) ∧ n = (bldL (headL h ++ ys)).length ∧ OwnI w.heap.size 5 .u8 w' a n cap (bldL (headL h ++ ys)) ∧ Gr w w' := by
 obtain ⟨hk, ⟨t1, t2⟩, ⟨l1, l2⟩, _, _, _, _, ⟨x1, x2⟩, _, _, hk1, hk2⟩ := valid_all hv
 have HR := zqd hr
 have HK1 := zqd hk1
 have HK2 := zqd hk2
 have HK := zqd hk
 clear hv hk1 hk2 hk hr
 go_enter Tryd.func27, Tryd.ntmps27
 go_upto_region 1 with (fail)
 obtain ⟨w1, hw1⟩ : ∃ y, y = w.alloc (.cells (HCells h).toArray 49) := ⟨_, rfl⟩
 have hb1 : HBlk w.heap.size h w1 := by rw [hw1]; exact heap_alloc_new _ _
 have hg1 : Gr w w1 := by rw [hw1]; exact Gr.alloc _ _
 have hz1 : w.heap.size < w1.heap.size := heap_lt hb1
 simp only [HCells] at hw1
 rw [← hw1]
 have c1 := hb1.at 1 rfl
 have HB1 := zqd hb1
 have HG1 := zqd hg1
 clear hw1 hb1 hg1
 go_upto_region 2 with (fail)
 obtain ⟨w3, hw3⟩ : ∃ y, y = w1.alloc (.cells ([69, h.tos].map (Value.int .u8)).toArray 5) := ⟨_, rfl⟩
 have hbs : bytesOk [69, h.tos] := by
  intro y hy
  simp only [List.mem_cons, List.not_mem_nil, or_false] at hy
  rcases hy with rfl | rfl <;> omega
 have H3 := zqd (show RowI w h (some ⟨w1.heap.size, 0, none⟩) 2 2 [69, h.tos] w3 by
  have hal : Gr w1 w3 := by rw [hw3]; exact Gr.alloc _ _
  exact ⟨HB1.out.kept hal, by rw [hw3]; exact own_lit _ w1 [69, h.tos] 2 (by omega) rfl (by omega) hbs, HG1.out.trans hal⟩)
 simp only [List.map_cons, List.map_nil] at hw3
 first | rw [← hw3] | (go_show; fail)
 clear hw3 hbs c1 HB1 HG1
 have c0 := H3.out.1.at 0 rfl
 obtain ⟨N, hN⟩ : ∃ N : Nat, N = 28 + m + (if h.kind = 2 then 12 else 0) := ⟨_, rfl⟩
 have HN := zqd hN
 have hN2 : N ≤ 1040 := by rw [hN]; split <;> omega
 clear hN
 obtain ⟨kb, hkb⟩ : ∃ kb, (h.kind == 2) = kb := ⟨_, rfl⟩
 have HKB := zqd hkb
 go_upto_if 18 with (fail)
 clear hkb
 go_cut [6] from 19 to 21 (fun v wc => v = .int .i64 N ∧ w3 = wc)
 case first =>
  cases kb
  ·have e : (28 + m : Int) = N := by have := HN.out; have := HKB.out; rw [if_neg (by simpa using this)] at *; omega
   go_wp2_with fail
   go_meet
   exact ⟨by first | rfl | rw [e], rfl⟩
  ·have e : (40 + m : Int) = N := by have := HN.out; have := HKB.out; rw [if_pos (by simpa using this)] at *; omega
   go_wp2_with fail
   go_meet
   exact ⟨by first | rfl | rw [e], rfl⟩
 obtain ⟨rfl, rfl⟩ := hcut
 clear c0
 have hI : ∀ u, Gr w3 u → u.cell? ⟨w.heap.size, 2, none⟩ = some (.int .i64 h.id) := fun u hu => ((H3).out.gr hu).1.at 2 rfl
 go_upto_region 5 with (fail)
 refine Sched2.wp_region_sched (fun u => u.cell? ⟨w.heap.size, 2, none⟩ = some (.int .i64 h.id)) [3, 4] [] [2, 5, 6] true hI (by kernel_rfl) (by kernel_rfl) ?_
 repeat (first | (refine Sched2.walk1_ord rfl ?_) | ((first | (refine Sched2.walk1_no rfl rfl rfl (fun K hK => ?_)) | (refine Sched2.walk1_gr rfl rfl rfl rfl (fun K hK => ?_); apply Exists.intro; refine ⟨fun w1 hw1 => ?_, ?_⟩; (focus (go_simp; (try go_ints); (try (simp only [IntWalk.iteOmega]; go_simp)); first | done | (with_reducible rfl) | (with_reducible exact ⟨rfl, rfl⟩)))) | (refine Sched2.walk1_late rfl rfl rfl rfl (fun K hK => ?_); apply Exists.intro; refine ⟨fun w1 hw1 => ?_, ?_⟩; (focus (go_simp; (try go_ints); (try (simp only [IntWalk.iteOmega]; go_simp)); first | done | (with_reducible rfl) | (with_reducible exact ⟨rfl, rfl⟩))))); simp only [Act.put, zqa, zqb, zqc]; refine hK _ ?_; clear hK K))
 refine Sched2.walk1_nil ?_
 intro wq hwq
 have HQ := zqd ((H3).out.gr hwq)
 clear hwq hI
 dsimp only [Sched.EndN, List.nil_append, List.cons_append, Act.put]
 (try simp only [zqa, zqb, zqc])
 simp only [Sched2.lasts, List.filterMap_cons, List.filterMap_nil, List.getElem?_toArray, List.getElem?_cons_succ, List.getElem?_cons_zero]
 repeat (first | (refine Sched2.walk2_no rfl (fun K hK => ?_); simp only [Act.put, zqa, zqb, zqc]; refine hK _ ?_; clear hK K) | (refine Sched2.walk2_go rfl (fun K hK => ?_); go_simp; (try go_ints); (try (simp only [IntWalk.iteOmega]; go_simp)); first | (refine hK _ _ (by first | exact .inl ⟨rfl, rfl⟩ | exact .inr ((by assumption))) ?_; clear hK K) | (go_at_call 55; ((with_reducible refine (HQ.out.mput 2 2 4 _ rfl rfl (by omega) (by omega)).mono ?_)); rintro e wm ⟨am, cm, rfl, hrm⟩; have HM := zqd hrm; have him := hrm.1.at 2 rfl; clear hrm; refine ⟨_, rfl, ?_⟩; refine hK _ _ (.inr him) ?_; clear hK K) | (go_at_call 55; ((with_reducible refine (HM.out.mput 2 2 6 _ rfl rfl (by omega) (by omega)).mono ?_)); rintro e w4 ⟨a4, cap4, rfl, hrm2⟩; have H4 := zqd hrm2; have him2 := hrm2.1.at 2 rfl; clear hrm2 him; refine ⟨_, rfl, ?_⟩; refine hK _ _ (.inr him2) ?_; clear hK K him2)))
 refine Sched2.walk2_nil ?_
 clear H3 HQ HM
 have c3 := H4.out.1.at 3 rfl
 have c4 := H4.out.1.at 4 rfl
 have hrd := rd_new (k := .u8) (w := w4) [64 * h.fixed, 0, h.ttl, 17, 0, 0] 5 (0, 0) 6 rfl (by simp [maxLen]) (by
  intro z hz
  simp only [List.mem_cons, List.not_mem_nil, or_false] at hz
  rcases hz with rfl | rfl | rfl | rfl | rfl | rfl <;> exact WalkArith.wf_u8 (by omega))
 obtain ⟨a5, cap5, w5, hrun, hr5⟩ := (H4.out.gr (Gr.alloc w4 (.cells ([64 * h.fixed, 0, h.ttl, 17, 0, 0].map (Value.int .u8)).toArray 5))).app _ 6 6 _ 12 rfl hrd (by omega) (by omega)
 simp only [List.map_cons, List.map_nil] at hrun
 have HRU := zqd hrun
 have H5 := zqd (show RowI w h a5 12 cap5 (ml2 h N) w5 from hr5)
 clear hrun hrd hr5
 go_upto_region 7 with (at_builtin; refine wpList_app rfl _ _ _ rfl rfl rfl HRU.out ?_)
 clear HRU c3 c4 H4
 have hI : ∀ u, Gr w5 u → u.cell? ⟨w.heap.size, 6, none⟩ = some (.int .i64 h.to) := fun u hu => ((H5).out.gr hu).1.at 6 rfl
 have hI1 : ∀ u, Gr w5 u → u.cell? ⟨w.heap.size, 5, none⟩ = some (.int .i64 h.frm) := fun u hu => ((H5).out.gr hu).1.at 5 rfl
 go_upto_region 7 with (fail)
 refine Sched2.wp_region_sched (fun u => u.cell? ⟨w.heap.size, 6, none⟩ = some (.int .i64 h.to)) [4, 5] [] [3, 6, 7] true hI (by kernel_rfl) (by kernel_rfl) ?_
 repeat (first | (refine Sched2.walk1_ord rfl ?_) | ((first | (refine Sched2.walk1_no rfl rfl rfl (fun K hK => ?_)) | (refine Sched2.walk1_gr rfl rfl rfl rfl (fun K hK => ?_); apply Exists.intro; refine ⟨fun w1 hw1 => ?_, ?_⟩; (focus (go_simp; (try go_ints); (try (simp only [IntWalk.iteOmega]; go_simp)); first | done | (with_reducible rfl) | (with_reducible exact ⟨rfl, rfl⟩)))) | (refine Sched2.walk1_late rfl rfl rfl rfl (fun K hK => ?_); apply Exists.intro; refine ⟨fun w1 hw1 => ?_, ?_⟩; (focus (go_simp; (try go_ints); (try (simp only [IntWalk.iteOmega]; go_simp)); first | done | (with_reducible rfl) | (with_reducible exact ⟨rfl, rfl⟩))))); simp only [Act.put, zqa, zqb, zqc]; refine hK _ ?_; clear hK K))
 refine Sched2.walk1_nil ?_
 intro wq hwq
 have HQ := zqd ((H5).out.gr hwq)
 clear hwq hI hI1
 dsimp only [Sched.EndN, List.nil_append, List.cons_append, Act.put]
 (try simp only [zqa, zqb, zqc])
 simp only [Sched2.lasts, List.filterMap_cons, List.filterMap_nil, List.getElem?_toArray, List.getElem?_cons_succ, List.getElem?_cons_zero]
 repeat (first | (refine Sched2.walk2_no rfl (fun K hK => ?_); simp only [Act.put, zqa, zqb, zqc]; refine hK _ ?_; clear hK K) | (refine Sched2.walk2_go rfl (fun K hK => ?_); go_simp; (try go_ints); (try (simp only [IntWalk.iteOmega]; go_simp)); first | (refine hK _ _ (by first | exact .inl ⟨rfl, rfl⟩ | exact .inr ((by assumption))) ?_; clear hK K) | (go_at_call 55; ((with_reducible refine (HQ.out.mput 4 4 16 _ rfl rfl (by omega) (by omega)).mono ?_)); rintro e wm ⟨am, cm, rfl, hrm⟩; have HM := zqd hrm; have him := hrm.1.at 6 rfl; clear hrm; refine ⟨_, rfl, ?_⟩; refine hK _ _ (.inr him) ?_; clear hK K) | (go_at_call 55; ((with_reducible refine (HM.out.mput 4 4 20 _ rfl rfl (by omega) (by omega)).mono ?_)); rintro e w6 ⟨a6, cap6, rfl, hrm2⟩; have H6' := zqd hrm2; have him2 := hrm2.1.at 6 rfl; clear hrm2 him; refine ⟨_, rfl, ?_⟩; refine hK _ _ (.inr him2) ?_; clear hK K him2)))
 refine Sched2.walk2_nil ?_
 have H6 := zqd (show RowI w h a6 20 cap6 (ml3 h N) w6 from H6'.out)
 clear H5 HQ HM H6'
 obtain ⟨L, hL⟩ : ∃ L, ml3 h N = L := ⟨_, rfl⟩
 rw [hL] at H6
 have HL := zqd hL
 clear hL
 obtain ⟨g6, hg6, _⟩ := H6.out.2.1.some (by omega)
 subst hg6
 have hlen : L.length = 20 := H6.out.2.1.len
 have hby : bytesOk L := H6.out.2.1.rd.bytes
 have hw0 := words_rng L hby
 rw [hlen] at hw0
 have HBY := zqd hby
 clear hby
 go_wp2_with fail
 go_loopw [7, 8] (fun s i wr => ∃ (T : Int) (j : Nat), j ≤ 10 ∧ 0 ≤ T ∧ T + words (L.drop (2 * j)) = words L ∧ s = .int .i64 T ∧ i = .int .i64 (2 * (j : Int)) ∧ RowI w h (some ⟨g6, 0, none⟩) 20 cap6 L wr) (fun _ i _ => 20 - (intOf i).toNat)
 case atStart => exact ⟨0, 0, by omega, by omega, by simp, rfl, rfl, H6.out⟩
 case round =>
  clear H6
  obtain ⟨T, j, hj, hT, hTj, rfl, rfl, hI⟩ := hrel
  have H6 := zqd hI
  have hd := (words_rng (L.drop (2 * j)) (fun x hx => HBY.out x (List.mem_of_mem_drop hx))).1
  have hT2 : T ≤ words L := by omega
  have HT := zqd hTj
  clear hTj hd hI
  by_cases h1 : j < 10
  ·have c0 : ∀ u, Gr wr u → u.cell? ⟨g6, 2 * j, none⟩ = some (.int .u8 (L[2 * j]?.getD 0)) := fun u hu => ((H6.out.gr hu).2.1.at (2 * j) (by omega)).1
   have c1 : ∀ u, Gr wr u → u.cell? ⟨g6, 2 * j + 1, none⟩ = some (.int .u8 (L[2 * j + 1]?.getD 0)) := fun u hu => ((H6.out.gr hu).2.1.at (2 * j + 1) (by omega)).1
   have b0 := getD_byte HBY.out (2 * j)
   have b1 := getD_byte HBY.out (2 * j + 1)
   have hd := words_drop1 L (2 * j) (by omega)
   have HD := zqd hd
   clear hd
   go_wp2_with fail
   refine Sched.wp_region_sched 15 [] [] (by kernel_rfl) (by kernel_rfl) ?_
   simp only [List.take_succ_cons, List.take_zero, List.drop_succ_cons, List.drop_zero]
   repeat (first | ((first | (refine Sched.walk1_no rfl rfl (fun K hK => ?_)) | (refine Sched.walk1_gr rfl rfl rfl (fun K hK => ?_); apply Exists.intro; refine ⟨fun w1 hw1 => ?_, ?_⟩; (focus (go_simp; (try go_ints); (try (simp only [IntWalk.iteOmega]; go_simp)); first | done | (with_reducible rfl) | (with_reducible exact ⟨rfl, rfl⟩))))); simp only [Act.put, zqa, zqb, zqc]; refine hK _ ?_; clear hK K))
   refine Sched.walk1_nil ?_
   intro wq hwq
   dsimp only [Sched.EndN, List.nil_append, List.cons_append, Act.put]
   (try simp only [zqa, zqb, zqc])
   repeat (first | (refine Sched.walk2_no rfl (fun K hK => ?_); simp only [Act.put, zqa, zqb, zqc]; refine hK _ ?_; clear hK K) | (refine Sched.walk2_go rfl (fun K hK => ?_); go_simp; (try go_ints); (try (simp only [IntWalk.iteOmega]; go_simp)); (refine hK _ _ ?_; clear hK K)))
   refine Sched.walk2_nil ?_
   have HQ := zqd (H6.out.gr hwq)
   clear hwq c0 c1
   go_wp2_with fail
   go_roundw
   case rel => exact ⟨_, j + 1, by omega, by omega, by have := HT.out; have := HD.out; rw [show 2 * (j + 1) = 2 * j + 2 by omega]; omega, rfl, by go_num, HQ.out⟩
   case measure => (simp [intOf] <;> omega)
  ·obtain rfl : j = 10 := by omega
   have hT3 : T = words L := by
    have := HT.out
    rw [words_end L _ (by omega)] at this
    omega
   clear hT2 hj h1
   have HT3 := zqd hT3
   clear hT3
   go_wp2_with fail
   go_loopw [7] (fun s wz => ∃ T' : Int, 0 ≤ T' ∧ T' ≤ 1000000 ∧ foldS T' = foldS (words L) ∧ s = .int .i64 T' ∧ wr = wz) (fun s _ => (intOf s).toNat)
   case atStart => exact ⟨T, hT, by have := HT3.out; omega, by rw [HT3.out], rfl, rfl⟩
   case round =>
    clear HT HT3 hT
    obtain ⟨T', hT0, hT1, hTf, rfl, rfl⟩ := hrel
    have HTF := zqd hTf
    clear hTf
    by_cases hbig : 65535 < T'
    ·have hs := foldS_step hbig
     have HSS := zqd hs
     clear hs
     go_wp2_with fail
     go_roundw
     case rel => exact ⟨_, by omega, by omega, HSS.out.trans HTF.out, rfl, trivial⟩
     case measure => (simp [intOf] <;> omega)
    ·obtain ⟨S, hS⟩ : ∃ S, S = 65535 - T' := ⟨_, rfl⟩
     have hS0 : 0 ≤ S ∧ S ≤ 65535 := by omega
     have HS2 := zqd (show S = 65535 - foldS (words L) by rw [← HTF.out, foldS_small hT0 (by omega)]; exact hS)
     obtain rfl : T' = 65535 - S := by omega
     have hSS : 65535 - (65535 - S) = S := by omega
     clear hS HTF hbig
     obtain ⟨c1, f1⟩ := H6.out.2.1.at 10 (by omega)
     have hs := H6.out.2.1.set 10 (S / 256) (WalkArith.wf_u8 (by omega))
     obtain ⟨c2, f2⟩ := hs.at 11 (by omega)
     have hs2 := hs.set 11 (S % 256) (WalkArith.wf_u8 (by omega))
     have HI7 := zqd (H6.out.turn hs2 (grown_trans' (grown_setAt wr g6 10 (.int .u8 (S / 256))) (grown_setAt (wr.setCell ⟨g6, 10, none⟩ (.int .u8 (S / 256))) g6 11 (.int .u8 (S % 256)))))
     clear hs hs2 H6
     go_upto_region 16 with (fail)
     obtain ⟨w7, hw7⟩ : ∃ y, y = (wr.setCell ⟨g6, 10, none⟩ (.int .u8 (S / 256))).setCell ⟨g6, 11, none⟩ (.int .u8 (S % 256)) := ⟨_, rfl⟩
     first | rw [← hw7] | (rw [hSS]; rw [← hw7]) | (go_show; fail)
     have H7 := zqd (show RowI w h (some ⟨g6, 0, none⟩) 20 cap6 ((L.set 10 (S / 256)).set 11 (S % 256)) w7 by rw [hw7]; exact HI7.out)
     clear hw7 HI7 c1 f1 c2 f2 hSS
     have hI : ∀ u, Gr w7 u → u.cell? ⟨w.heap.size, 8, none⟩ = some (.int .i64 h.tport) := fun u hu => ((H7).out.gr hu).1.at 8 rfl
     have hI1 : ∀ u, Gr w7 u → u.cell? ⟨w.heap.size, 7, none⟩ = some (.int .i64 h.fport) := fun u hu => ((H7).out.gr hu).1.at 7 rfl
     go_upto_region 16 with (fail)
     refine Sched2.wp_region_sched (fun u => u.cell? ⟨w.heap.size, 8, none⟩ = some (.int .i64 h.tport)) [4, 5] [] [3, 6, 7] true hI (by kernel_rfl) (by kernel_rfl) ?_
     repeat (first | (refine Sched2.walk1_ord rfl ?_) | ((first | (refine Sched2.walk1_no rfl rfl rfl (fun K hK => ?_)) | (refine Sched2.walk1_gr rfl rfl rfl rfl (fun K hK => ?_); apply Exists.intro; refine ⟨fun w1 hw1 => ?_, ?_⟩; (focus (go_simp; (try go_ints); (try (simp only [IntWalk.iteOmega]; go_simp)); first | done | (with_reducible rfl) | (with_reducible exact ⟨rfl, rfl⟩)))) | (refine Sched2.walk1_late rfl rfl rfl rfl (fun K hK => ?_); apply Exists.intro; refine ⟨fun w1 hw1 => ?_, ?_⟩; (focus (go_simp; (try go_ints); (try (simp only [IntWalk.iteOmega]; go_simp)); first | done | (with_reducible rfl) | (with_reducible exact ⟨rfl, rfl⟩))))); simp only [Act.put, zqa, zqb, zqc]; refine hK _ ?_; clear hK K))
     refine Sched2.walk1_nil ?_
     intro wq hwq
     have HQ := zqd ((H7).out.gr hwq)
     clear hwq hI hI1
     dsimp only [Sched.EndN, List.nil_append, List.cons_append, Act.put]
     (try simp only [zqa, zqb, zqc])
     simp only [Sched2.lasts, List.filterMap_cons, List.filterMap_nil, List.getElem?_toArray, List.getElem?_cons_succ, List.getElem?_cons_zero]
     repeat (first | (refine Sched2.walk2_no rfl (fun K hK => ?_); simp only [Act.put, zqa, zqb, zqc]; refine hK _ ?_; clear hK K) | (refine Sched2.walk2_go rfl (fun K hK => ?_); go_simp; (try go_ints); (try (simp only [IntWalk.iteOmega]; go_simp)); first | (refine hK _ _ (by first | exact .inl ⟨rfl, rfl⟩ | exact .inr ((by assumption))) ?_; clear hK K) | (go_at_call 55; ((with_reducible refine (HQ.out.mput 2 2 22 _ rfl rfl (by omega) (by omega)).mono ?_)); rintro e wm ⟨am, cm, rfl, hrm⟩; have HM := zqd hrm; have him := hrm.1.at 8 rfl; clear hrm; refine ⟨_, rfl, ?_⟩; refine hK _ _ (.inr him) ?_; clear hK K) | (go_at_call 55; ((with_reducible refine (HM.out.mput 2 2 24 _ rfl rfl (by omega) (by omega)).mono ?_)); rintro e w8 ⟨a8, cap8, rfl, hrm2⟩; have H8 := zqd hrm2; have him2 := hrm2.1.at 8 rfl; clear hrm2 him; refine ⟨_, rfl, ?_⟩; refine hK _ _ (.inr him2) ?_; clear hK K him2)))
     refine Sched2.walk2_nil ?_
     clear H7 HQ HM
     have hI : ∀ u, Gr w8 u → u.cell? ⟨w.heap.size, 9, none⟩ = some (.int .i64 h.check) := fun u hu => ((H8).out.gr hu).1.at 9 rfl
     go_upto_region 17 with (fail)
     refine Sched2.wp_region_sched (fun u => u.cell? ⟨w.heap.size, 9, none⟩ = some (.int .i64 h.check)) [4, 5] [] [3, 6, 7] true hI (by kernel_rfl) (by kernel_rfl) ?_
     repeat (first | (refine Sched2.walk1_ord rfl ?_) | ((first | (refine Sched2.walk1_no rfl rfl rfl (fun K hK => ?_)) | (refine Sched2.walk1_gr rfl rfl rfl rfl (fun K hK => ?_); apply Exists.intro; refine ⟨fun w1 hw1 => ?_, ?_⟩; (focus (go_simp; (try go_ints); (try (simp only [IntWalk.iteOmega]; go_simp)); first | done | (with_reducible rfl) | (with_reducible exact ⟨rfl, rfl⟩)))) | (refine Sched2.walk1_late rfl rfl rfl rfl (fun K hK => ?_); apply Exists.intro; refine ⟨fun w1 hw1 => ?_, ?_⟩; (focus (go_simp; (try go_ints); (try (simp only [IntWalk.iteOmega]; go_simp)); first | done | (with_reducible rfl) | (with_reducible exact ⟨rfl, rfl⟩))))); simp only [Act.put, zqa, zqb, zqc]; refine hK _ ?_; clear hK K))
     refine Sched2.walk1_nil ?_
     intro wq hwq
     have HQ := zqd ((H8).out.gr hwq)
     clear hwq hI
     dsimp only [Sched.EndN, List.nil_append, List.cons_append, Act.put]
     (try simp only [zqa, zqb, zqc])
     simp only [Sched2.lasts, List.filterMap_cons, List.filterMap_nil, List.getElem?_toArray, List.getElem?_cons_succ, List.getElem?_cons_zero]
     repeat (first | (refine Sched2.walk2_no rfl (fun K hK => ?_); simp only [Act.put, zqa, zqb, zqc]; refine hK _ ?_; clear hK K) | (refine Sched2.walk2_go rfl (fun K hK => ?_); go_simp; (try go_ints); (try (simp only [IntWalk.iteOmega]; go_simp)); first | (refine hK _ _ (by first | exact .inl ⟨rfl, rfl⟩ | exact .inr ((by assumption))) ?_; clear hK K) | (go_at_call 55; ((with_reducible refine (HQ.out.mput 2 2 26 _ rfl rfl (by omega) (by omega)).mono ?_)); rintro e wm ⟨am, cm, rfl, hrm⟩; have HM := zqd hrm; have him := hrm.1.at 9 rfl; clear hrm; refine ⟨_, rfl, ?_⟩; refine hK _ _ (.inr him) ?_; clear hK K) | (go_at_call 55; ((with_reducible refine (HM.out.mput 2 2 28 _ rfl rfl (by omega) (by omega)).mono ?_)); rintro e w9 ⟨a9, cap9, rfl, hrm2⟩; have H9' := zqd hrm2; have him2 := hrm2.1.at 9 rfl; clear hrm2 him; refine ⟨_, rfl, ?_⟩; refine hK _ _ (.inr him2) ?_; clear hK K him2)))
     refine Sched2.walk2_nil ?_
     have H9 := zqd (show RowI w h a9 28 cap9 (ml6 h N S) w9 by rw [ml6, ml5, ml4, HL.out]; exact H9'.out)
     clear H8 HQ HM H9'
     have k0 := H9.out.1.at 0 rfl
     rcases HK.out with hk | hk
     ·have hkb : (h.kind == 2) = false := by rw [hk]; rfl
      have HKK := zqd hk
      have hNm : (N : Int) = 28 + ys.length := by rw [HR.out.1, HN.out, if_neg (by omega)]; omega
      have HNM := zqd hNm
      clear hk hNm
      obtain ⟨af, cf, wf, hrun, hrf⟩ := H9.out.app pa m pc ys (28 + m) rfl (rd_gr HR.out H9.out.2.2) (by omega) (by omega)
      have HRU := zqd hrun
      have HF := zqd hrf
      clear hrun hrf
      go_wp2_with (at_builtin; refine wpList_app rfl _ _ _ rfl rfl rfl HRU.out ?_)
      go_ret
      have e := ml_one HKK.out ys N S HNM.out (by rw [HL.out]; exact HS2.out)
      have hf := HF.out
      rw [e] at hf
      exact ⟨af, _, cf, rfl, hf.2.1.len.symm, hf.2.1.weak (by omega), hf.2.2⟩
     ·have hkb : (h.kind == 2) = true := by rw [hk]; rfl
      obtain ⟨⟨m1, m2⟩, ⟨y1, y2⟩, _⟩ := HK2.out hk
      have HKK := zqd hk
      have hNm : (N : Int) = 40 + ys.length := by rw [HR.out.1, HN.out, if_pos hk]; omega
      have HNM := zqd hNm
      clear hk hNm
      have k10 := H9.out.1.at 10 rfl
      have k11 := H9.out.1.at 11 rfl
      have hrd := rd_new (k := .u8) (w := w9) [128, 128 * h.marker + h.type] 5 (0, 0) 2 rfl (by simp [maxLen]) (by
       intro z hz
       simp only [List.mem_cons, List.not_mem_nil, or_false] at hz
       rcases hz with rfl | rfl <;> exact WalkArith.wf_u8 (by omega))
      obtain ⟨a10, cap10, w10, hrun, hr10⟩ := (H9.out.gr (Gr.alloc w9 (.cells ([128, 128 * h.marker + h.type].map (Value.int .u8)).toArray 5))).app _ 2 2 _ 30 rfl hrd (by omega) (by omega)
      simp only [List.map_cons, List.map_nil] at hrun
      have HRU := zqd hrun
      have H10 := zqd hr10
      clear hrun hrd hr10
      go_upto_region 20 with (at_builtin; refine wpList_app rfl _ _ _ rfl rfl rfl HRU.out ?_)
      clear HRU k0 k10 k11 H9
      have hI : ∀ u, Gr w10 u → u.cell? ⟨w.heap.size, 13, none⟩ = some (.int .i64 h.time) ∧ u.cell? ⟨w.heap.size, 14, none⟩ = some (.int .i64 h.source) := fun u hu => ⟨(H10.out.gr hu).1.at 13 rfl, (H10.out.gr hu).1.at 14 rfl⟩
      have hI1 : ∀ u, Gr w10 u → u.cell? ⟨w.heap.size, 12, none⟩ = some (.int .i64 h.seq) := fun u hu => (H10.out.gr hu).1.at 12 rfl
      refine Sched2.wp_region_sched (fun u => u.cell? ⟨w.heap.size, 13, none⟩ = some (.int .i64 h.time) ∧ u.cell? ⟨w.heap.size, 14, none⟩ = some (.int .i64 h.source)) [4, 5, 7, 8] [] [3, 6, 9, 10] true hI (by kernel_rfl) (by kernel_rfl) ?_
      repeat (first | (refine Sched2.walk1_ord rfl ?_) | ((first | (refine Sched2.walk1_no rfl rfl rfl (fun K hK => ?_)) | (refine Sched2.walk1_gr rfl rfl rfl rfl (fun K hK => ?_); apply Exists.intro; refine ⟨fun w1 hw1 => ?_, ?_⟩; (focus (go_simp; (try go_ints); (try (simp only [IntWalk.iteOmega]; go_simp)); first | done | (with_reducible rfl) | (with_reducible exact ⟨rfl, rfl⟩)))) | (refine Sched2.walk1_late rfl rfl rfl rfl (fun K hK => ?_); apply Exists.intro; refine ⟨fun w1 hw1 => ?_, ?_⟩; (focus (go_simp; (try go_ints); (try (simp only [IntWalk.iteOmega]; go_simp)); first | done | (with_reducible rfl) | (with_reducible exact ⟨rfl, rfl⟩))))); simp only [Act.put, zqa, zqb, zqc]; refine hK _ ?_; clear hK K))
      refine Sched2.walk1_nil ?_
      intro wq hwq
      have HQ := zqd (H10.out.gr hwq)
      clear hwq hI hI1
      dsimp only [Sched.EndN, List.nil_append, List.cons_append, Act.put]
      (try simp only [zqa, zqb, zqc])
      simp only [Sched2.lasts, List.filterMap_cons, List.filterMap_nil, List.getElem?_toArray, List.getElem?_cons_succ, List.getElem?_cons_zero]
      repeat (first | (refine Sched2.walk2_no rfl (fun K hK => ?_); simp only [Act.put, zqa, zqb, zqc]; refine hK _ ?_; clear hK K) | (refine Sched2.walk2_go rfl (fun K hK => ?_); go_simp; (try go_ints); (try (simp only [IntWalk.iteOmega]; go_simp)); first | (refine hK _ _ (by first | exact .inl ⟨rfl, rfl⟩ | exact .inr ((by assumption))) ?_; clear hK K) | (go_at_call 55; ((with_reducible refine (HQ.out.mput 2 2 32 _ rfl rfl (by omega) (by omega)).mono ?_)); rintro e wm ⟨am, cm, rfl, hrm⟩; have HM := zqd hrm; have him : _ ∧ _ := ⟨hrm.1.at 13 rfl, hrm.1.at 14 rfl⟩; clear hrm; refine ⟨_, rfl, ?_⟩; refine hK _ _ (.inr him) ?_; clear hK K) | (go_at_call 55; ((with_reducible refine (HM.out.mput 4 4 36 _ rfl rfl (by omega) (by omega)).mono ?_)); rintro e wn ⟨an, cn, rfl, hrn⟩; have HN3 := zqd hrn; have hin : _ ∧ _ := ⟨hrn.1.at 13 rfl, hrn.1.at 14 rfl⟩; clear hrn him; refine ⟨_, rfl, ?_⟩; refine hK _ _ (.inr hin) ?_; clear hK K) | (go_at_call 55; ((with_reducible refine (HN3.out.mput 4 4 40 _ rfl rfl (by omega) (by omega)).mono ?_)); rintro e wz ⟨az, cz, rfl, hrz⟩; have HZ := zqd (show RowI w h az 40 cz (ml7 h N S) wz from hrz); have hiz : _ ∧ _ := ⟨hrz.1.at 13 rfl, hrz.1.at 14 rfl⟩; clear hrz hin; refine ⟨_, rfl, ?_⟩; refine hK _ _ (.inr hiz) ?_; clear hK K hiz)))
      refine Sched2.walk2_nil ?_
      obtain ⟨af, cf, wf, hrun, hrf⟩ := HZ.out.app pa m pc ys (40 + m) rfl (rd_gr HR.out HZ.out.2.2) (by omega) (by omega)
      have HRU := zqd hrun
      have HF := zqd hrf
      clear hrun hrf
      go_wp2_with (at_builtin; refine wpList_app rfl _ _ _ rfl rfl rfl HRU.out ?_)
      go_ret
      have e := ml_two HKK.out ys N S HNM.out (by rw [HL.out]; exact HS2.out)
      have hf := HF.out
      rw [e] at hf
      exact ⟨af, _, cf, rfl, hf.2.1.len.symm, hf.2.1.weak (by omega), hf.2.2⟩
end Go.Proofs.YtlnkofpcidngoaaDoor