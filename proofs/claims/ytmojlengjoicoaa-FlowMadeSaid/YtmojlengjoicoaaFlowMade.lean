/- The law FlowMade (layer 06): its walk. -/
import Derived.Test.YtmojlengjoicoaaFlowO
import Derived.Test.YtmojlengjoicoaaFlowE
import Derived.Test.YtmojlengjoicoaaFlowX
import Derived.Test.YtmojlengjoicoaaFlowN
namespace Go.Proofs.Ytmojlengjoicoaa
open Go.ChangeShapes Go.WideShapes Go.ChangeAt Go.RowKit

theorem HBlk.loadG {G : World → World → Prop} {g : Nat} {h : Hdr} {w : World} (hb : HBlk g h w) {o : Oper} {a : Act} {late : Bool} (x : Operand) (ho : o.op = .load 29 x) (hx : a.eval x = .pointer (some ⟨g, 0, none⟩)) : SchedG.gq Try.prog G o a w (HVal h) late := by
  unfold SchedG.gq execOp
  simp only [ho, hx, Instr.loadAt, Instr.sureAddr, Sem.run_bind, Sem.run_pure, Result.andThen_ok, run_loadVar_row w g _ 29 _ _ _ hb Try.underlying29 rfl (by kernel_rfl)]
  exact ⟨trivial, trivial⟩
theorem made_rngN' {fl : Int} {h : Hdr} (hm : MadeH fl h) (h0 : 0 ≤ fl) (h1 : fl ≤ 10) : RngH h := by
  have ho := made_ok hm h0 h1
  obtain ⟨k, t, i, f, l, fr, tt, fp, tp, c, r⟩ := hm
  refine ⟨ho, i, c, ?_, ?_⟩ <;> (rcases r with ⟨r0, r1, r2, r3, r4, r5⟩ | ⟨r0, r1, r2, r3, r4, r5⟩ <;> omega)
theorem fexact_is {a b : Hdr} {s f n : Int} (w : World) (ha : HOk a) (hb : HOk b) : Calls Try.prog 4 #[.agg #[.int .i64 a.kind, .int .i64 a.tos, .int .i64 a.id, .int .i64 a.fixed, .int .i64 a.ttl, .int .i64 a.frm, .int .i64 a.to, .int .i64 a.fport, .int .i64 a.tport, .int .i64 a.check, .int .i64 a.marker, .int .i64 a.type, .int .i64 a.seq, .int .i64 a.time, .int .i64 a.source, .int .i64 b.kind, .int .i64 b.tos, .int .i64 b.id, .int .i64 b.fixed, .int .i64 b.ttl, .int .i64 b.frm, .int .i64 b.to, .int .i64 b.fport, .int .i64 b.tport, .int .i64 b.check, .int .i64 b.marker, .int .i64 b.type, .int .i64 b.seq, .int .i64 b.time, .int .i64 b.source], DVal s f, .int .i64 n] w fun e w' => e = .returned (.bool true) ∧ Gr w w' :=
  fexact_any a b (HCells a ++ HCells b) s f n w rfl ha hb
def NBool : Sched.NPred := fun _ _ v _ => ∃ b : Bool, v = .bool b
theorem NBool.stable {G : World → World → Prop} : SchedG.Stable G NBool := fun _ _ _ _ _ h _ => h
def NHdr : Sched.NPred := fun _ _ v _ => ∃ h : Hdr, v = HVal h ∧ HOk h
theorem NHdr.stable {G : World → World → Prop} : SchedG.Stable G NHdr := fun _ _ _ _ _ h _ => h
abbrev zblk : Obj := .cells (HCells zeroH).toArray 29
def MdRel (p gA gB gD : Nat) (A : Hdr) (w0 wc : World) : Prop := ∃ (B : Hdr) (s f : Int), HOk B ∧ HBlk gA A wc ∧ HBlk gB B wc ∧ DBlk gD s f wc ∧ Die wc p ∧ w0.grownBy wc (some p)
theorem MdRel.dice {p gA gB gD : Nat} {A : Hdr} {w0 wc w' : World} (h : MdRel p gA gB gD A w0 wc) (hd : Die w' p) (hg : wc.grownBy w' (some p)) (h1 : gA ≠ p) (h2 : gB ≠ p) (h3 : gD ≠ p) : MdRel p gA gB gD A w0 w' := by
  obtain ⟨B, s, f, ho, hA, hB, hS, hD, hX⟩ := h
  exact ⟨B, s, f, ho, hA.dice hg h1, hB.dice hg h2, hS.dice hg h3, hd, grown_trans' hX hg⟩
set_option maxRecDepth 100000 in
set_option maxHeartbeats 4000000 in
theorem made_walk (a : Option Addr) (len cap : Nat) (ts : List Int) (n : Int) (w : World) (hr : Rd .i64 w a len ts) : Calls Try.prog 5 #[.slice a len cap, .int .i64 n] w fun e w' => e = .returned (.bool true) ∧ Gr w w' := by
  have hm : len ≤ 9223372036854775807 := by have := hr.2.2.1; simp only [maxLen] at this; omega
  have HR := Lib.hid hr
  clear hr
  go_enter Try.func5, Try.ntmps5
  by_cases hlen : len ≤ 400
  rotate_left
  · have hld : decide (len ≤ 400) = false := decide_eq_false hlen
    go_wp2_with ((go_at_call 14; refine (light_any _ _ _ _ hm).mono ?_; rintro e w' ⟨rfl, rfl⟩))
    refine (awake06 w).mono ?_
    rintro e w2 ⟨rfl, hg2⟩
    have HG2 := Lib.hid hg2
    clear hg2
    go_wp2_with fail
    go_ret
    exact ⟨rfl, HG2.out⟩
  have hld : decide (len ≤ 400) = true := decide_eq_true hlen
  go_wp2_with ((go_at_call 14; refine (light_any _ _ _ _ hm).mono ?_; rintro e w' ⟨rfl, rfl⟩))
  refine (roll_any a len cap ts w HR.out).mono ?_
  rintro e w2 ⟨p, rfl, hd2, hg2, hp2⟩
  have HD2 := Lib.hid hd2
  have HG2 := Lib.hid hg2
  clear hd2 hg2 hld
  go_wp2_with fail
  refine (next_any p 4 _ HD2.out (by omega) (by omega)).mono ?_
  rintro e w3 ⟨fl, rfl, fl1, fl2, hd3, hg3⟩
  have HD3 := Lib.hid hd3
  have HX3 := Lib.hid hg3
  clear hd3 hg3
  go_wp2_with fail
  refine (header_any p fl w3 HD3.out fl1 (by omega)).mono ?_
  rintro e w4 ⟨A, rfl, hmade, hd4, hg4⟩
  have HMA := Lib.hid hmade
  have HD4 := Lib.hid hd4
  have HX4 := Lib.hid (grown_trans' HX3.out hg4)
  clear hd4 hg4 hmade
  go_upto_region 5 with (fail)
  obtain ⟨w5, hw5⟩ : ∃ y, y = w4.alloc (.cells (HCells A).toArray 29) := ⟨_, rfl⟩
  have hr5 : HBlk w4.heap.size A w5 := by rw [hw5]; exact heap_alloc_new _ _
  have hg5 : Gr w4 w5 := by rw [hw5]; exact Gr.alloc _ _
  simp only [HCells] at hw5
  rw [← hw5]
  have HA5 := Lib.hid hr5
  have HD5 := Lib.hid (HD4.out.kept hg5 (by simp))
  have HX5 := Lib.hid (grown_trans' HX4.out (grown_weak hg5 _))
  have hp4 : p < w4.heap.size := HD4.out.lt
  clear hw5 hr5 hg5
  obtain ⟨g, hgg⟩ : ∃ g, w4.heap.size = g := ⟨_, rfl⟩
  rw [hgg] at hp4 HA5 ⊢
  have hz2 : w2.heap.size ≤ g := by rw [← hgg]; exact HX4.out.size
  clear hgg
  have HRNG := Lib.hid (made_rngN' HMA.out fl1 (by omega))
  refine SchedG.wp_region_schedg 6 [] [3, 4, 5] (SchedD.nsel [(3, NBool), (4, NHdr), (5, NDRow p (fun lo => .pointer (some ⟨lo, 0, none⟩)) zblk)]) [(4, [(3, 22)])] (okDG p) (DG.drew HD5.out) (by kernel_rfl) (by kernel_rfl) ?_
  simp only [List.take_succ_cons, List.take_zero, List.drop_succ_cons, List.drop_zero]
  repeat (first | ((with_reducible refine SchedG.walk1_no ?_ ?_ ?_ (fun K hK => ?_)); (focus rfl); (focus rfl); (focus rfl); simp only [Act.put, List.setIfInBounds_toArray, List.set_cons_zero, List.set_cons_succ]; refine hK _ ?_; clear hK K) | ((with_reducible refine SchedG.walk1_gr ?_ ?_ ?_ ?_ (fun K hK => ?_)); (focus rfl); (focus rfl); (focus rfl); (focus rfl); apply Exists.intro; refine ⟨fun w1 hw1 => ?_, ?_⟩; (focus (go_simp; (try go_ints); (try (simp only [IntWalk.iteOmega]; go_simp)); first | done | fail | (with_reducible rfl) | (with_reducible exact ⟨rfl, rfl⟩))); simp only [Act.put, List.setIfInBounds_toArray, List.set_cons_zero, List.set_cons_succ]; refine hK _ ?_; clear hK K) | ((with_reducible refine SchedG.walk1_pure ?_ ?_ ?_ ?_ (fun K hK => ?_)); (focus rfl); (focus rfl); (focus rfl); (focus rfl); apply Exists.intro; refine ⟨fun w1 => ?_, ?_⟩; (focus (go_simp; (try go_ints); (try (simp only [IntWalk.iteOmega]; go_simp)); first | done | (with_reducible rfl) | (with_reducible exact ⟨rfl, rfl⟩))); simp only [Act.put, List.setIfInBounds_toArray, List.set_cons_zero, List.set_cons_succ]; refine hK _ ?_; clear hK K))
  refine SchedG.walk1_gr rfl rfl rfl rfl (fun K hK => ?_)
  refine ⟨HVal A, fun w1 hw1 => (HA5.out.dice hw1.1 (by omega)).loadG _ rfl rfl, ?_⟩
  simp only [Act.put, List.setIfInBounds_toArray, List.set_cons_zero, List.set_cons_succ]
  refine hK _ ?_
  clear hK K
  repeat (first | ((with_reducible refine SchedG.walk1_no ?_ ?_ ?_ (fun K hK => ?_)); (focus rfl); (focus rfl); (focus rfl); simp only [Act.put, List.setIfInBounds_toArray, List.set_cons_zero, List.set_cons_succ]; refine hK _ ?_; clear hK K) | ((with_reducible refine SchedG.walk1_gr ?_ ?_ ?_ ?_ (fun K hK => ?_)); (focus rfl); (focus rfl); (focus rfl); (focus rfl); apply Exists.intro; refine ⟨fun w1 hw1 => ?_, ?_⟩; (focus (go_simp; (try go_ints); (try (simp only [IntWalk.iteOmega]; go_simp)); first | done | fail | (with_reducible rfl) | (with_reducible exact ⟨rfl, rfl⟩))); simp only [Act.put, List.setIfInBounds_toArray, List.set_cons_zero, List.set_cons_succ]; refine hK _ ?_; clear hK K) | ((with_reducible refine SchedG.walk1_pure ?_ ?_ ?_ ?_ (fun K hK => ?_)); (focus rfl); (focus rfl); (focus rfl); (focus rfl); apply Exists.intro; refine ⟨fun w1 => ?_, ?_⟩; (focus (go_simp; (try go_ints); (try (simp only [IntWalk.iteOmega]; go_simp)); first | done | (with_reducible rfl) | (with_reducible exact ⟨rfl, rfl⟩))); simp only [Act.put, List.setIfInBounds_toArray, List.set_cons_zero, List.set_cons_succ]; refine hK _ ?_; clear hK K))
  refine SchedG.walk1_new0 NBool rfl rfl rfl rfl NBool.stable (fun u hu => ?_) ?_
  · go_simp
    go_at_call 36
    refine (one_any p 2 u hu.2 (by omega) (by omega)).mono ?_
    rintro e w8 ⟨b, rfl, hdx, hgx⟩
    exact ⟨_, rfl, ⟨hgx, hdx⟩, b, rfl⟩
  refine SchedG.walk1_new1 NHdr NBool 3 22 rfl rfl rfl rfl NHdr.stable (fun u hu lo1 hi1 u1 q1 => ?_) ?_
  · obtain ⟨b, rfl⟩ := q1
    refine ⟨rfl, ?_⟩
    go_simp
    go_at_call 35
    refine (follow_any p A b u hu.2 HRNG.out).mono ?_
    rintro e w8 ⟨C, rfl, -, hrng, -, hdx, hgx⟩
    exact ⟨_, rfl, ⟨hgx, hdx⟩, C, rfl, hrng.1⟩
  refine SchedG.walk1_new0 (NDRow p (fun lo => .pointer (some ⟨lo, 0, none⟩)) zblk) rfl rfl rfl rfl (NDRow.stable _ _ _) (fun u hu => ?_) ?_
  · go_simp
    exact ⟨DG.alloc hu.2 _, rfl, hu.2.lt, heap_alloc_new _ _⟩
  (with_reducible refine SchedG.walk1_nil ?_)
  intro wq hwq
  dsimp only [Sched.EndN, List.nil_append, List.cons_append, Act.put]
  rintro lo1 hi1 u1 - - - - - lo2 hi2 u2 ⟨B, rfl, hB⟩ - - - - lo3 hi3 u3 ⟨rfl, hlt3, hblk3⟩ hlo3 hle3 hhi3 -
  simp only [List.setIfInBounds_toArray, List.set_cons_zero, List.set_cons_succ]
  obtain ⟨w6, hw6⟩ : ∃ y, y = wq.setCells lo3 0 (HCells B).toArray.toList := ⟨_, rfl⟩
  have hA5 := HA5.out.dice hwq.1 (by omega)
  have hltg := heap_lt HA5.out
  have hB6 : HBlk lo3 B w6 := by rw [hw6]; exact heap_setCells (HCells B) 0 wq _ hblk3
  have hA6 : HBlk g A w6 := by rw [hw6]; exact blk_kept hA5 (grown_setCells lo3 _ _ _) (by simp; omega)
  have hD6 : Die w6 p := by rw [hw6]; exact hwq.2.kept (grown_setCells lo3 _ _ _) (by simp; omega)
  have hX6 : w2.grownBy w6 (some p) := by rw [hw6]; exact grown_setCells_new (grown_trans' HX5.out hwq.1) (by have := HX5.out.size; omega) _ _
  have ht6 : wq.there lo3 0 (HCells B).toArray.size := there_block hblk3 (by simp)
  refine Sched.walk2_go rfl (fun K hK => ?_)
  refine tq_store 29 _ _ rfl lo3 0 (HCells B).toArray rfl rfl ht6 (by kernel_rfl) (hcells_one B) ?_
  rw [← hw6]
  simp only [Act.put]
  refine hK _ _ ?_
  clear hK K
  refine Sched.walk2_nil ?_
  have HA6 := Lib.hid hA6
  have HB6 := Lib.hid hB6
  have HD6 := Lib.hid hD6
  have HX6 := Lib.hid hX6
  have HOB := Lib.hid hB
  have hgl : g < lo3 := by omega
  clear hw6 hA5 hltg hB6 hA6 hD6 hX6 ht6 hwq hblk3 hlt3 hlo3 hle3 hhi3 hB
  obtain ⟨gB, rfl⟩ : ∃ x, x = lo3 := ⟨_, rfl⟩
  have k0 : w6.cell? ⟨g, 0, none⟩ = some (.int .i64 A.kind) := HA6.out.at 0 rfl
  go_wp2_with fail
  refine (dynamic_any p A.kind w6 HD6.out).mono ?_
  rintro e w7 ⟨s, f, rfl, -, -, -, hd7, hg7⟩
  have HA7 := Lib.hid (HA6.out.dice hg7 (by omega))
  have HB7 := Lib.hid (HB6.out.dice hg7 (by omega))
  have HD7 := Lib.hid hd7
  have HX7 := Lib.hid (grown_trans' HX6.out hg7)
  clear hd7 hg7 k0 HA6 HB6 HD6 HX6 HA5 HD5 HX5
  go_upto_region 7 with (fail)
  obtain ⟨w8, hw8⟩ : ∃ y, y = w7.alloc (.cells #[.int .i64 s, .int .i64 f] 33) := ⟨_, rfl⟩
  rw [← hw8]
  have hs8 : DBlk w7.heap.size s f w8 := by rw [hw8]; exact heap_alloc_new _ _
  have hg8 : Gr w7 w8 := by rw [hw8]; exact Gr.alloc _ _
  have hgd : gB < w7.heap.size := heap_lt HB7.out
  obtain ⟨gD, hgD⟩ : ∃ x, w7.heap.size = x := ⟨_, rfl⟩
  rw [hgD] at hs8 hgd ⊢
  have HR8 := Lib.hid (show MdRel p g gB gD A w2 w8 from ⟨B, s, f, HOB.out, HA7.out.kept hg8, HB7.out.kept hg8, hs8, HD7.out.kept hg8 (by simp), grown_trans' HX7.out (grown_weak hg8 _)⟩)
  clear hw8 hs8 hg8 hgD HA7 HB7 HD7 HX7 HOB
  go_wp2_with fail
  refine (one_any p 6 _ (by obtain ⟨_, _, _, _, _, _, _, h, _⟩ := HR8.out; exact h) (by omega) (by omega)).mono ?_
  rintro e w9 ⟨b, rfl, hd9, hg9⟩
  have HR9 := Lib.hid (show MdRel p g gB gD A w2 w9 from HR8.out.dice hd9 hg9 (by omega) (by omega) (by omega))
  clear hd9 hg9 HR8
  go_upto_if 29 with (fail)
  go_cut [] from 30 to 32 (fun wc => MdRel p g gB gD A w2 wc)
  case first =>
    cases b
    · go_wp2_with fail
      go_meet
      exact HR9.out
    · obtain ⟨B1, s1, f1, ho, hA, hB, hS, hD, hX⟩ := HR9.out
      have HO := Lib.hid ho
      have HA := Lib.hid hA
      have HB := Lib.hid hB
      have HS := Lib.hid hS
      have HD := Lib.hid hD
      have HX := Lib.hid hX
      have hb' := hB
      unfold HBlk at hb'
      have HB' := Lib.hid hb'
      clear ho hA hB hS hD hX hb'
      go_wp2_with (first | (refine wpList_load_w rfl 29 _ rfl gB rfl 29 _ _ _ HB'.out Try.underlying29 rfl (by kernel_rfl) ?_))
      refine (odd_any p B1 w9 HD.out HO.out).mono ?_
      rintro e w10 ⟨C, rfl, hC, hd10, hg10⟩
      have hB10 := HB.out.dice hg10 (by omega)
      obtain ⟨w11, hw11⟩ : ∃ y, y = w10.setCells gB 0 (HCells C).toArray.toList := ⟨_, rfl⟩
      have HB11 := Lib.hid (show HBlk gB C w11 by rw [hw11]; exact hB10.put C)
      have HA11 := Lib.hid (show HBlk g A w11 by rw [hw11]; exact blk_kept (HA.out.dice hg10 (by omega)) (grown_setCells gB _ _ _) (by simp; omega))
      have HS11 := Lib.hid (show DBlk gD s1 f1 w11 by rw [hw11]; exact blk_kept (HS.out.dice hg10 (by omega)) (grown_setCells gB _ _ _) (by simp; omega))
      have HTH := Lib.hid hB10.there
      have HX11 := Lib.hid (show w2.grownBy w11 (some p) by rw [hw11]; exact grown_setCells_new (grown_trans' HX.out hg10) (by omega) _ _)
      have HD11 := Lib.hid (show Die w11 p by rw [hw11]; exact hd10.kept (grown_setCells gB _ _ _) (by simp; omega))
      have HW11 := Lib.hid hw11
      have HC := Lib.hid hC
      clear hw11 hB10 hd10 hg10 hC
      go_wp2_with (first | (refine wpList_store_mid rfl 29 _ _ rfl gB 0 (HCells C).toArray rfl rfl HTH.out (by kernel_rfl) (hcells_one _) ?_; rw [← HW11.out]))
      go_meet
      exact ⟨C, s1, f1, HC.out, HA11.out, HB11.out, HS11.out, HD11.out, HX11.out⟩
  case rest =>
  have HR10 := Lib.hid (show MdRel p g gB gD A w2 wc from hcut)
  clear hcut HR9
  go_wp2_with fail
  refine (one_any p 6 _ (by obtain ⟨_, _, _, _, _, _, _, h, _⟩ := HR10.out; exact h) (by omega) (by omega)).mono ?_
  rintro e w9 ⟨b2, rfl, hd9, hg9⟩
  have HR9 := Lib.hid (show MdRel p g gB gD A w2 w9 from HR10.out.dice hd9 hg9 (by omega) (by omega) (by omega))
  clear hd9 hg9 HR10
  go_upto_if 34 with (fail)
  go_cut [] from 35 to 38 (fun wd => MdRel p g gB gD A w2 wd)
  case first =>
    cases b2
    · go_wp2_with fail
      go_meet
      exact HR9.out
    · go_wp2_with fail
      refine (next_any p 4 _ (by obtain ⟨_, _, _, _, _, _, _, h, _⟩ := HR9.out; exact h) (by omega) (by omega)).mono ?_
      rintro e w10 ⟨v, rfl, v1, v2, hd10, hg10⟩
      have hr10 := HR9.out.dice hd10 hg10 (by omega) (by omega) (by omega)
      obtain ⟨B1, s1, f1, ho, hA, hB, hS, hD, hX⟩ := hr10
      have x0 := hS.c0
      have x1 := hS.c1
      have y0 := hS.fz 0
      have y1 := hS.fz 1
      have HS := Lib.hid (hS.set1 (v - 1))
      have HA := Lib.hid (hA.other (p := gD) 1 (.int .i64 (v - 1)) (by omega))
      have HB := Lib.hid (hB.other (p := gD) 1 (.int .i64 (v - 1)) (by omega))
      have HD := Lib.hid (die_set (g := gD) (i := 1) (v := .int .i64 (v - 1)) hD (by omega))
      have HX := Lib.hid (grown_new hX (a := ⟨gD, 1, none⟩) (show w2.heap.size ≤ gD by omega) (.int .i64 (v - 1)))
      have HO := Lib.hid ho
      clear ho hA hB hS hD hX hd10 hg10
      go_wp2_with fail
      go_meet
      exact ⟨B1, s1, v - 1, HO.out, HA.out, HB.out, HS.out, HD.out, HX.out⟩
  case rest =>
  obtain ⟨B1, s1, f1, ho, hA, hB, hS, hD, hX⟩ := hcut
  have HOA := Lib.hid (made_ok HMA.out fl1 (by omega))
  have HOB := Lib.hid ho
  have HG := Lib.hid (show Gr w wc from grownBy_trans HG2.out hX (.inr (.inr ⟨p, rfl, hp2⟩)))
  have HAK := Lib.hid (fun u (hu : Gr wc u) => hA.kept hu)
  have HBK := Lib.hid (fun u (hu : Gr wc u) => hB.kept hu)
  have x0 : ∀ u, Gr wc u → u.cell? ⟨gD, 0, none⟩ = some (.int .i64 s1) := fun u hu => (hS.kept hu).c0
  have x1 : ∀ u, Gr wc u → u.cell? ⟨gD, 1, none⟩ = some (.int .i64 f1) := fun u hu => (hS.kept hu).c1
  clear ho hA hB hS hD hX HR9
  obtain ⟨M, hM⟩ : ∃ M, numH B1 = M := ⟨_, rfl⟩
  have HM := Lib.hid hM
  clear hM
  go_upto_region 11 with (fail)
  refine Sched.wp_region_sched 15 [] [] (by kernel_rfl) (by kernel_rfl) ?_
  simp only [List.take_succ_cons, List.take_zero, List.drop_succ_cons, List.drop_zero]
  refine Sched.walk1_gr rfl rfl rfl (fun K hK => ?_)
  refine ⟨HVal A, fun w1 hw1 => (HAK.out w1 hw1).load _ rfl rfl, ?_⟩
  simp only [Act.put, List.setIfInBounds_toArray, List.set_cons_zero, List.set_cons_succ]
  refine hK _ ?_
  clear hK K
  refine Sched.walk1_gr rfl rfl rfl (fun K hK => ?_)
  refine ⟨HVal B1, fun w1 hw1 => (HBK.out w1 hw1).load _ rfl rfl, ?_⟩
  simp only [Act.put, List.setIfInBounds_toArray, List.set_cons_zero, List.set_cons_succ]
  refine hK _ ?_
  clear hK K
  repeat (first | ((with_reducible refine Sched.walk1_no ?_ ?_ (fun K hK => ?_)); (focus rfl); (focus rfl); simp only [Act.put, List.setIfInBounds_toArray, List.set_cons_zero, List.set_cons_succ]; refine hK _ ?_; clear hK K) | ((with_reducible refine Sched.walk1_gr ?_ ?_ ?_ (fun K hK => ?_)); (focus rfl); (focus rfl); (focus rfl); apply Exists.intro; refine ⟨fun w1 hw1 => ?_, ?_⟩; (focus (go_simp; (try go_ints); (try (simp only [IntWalk.iteOmega]; go_simp)); first | done | (go_at_call 4; (with_reducible exact fexact_is _ HOA.out HOB.out)) | (with_reducible rfl) | (with_reducible exact ⟨rfl, rfl⟩))); simp only [Act.put, List.setIfInBounds_toArray, List.set_cons_zero, List.set_cons_succ]; refine hK _ ?_; clear hK K) | ((with_reducible refine Sched.walk1_pure ?_ ?_ ?_ (fun K hK => ?_)); (focus rfl); (focus rfl); (focus rfl); apply Exists.intro; refine ⟨fun w1 => ?_, ?_⟩; (focus (go_simp; (try go_ints); (try (simp only [IntWalk.iteOmega]; go_simp)); first | done | (with_reducible rfl) | (with_reducible exact ⟨rfl, rfl⟩))); simp only [Act.put, List.setIfInBounds_toArray, List.set_cons_zero, List.set_cons_succ]; refine hK _ ?_; clear hK K) | (refine Sched.walk1_box rfl rfl ?_; apply Exists.intro; refine ⟨fun w1 hw1 => ?_, ?_⟩; (focus (go_simp; exact ⟨Gr.alloc _ _, rfl, by simp, heap_alloc_new _ _⟩))))
  refine Sched.walk1_gr rfl rfl rfl (fun K hK => ?_)
  refine ⟨HVal B1, fun w1 hw1 => (HBK.out w1 hw1).load _ rfl rfl, ?_⟩
  simp only [Act.put, List.setIfInBounds_toArray, List.set_cons_zero, List.set_cons_succ]
  refine hK _ ?_
  clear hK K
  refine Sched.walk1_gr rfl rfl rfl (fun K hK => ?_)
  refine ⟨HVal A, fun w1 hw1 => (HAK.out w1 hw1).load _ rfl rfl, ?_⟩
  simp only [Act.put, List.setIfInBounds_toArray, List.set_cons_zero, List.set_cons_succ]
  refine hK _ ?_
  clear hK K
  repeat (first | ((with_reducible refine Sched.walk1_no ?_ ?_ (fun K hK => ?_)); (focus rfl); (focus rfl); simp only [Act.put, List.setIfInBounds_toArray, List.set_cons_zero, List.set_cons_succ]; refine hK _ ?_; clear hK K) | ((with_reducible refine Sched.walk1_gr ?_ ?_ ?_ (fun K hK => ?_)); (focus rfl); (focus rfl); (focus rfl); apply Exists.intro; refine ⟨fun w1 hw1 => ?_, ?_⟩; (focus (go_simp; (try go_ints); (try (simp only [IntWalk.iteOmega]; go_simp)); first | done | fail | (with_reducible rfl) | (with_reducible exact ⟨rfl, rfl⟩))); simp only [Act.put, List.setIfInBounds_toArray, List.set_cons_zero, List.set_cons_succ]; refine hK _ ?_; clear hK K) | ((with_reducible refine Sched.walk1_pure ?_ ?_ ?_ (fun K hK => ?_)); (focus rfl); (focus rfl); (focus rfl); apply Exists.intro; refine ⟨fun w1 => ?_, ?_⟩; (focus (go_simp; (try go_ints); (try (simp only [IntWalk.iteOmega]; go_simp)); first | done | (with_reducible rfl) | (with_reducible exact ⟨rfl, rfl⟩))); simp only [Act.put, List.setIfInBounds_toArray, List.set_cons_zero, List.set_cons_succ]; refine hK _ ?_; clear hK K) | (refine Sched.walk1_box rfl rfl ?_; apply Exists.intro; refine ⟨fun w1 hw1 => ?_, ?_⟩; (focus (go_simp; exact ⟨Gr.alloc _ _, rfl, by simp, heap_alloc_new _ _⟩))))
  refine Sched.walk1_gr rfl rfl rfl (fun K hK => ?_)
  refine ⟨HVal B1, fun w1 hw1 => (HBK.out w1 hw1).load _ rfl rfl, ?_⟩
  simp only [Act.put, List.setIfInBounds_toArray, List.set_cons_zero, List.set_cons_succ]
  refine hK _ ?_
  clear hK K
  repeat (first | ((with_reducible refine Sched.walk1_no ?_ ?_ (fun K hK => ?_)); (focus rfl); (focus rfl); simp only [Act.put, List.setIfInBounds_toArray, List.set_cons_zero, List.set_cons_succ]; refine hK _ ?_; clear hK K) | ((with_reducible refine Sched.walk1_gr ?_ ?_ ?_ (fun K hK => ?_)); (focus rfl); (focus rfl); (focus rfl); apply Exists.intro; refine ⟨fun w1 hw1 => ?_, ?_⟩; (focus (go_simp; (try go_ints); (try (simp only [IntWalk.iteOmega]; go_simp)); first | done | (first | (go_at_call 21; (with_reducible exact num_is HM.out _)) | (go_at_call 4; (with_reducible exact fexact_is _ HOB.out HOA.out))) | (with_reducible rfl) | (with_reducible exact ⟨rfl, rfl⟩))); simp only [Act.put, List.setIfInBounds_toArray, List.set_cons_zero, List.set_cons_succ]; refine hK _ ?_; clear hK K) | ((with_reducible refine Sched.walk1_pure ?_ ?_ ?_ (fun K hK => ?_)); (focus rfl); (focus rfl); (focus rfl); apply Exists.intro; refine ⟨fun w1 => ?_, ?_⟩; (focus (go_simp; (try go_ints); (try (simp only [IntWalk.iteOmega]; go_simp)); first | done | (with_reducible rfl) | (with_reducible exact ⟨rfl, rfl⟩))); simp only [Act.put, List.setIfInBounds_toArray, List.set_cons_zero, List.set_cons_succ]; refine hK _ ?_; clear hK K) | (refine Sched.walk1_box rfl rfl ?_; apply Exists.intro; refine ⟨fun w1 hw1 => ?_, ?_⟩; (focus (go_simp; exact ⟨Gr.alloc _ _, rfl, by simp, heap_alloc_new _ _⟩))))
  refine Sched.walk1_nil ?_
  intro wq hwq
  have HGQ := Lib.hid (HG.out.trans hwq)
  clear hwq x0 x1
  dsimp only [Sched.EndN, List.nil_append, List.cons_append, Act.put]
  (try simp only [List.setIfInBounds_toArray, List.set_cons_zero, List.set_cons_succ])
  repeat (first | (refine Sched.walk2_no rfl (fun K hK => ?_); simp only [Act.put, List.setIfInBounds_toArray, List.set_cons_zero, List.set_cons_succ]; refine hK _ ?_; clear hK K) | (refine Sched.walk2_go rfl (fun K hK => ?_); go_simp; (try go_ints); (try (simp only [IntWalk.iteOmega]; go_simp)); first | (refine hK _ _ ?_; clear hK K) | fail))
  refine Sched.walk2_nil ?_
  go_wp2_with fail
  go_ret
  exact ⟨rfl, HGQ.out⟩
theorem made_fit (a : Option Addr) (len cap : Nat) (ts : List Int) (n : Int) (w : World) (hr : Rd .i64 w a len ts) (_hc : len ≤ cap) (_hL : len * 8 ≤ 140737488351232) (_h : i64 n) :
    Calls Try.prog 5 #[.slice a len cap, .int .i64 n] w fun e w' => e = .returned (.bool true) ∧ Below w.heap.size w w' :=
  (made_walk a len cap ts n w hr).mono fun _ _ ⟨he, hg⟩ => ⟨he, Below.of_none hg⟩
end Go.Proofs.Ytmojlengjoicoaa
