/- AuditRates (layer 44). -/
import Derived.Test.YtgackcjhiplplaaAudR
namespace Go.Proofs.Ytgackcjhiplplaa
open Go.ChangeShapes Go.WideShapes Go.ChangeAt Go.RowKit

theorem made_bytes (m : Nat) : madeCells #[Value.int .u8 0] m = ((List.replicate m (0 : Int)).map (Value.int .u8)).toArray := by
  apply Array.ext
  · simp [madeCells]
  · intro i h1 h2
    have h3 : i % 1 = 0 := Nat.mod_one i
    simp [madeCells, h3]
theorem make_bytes (m : Nat) (hm : m ≤ 100000) (w : World) : (Instr.makeSlice 22 (.int .i64 (m : Int)) (.int .i64 (m : Int))).run Try.prog w = .ok (.slice (some ⟨w.heap.size, 0, none⟩) m m) (w.alloc (.cells ((List.replicate m (0 : Int)).map (Value.int .u8)).toArray 5)) := by
  obtain ⟨i0, hi, hz0, hz1, hz2⟩ := info_parts info_u8
  have := run_make (P := Try.prog) w 22 5 i0 _ Try.underlying22 hi hz0 .i64 .i64 m m (by omega) (by omega) (by rw [hz2]; omega) (by omega)
  rw [hz1] at this
  simp only [Int.toNat_natCast, Nat.mul_one, Value.cells] at this
  rw [made_bytes] at this
  exact this
/-- New data. -/
def NZ (B m : Nat) : Sched.NPred := fun _ _ v w => ∃ g, v = .slice (some ⟨g, 0, none⟩) m m ∧ B ≤ g ∧ Rd .u8 w (some ⟨g, 0, none⟩) m (List.replicate m 0)
theorem NZ.stable (B m : Nat) : Sched.Stable (NZ B m) := by
  rintro lo hi v w w' ⟨g, h1, h2, h3⟩ hg
  exact ⟨g, h1, h2, h3.kept hg⟩
def outRec (tick num : Int) (g m : Nat) : Rec := ⟨tick, 2, 0, 0, 0, num, some ⟨g, 0, none⟩, m, m, List.replicate m 0⟩
def NRc (B : Nat) (tick num : Int) (m : Nat) : Sched.NPred := fun _ _ v w => ∃ g, v = RVal (outRec tick num g m) ∧ B ≤ g ∧ Rd .u8 w (some ⟨g, 0, none⟩) m (List.replicate m 0)
theorem NRc.stable (B : Nat) (tick num : Int) (m : Nat) : Sched.Stable (NRc B tick num m) := by
  rintro lo hi v w w' ⟨g, h1, h2, h3⟩ hg
  exact ⟨g, h1, h2, h3.kept hg⟩
def NTwo (B : Nat) (tick : Int) (m : Nat) : Sched.NPred := fun _ _ v w => ∃ gq g1 g2, v = .slice (some ⟨gq, 0, none⟩) 2 2 ∧ B ≤ g1 ∧ B ≤ g2 ∧ Rd .u8 w (some ⟨g1, 0, none⟩) m (List.replicate m 0) ∧ Rd .u8 w (some ⟨g2, 0, none⟩) 9 (List.replicate 9 0) ∧
  Seg w (some ⟨gq, 0, none⟩) ([outRec tick 0 g1 m, outRec tick 1 g2 9].flatMap RCells)
theorem NTwo.stable (B : Nat) (tick : Int) (m : Nat) : Sched.Stable (NTwo B tick m) := by
  rintro lo hi v w w' ⟨gq, g1, g2, h1, h2, h3, h4, h5, h6⟩ hg
  exact ⟨gq, g1, g2, h1, h2, h3, h4.kept hg, h5.kept hg, h6.kept (fun b _ _ hb => hg.block b hb (by simp)) hg.size⟩
def RatRel (w : World) (len : Nat) (s u i : Value) (wr : World) : Prop :=
  ∃ (a : Option Addr) (cap n j : Nat) (S : Int) (L : List Rec), j ≤ len ∧ n = j + j ∧ s = .slice a n cap ∧ u = .int .i64 S ∧ i = .int .i64 j ∧ OwnL w.heap.size wr a n cap L ∧ LogR j L S ∧ Gr w wr ∧ (∀ r ∈ L, r.n ≤ 49) ∧ 0 ≤ S ∧ S ≤ 49 * j
theorem rate_is {a : Option Addr} {len cap : Nat} {L : List Rec} {t b lo hi v : Int} (hv : rt L lo hi (idxF (sel 2 t b 0) 0 L) = v) (w : World) (hr : RdL w a len L) (hL : ∀ r ∈ L, r.n ≤ 100000) (hlo : i64 lo) (hhi : i64 hi) :
    Calls Try.prog 12 #[.slice a len cap, .int .i64 t, .int .i64 b, .int .i64 lo, .int .i64 hi] w fun e w' => e = .returned (.int .i64 v) ∧ Gr w w' := hv ▸ rate_any a len cap L t b lo hi w hr hL hlo hhi
set_option maxRecDepth 100000 in
set_option maxHeartbeats 8000000 in
theorem rates_walk (a : Option Addr) (len cap : Nat) (zs : List Int) (p q z : Int) (w : World) (hr : Rd .u8 w a len zs) (hp : 0 ≤ p ∧ p ≤ 255) (hq : 0 ≤ q ∧ q ≤ 255) (hz : 0 ≤ z ∧ z ≤ 255) (hl : len ≤ 100) :
    Calls Try.prog 4 #[.slice a len cap, .int .u8 p, .int .u8 q, .int .u8 z] w fun e w' => e = .returned (.bool true) ∧ Gr w w' := by
  have HR := Lib.hid hr
  have HIB := Lib.hid hr.bytes
  have HIL := Lib.hid hr.1
  obtain ⟨p1, p2⟩ := hp
  obtain ⟨q1, q2⟩ := hq
  obtain ⟨z1, z2⟩ := hz
  clear hr
  go_enter Try.func4, Try.ntmps4
  go_wp2_with fail
  go_loopw [9, 10, 11] (fun s u i wr => RatRel w len s u i wr) (fun _ _ i _ => len - (intOf i).toNat)
  case atStart => exact ⟨none, 0, 0, 0, 0, [], by omega, rfl, rfl, rfl, rfl, OwnL.nil _ _, LogR.start, Gr.refl _, by simp, by omega, by omega⟩
  case round =>
    obtain ⟨a', cap', nn, j, S, L, hj, hnn, rfl, rfl, rfl, hol, hli, hg, hr1, s1, s2⟩ := hrel
    have HOL := Lib.hid hol
    have HLI := Lib.hid hli
    have HG := Lib.hid hg
    have HR1 := Lib.hid hr1
    have HNN := Lib.hid hnn
    have hn200 : nn ≤ 200 := by omega
    clear hol hli hg hr1 hnn
    by_cases hlt : j < len
    · obtain ⟨b1, o1, e1, -, hc1⟩ := HR.out.some (by omega)
      subst e1
      obtain ⟨y, hy⟩ : ∃ y, zs[j]?.getD 0 = y := ⟨_, rfl⟩
      have cj := HG.out.cell (hc1 j hlt)
      rw [hy] at cj
      obtain ⟨y1, y2⟩ := hy ▸ getD_byte44 HIB.out j
      obtain ⟨x, hx⟩ : ∃ x : Nat, y % 50 = x := ⟨(y % 50).toNat, by omega⟩
      have hx49 : x ≤ 49 := by omega
      clear hc1 hy
      go_upto_region 9 with (fail)
      have HX := Lib.hid hx
      clear cj hx
      refine SchedD.wp_region_schedd 9 [] [3, 4, 6, 7, 8] (SchedD.nsel [(3, NZ wr.heap.size x), (4, NRc wr.heap.size j 0 x), (6, NZ wr.heap.size 9), (7, NRc wr.heap.size j 1 9), (8, NTwo wr.heap.size j x)]) [(4, [(3, 35)]), (7, [(6, 38)]), (8, [(4, 36), (7, 39)])] (by kernel_rfl) (by kernel_rfl) ?_
      simp only [List.take_succ_cons, List.take_zero, List.drop_succ_cons, List.drop_zero]
      repeat (first | ((with_reducible refine SchedD.walk1_no ?_ ?_ ?_ (fun K hK => ?_)); (focus rfl); (focus rfl); (focus rfl); simp only [Act.put, List.setIfInBounds_toArray, List.set_cons_zero, List.set_cons_succ]; refine hK _ ?_; clear hK K) | ((with_reducible refine SchedD.walk1_gr ?_ ?_ ?_ ?_ (fun K hK => ?_)); (focus rfl); (focus rfl); (focus rfl); (focus rfl); apply Exists.intro; refine ⟨fun w1 hw1 => ?_, ?_⟩; (focus (go_simp; (try go_ints); (try (simp only [IntWalk.iteOmega]; go_simp)); first | done | fail | (with_reducible rfl) | (with_reducible exact ⟨rfl, rfl⟩))); simp only [Act.put, List.setIfInBounds_toArray, List.set_cons_zero, List.set_cons_succ]; refine hK _ ?_; clear hK K) | ((with_reducible refine SchedD.walk1_pure ?_ ?_ ?_ ?_ (fun K hK => ?_)); (focus rfl); (focus rfl); (focus rfl); (focus rfl); apply Exists.intro; refine ⟨fun w1 => ?_, ?_⟩; (focus (go_simp; (try go_ints); (try (simp only [IntWalk.iteOmega]; go_simp)); first | done | (with_reducible rfl) | (with_reducible exact ⟨rfl, rfl⟩))); simp only [Act.put, List.setIfInBounds_toArray, List.set_cons_zero, List.set_cons_succ]; refine hK _ ?_; clear hK K))
      refine SchedD.walk1_new0 (NZ wr.heap.size x) rfl rfl rfl rfl (NZ.stable _ _) (fun u hu => ?_) ?_
      · have hmk := make_bytes x (by omega) u
        obtain ⟨u', hu'⟩ : ∃ y, y = u.alloc (.cells ((List.replicate x (0 : Int)).map (Value.int .u8)).toArray 5) := ⟨_, rfl⟩
        have hrd : Rd .u8 u' (some ⟨u.heap.size, 0, none⟩) x (List.replicate x 0) := by
          rw [hu']
          exact rd_new (k := .u8) (w := u) (List.replicate x 0) 5 (0, 0) x (by simp) (by simp only [maxLen]; omega) (by intro v hv; obtain ⟨_, rfl⟩ := List.mem_replicate.1 hv; exact WalkArith.wf_u8 (by omega))
        have hgu : Gr u u' := by rw [hu']; exact Gr.alloc _ _
        rw [← hu'] at hmk
        rw [← HX.out] at hmk
        have HRD := Lib.hid hrd
        have HGU := Lib.hid hgu
        have HUS := Lib.hid hu.size
        clear hu' hrd hgu
        go_simp
        exact ⟨HGU.out, _, rfl, HUS.out, HRD.out⟩
      refine SchedD.walk1_new1 (NRc wr.heap.size j 0 x) (NZ wr.heap.size x) 3 35 rfl rfl rfl rfl (NRc.stable _ _ _ _) (fun u hu lo1 hi1 u1 q1 => ?_) ?_
      · obtain ⟨g, rfl, hg1, hrd⟩ := q1
        refine ⟨rfl, ?_⟩
        go_simp
        exact ⟨Gr.refl _, g, rfl, hg1, hrd⟩
      repeat (first | ((with_reducible refine SchedD.walk1_no ?_ ?_ ?_ (fun K hK => ?_)); (focus rfl); (focus rfl); (focus rfl); simp only [Act.put, List.setIfInBounds_toArray, List.set_cons_zero, List.set_cons_succ]; refine hK _ ?_; clear hK K) | ((with_reducible refine SchedD.walk1_gr ?_ ?_ ?_ ?_ (fun K hK => ?_)); (focus rfl); (focus rfl); (focus rfl); (focus rfl); apply Exists.intro; refine ⟨fun w1 hw1 => ?_, ?_⟩; (focus (go_simp; (try go_ints); (try (simp only [IntWalk.iteOmega]; go_simp)); first | done | fail | (with_reducible rfl) | (with_reducible exact ⟨rfl, rfl⟩))); simp only [Act.put, List.setIfInBounds_toArray, List.set_cons_zero, List.set_cons_succ]; refine hK _ ?_; clear hK K) | ((with_reducible refine SchedD.walk1_pure ?_ ?_ ?_ ?_ (fun K hK => ?_)); (focus rfl); (focus rfl); (focus rfl); (focus rfl); apply Exists.intro; refine ⟨fun w1 => ?_, ?_⟩; (focus (go_simp; (try go_ints); (try (simp only [IntWalk.iteOmega]; go_simp)); first | done | (with_reducible rfl) | (with_reducible exact ⟨rfl, rfl⟩))); simp only [Act.put, List.setIfInBounds_toArray, List.set_cons_zero, List.set_cons_succ]; refine hK _ ?_; clear hK K))
      refine SchedD.walk1_new0 (NZ wr.heap.size 9) rfl rfl rfl rfl (NZ.stable _ _) (fun u hu => ?_) ?_
      · have hmk : (Instr.makeSlice 22 (.int .i64 9) (.int .i64 9)).run Try.prog u = .ok (.slice (some ⟨u.heap.size, 0, none⟩) 9 9) (u.alloc (.cells ((List.replicate 9 (0 : Int)).map (Value.int .u8)).toArray 5)) := make_bytes 9 (by omega) u
        obtain ⟨u', hu'⟩ : ∃ y, y = u.alloc (.cells ((List.replicate 9 (0 : Int)).map (Value.int .u8)).toArray 5) := ⟨_, rfl⟩
        have hrd : Rd .u8 u' (some ⟨u.heap.size, 0, none⟩) 9 (List.replicate 9 0) := by
          rw [hu']
          exact rd_new (k := .u8) (w := u) (List.replicate 9 0) 5 (0, 0) 9 (by simp) (by simp only [maxLen]; omega) (by intro v hv; obtain ⟨_, rfl⟩ := List.mem_replicate.1 hv; exact WalkArith.wf_u8 (by omega))
        have hgu : Gr u u' := by rw [hu']; exact Gr.alloc _ _
        rw [← hu'] at hmk
        have HRD := Lib.hid hrd
        have HGU := Lib.hid hgu
        have HUS := Lib.hid hu.size
        clear hu' hrd hgu
        go_simp
        exact ⟨HGU.out, _, rfl, HUS.out, HRD.out⟩
      refine SchedD.walk1_new1 (NRc wr.heap.size j 1 9) (NZ wr.heap.size 9) 6 38 rfl rfl rfl rfl (NRc.stable _ _ _ _) (fun u hu lo1 hi1 u1 q1 => ?_) ?_
      · obtain ⟨g, rfl, hg1, hrd⟩ := q1
        refine ⟨rfl, ?_⟩
        go_simp
        exact ⟨Gr.refl _, g, rfl, hg1, hrd⟩
      refine SchedD.walk1_new2 (NTwo wr.heap.size j x) (NRc wr.heap.size j 0 x) (NRc wr.heap.size j 1 9) 4 36 7 39 rfl rfl rfl rfl rfl (NTwo.stable _ _ _) (fun u hu lo1 hi1 u1 q1 lo2 hi2 u2 q2 => ?_) ?_
      · obtain ⟨g1, rfl, hg1, hrd1⟩ := q1
        obtain ⟨g2, rfl, hg2, hrd2⟩ := q2
        refine ⟨rfl, ?_⟩
        go_simp
        exact ⟨Gr.alloc _ _, _, g1, g2, rfl, hg1, hg2, hrd1.kept (Gr.alloc _ _), hrd2.kept (Gr.alloc _ _), .inr ⟨u.heap.size, 0, rfl, by simp, fun i hi => by rw [Nat.zero_add, cell_new]; simp [outRec]⟩⟩
      (with_reducible refine SchedD.walk1_nil ?_)
      intro wq hwq
      dsimp only [Sched.EndN, List.nil_append, List.cons_append, Act.put]
      rintro - - v3 ⟨g3, rfl, -, -⟩ - - - - - - v4 ⟨g4, rfl, -, -⟩ - - - - - - v6 ⟨g6, rfl, -, -⟩ - - - - - - v7 ⟨g7, rfl, -, -⟩ - - - - - - v8 ⟨gq, g1, g2, rfl, hg1, hg2, hd1, hd2, hsg⟩ - - - -
      (try simp only [List.setIfInBounds_toArray, List.set_cons_zero, List.set_cons_succ])
      obtain ⟨a2, c2, w2, hrun, ho2, hgr2⟩ := (HOL.out.stay hwq).app [outRec j 0 g1 x, outRec j 1 g2 9] 2 rfl (by
        intro r hr
        simp only [List.mem_cons, List.not_mem_nil, or_false] at hr
        rcases hr with rfl | rfl
        · exact hd1
        · exact hd2) (by
        intro r hr b off _ he hown
        have hlt2 := (HOL.out.1.lt b hown).2
        simp only [List.mem_cons, List.not_mem_nil, or_false] at hr
        rcases hr with rfl | rfl <;> (injection he with he; injection he with he; omega)) ⟨gq, 0, none⟩ hsg (by omega) (Nat.le_trans HG.out.size hwq.size) (nn + 2) rfl (by omega)
      have HO2 := Lib.hid ho2
      have HG2 := Lib.hid (OwnL.grown (HG.out.trans hwq) (HOL.out.stay hwq) (Nat.le_refl _) hgr2)
      have HL2 := Lib.hid (HLI.out.step (outRec j 0 g1 x) (outRec j 1 g2 9) rfl rfl rfl rfl (by show 0 ≤ (j : Int) ∧ (j : Int) < 1000; omega))
      have hrn : ∀ r ∈ L ++ [outRec j 0 g1 x, outRec j 1 g2 9], r.n ≤ 49 := by
        intro r hr
        rcases List.mem_append.1 hr with h | h
        · exact HR1.out r h
        · simp only [List.mem_cons, List.not_mem_nil, or_false] at h
          rcases h with rfl | rfl
          · exact hx49
          · show 9 ≤ 49; omega
      have HRN := Lib.hid hrn
      clear hrn ho2 hgr2 hsg hd1 hd2 hwq
      refine Sched.walk2_app rfl _ _ _ rfl rfl rfl hrun ?_
      clear hrun
      dsimp only [Act.put]
      (try simp only [List.setIfInBounds_toArray, List.set_cons_zero, List.set_cons_succ])
      repeat (first | (refine Sched.walk2_no rfl (fun K hK => ?_); simp only [Act.put, List.setIfInBounds_toArray, List.set_cons_zero, List.set_cons_succ]; refine hK _ ?_; clear hK K) | (refine Sched.walk2_go rfl (fun K hK => ?_); go_simp; (try go_ints); (try (simp only [IntWalk.iteOmega]; go_simp)); first | (refine hK _ _ ?_; clear hK K) | fail))
      refine Sched.walk2_nil ?_
      have hx50 := HX.out
      go_wp2_with fail
      go_roundw
      case rel => exact ⟨a2, c2, nn + 2, j + 1, S + x, _, by omega, by have := HNN.out; omega, rfl, by first | rfl | (rw [← HX.out]), by go_num, HO2.out, HL2.out, HG2.out, HRN.out, by omega, by push_cast; omega⟩
      case measure => (simp [intOf] <;> omega)
    · obtain rfl : j = len := by omega
      have HRL := Lib.hid (HOL.out.rd (by omega))
      have HNL := Lib.hid (show ∀ r ∈ L, r.n ≤ 100000 from fun r hr => by have := HR1.out r hr; omega)
      have HSZ := Lib.hid (show ∀ r ∈ L, r.n ≤ 140737488351232 from fun r hr => by have := HR1.out r hr; omega)
      have HS0 := Lib.hid HLI.out.hs
      have HZ0 := Lib.hid (show rt L 0 1000 (idxF (sel 2 1 0 0) 0 L) = 0 by rw [HLI.out.h1]; rfl)
      obtain ⟨X, hX⟩ : ∃ X, (if z % 120 < p % 120 then z % 120 else p % 120) = X := ⟨_, rfl⟩
      obtain ⟨Z, hZ⟩ : ∃ Z, (if p % 120 < z % 120 then z % 120 else p % 120) = Z := ⟨_, rfl⟩
      obtain ⟨M, hM⟩ : ∃ M, (if X < q % 120 then q % 120 else X) = M := ⟨_, rfl⟩
      obtain ⟨Y, hY⟩ : ∃ Y, (if Z < M then Z else M) = Y := ⟨_, rfl⟩
      have hf : 0 ≤ X ∧ X ≤ Y ∧ Y ≤ Z ∧ Z ≤ 119 := by
        have hxz : 0 ≤ X ∧ X ≤ Z ∧ Z ≤ 119 := by
          rw [← hX, ← hZ]; split <;> split <;> omega
        rw [← hY, ← hM]; split <;> split <;> omega
      obtain ⟨f1, f2, f3, f4⟩ := hf
      have HX := Lib.hid hX
      have HY := Lib.hid hY
      have HM := Lib.hid hM
      have HZ := Lib.hid hZ
      clear HOL HR1 HNN hX hY hZ hM
      go_upto_region 14 with (fail)
      rw [HX.out, HZ.out, HM.out, HY.out]
      clear HX HY HZ HM
      obtain ⟨A, hA⟩ : ∃ A, rt L (X) (Y) (idxF (sel 2 0 0 0) 0 L) = A := ⟨_, rfl⟩
      obtain ⟨B, hB⟩ : ∃ B, rt L (Y) (Z) (idxF (sel 2 0 0 0) 0 L) = B := ⟨_, rfl⟩
      have hAB := rt_parts (L := L) (x := X) (y := Y) (z := Z) (by omega) (by omega) (idxF (sel 2 0 0 0) 0 L)
      rw [hA, hB] at hAB
      have hra := rt_rng HNL.out (X) (Y) (idxF (sel 2 0 0 0) 0 L)
      have hrb := rt_rng HNL.out (Y) (Z) (idxF (sel 2 0 0 0) 0 L)
      rw [HLI.out.hP, hA] at hra
      rw [HLI.out.hP, hB] at hrb
      obtain ⟨ra1, ra2⟩ := hra
      obtain ⟨rb1, rb2⟩ := hrb
      have HA := Lib.hid hA
      have HB := Lib.hid hB
      have HAB := Lib.hid hAB.symm
      clear hA hB hAB
      go_wp2_with fail
      refine (rate_is HA.out wr HRL.out HNL.out (by constructor <;> omega) (by constructor <;> omega)).mono ?_
      rintro e w1 ⟨rfl, hg1⟩
      have HR1' := Lib.hid (HRL.out.kept hg1)
      have HG1 := Lib.hid (HG.out.trans hg1)
      clear hg1
      go_wp2_with fail
      refine (rate_is HB.out w1 HR1'.out HNL.out (by constructor <;> omega) (by constructor <;> omega)).mono ?_
      rintro e w2 ⟨rfl, hg2⟩
      have HR2 := Lib.hid (HR1'.out.kept hg2)
      have HG2 := Lib.hid (HG1.out.trans hg2)
      clear hg2
      go_wp2_with fail
      refine (rate_is HAB.out w2 HR2.out HNL.out (by constructor <;> omega) (by constructor <;> omega)).mono ?_
      rintro e w3 ⟨rfl, hg3⟩
      have HR3 := Lib.hid (HR2.out.kept hg3)
      have HG3 := Lib.hid (HG2.out.trans hg3)
      clear hg3
      go_wp2_with fail
      refine (rate_is HS0.out w3 HR3.out HNL.out (by constructor <;> omega) (by constructor <;> omega)).mono ?_
      rintro e w4 ⟨rfl, hg4⟩
      have HR4 := Lib.hid (HR3.out.kept hg4)
      have HG4 := Lib.hid (HG3.out.trans hg4)
      clear hg4
      go_wp2_with fail
      refine (rate_is HZ0.out w4 HR4.out HNL.out (by constructor <;> omega) (by constructor <;> omega)).mono ?_
      rintro e w5 ⟨rfl, hg5⟩
      have HR5 := Lib.hid (HR4.out.kept hg5)
      have HG5 := Lib.hid (HG4.out.trans hg5)
      clear hg5
      go_wp2_with fail
      refine (delivered_any _ nn cap' L 0 0 0 w5 HR5.out HSZ.out).mono ?_
      rintro e w6 ⟨a6, n6, c6, rfl, hc6, hx6, hg6⟩
      obtain rfl : n6 = j := by have := hx6.1; rw [List.length_map, HLI.out.hP] at this; exact this.symm
      have HG6 := Lib.hid (HG5.out.trans hg6)
      clear hx6 hg6 hc6
      go_wp2_with fail
      refine (awake44 w6).mono ?_
      rintro e w7 ⟨rfl, hg7⟩
      have HG7 := Lib.hid (HG6.out.trans hg7)
      clear hg7
      go_wp2_with fail
      go_ret
      exact ⟨rfl, HG7.out⟩
theorem rates_far (a : Option Addr) (len cap : Nat) (p q z : Int) (w : World) (hl : 100 < len) (hm : len ≤ 9223372036854775807) :
    Calls Try.prog 4 #[.slice a len cap, .int .u8 p, .int .u8 q, .int .u8 z] w fun e w' => e = .returned (.bool true) ∧ Gr w w' := by
  go_enter Try.func4, Try.ntmps4
  go_wp2_with fail
  refine (awake44 w).mono ?_
  rintro e w1 ⟨rfl, hg1⟩
  have HG := Lib.hid hg1
  clear hg1
  go_wp2_with fail
  go_ret
  exact ⟨rfl, HG.out⟩
theorem rates_fit (a : Option Addr) (len cap : Nat) (zs : List Int) (p q z : Int) (w : World) (hr : Rd .u8 w a len zs) (_hc : len ≤ cap) (hL : len ≤ 140737488351232) (hp : 0 ≤ p ∧ p ≤ 255) (hq : 0 ≤ q ∧ q ≤ 255) (hz : 0 ≤ z ∧ z ≤ 255) :
    Calls Try.prog 4 #[.slice a len cap, .int .u8 p, .int .u8 q, .int .u8 z] w fun e w' => e = .returned (.bool true) ∧ Below w.heap.size w w' := by
  by_cases hl : len ≤ 100
  · exact (rates_walk a len cap zs p q z w hr hp hq hz hl).mono fun _ _ ⟨h, hg⟩ => ⟨h, Below.of_none hg⟩
  · exact (rates_far a len cap p q z w (by omega) (by omega)).mono fun _ _ ⟨h, hg⟩ => ⟨h, Below.of_none hg⟩
end Go.Proofs.Ytgackcjhiplplaa
