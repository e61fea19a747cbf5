/- Layer 44 (audit): the reference: InOrder. -/
import Derived.Test.YtgackcjhiplplaaAudL
namespace Go.Proofs.Ytgackcjhiplplaa
open Go.ChangeShapes Go.WideShapes Go.ChangeAt Go.RowKit

theorem sel_not {t b d : Int} {r : Rec} (h : sel 1 t b d r = true) : sel 2 t b d r = false := by
  unfold sel at h ⊢
  simp only [Bool.and_eq_true, beq_iff_eq] at h
  rw [h.1]; rfl
theorem pc_lt {f : Rec → Bool} {L : List Rec} {i : Nat} {r : Rec} (h : L[i]? = some r) (hf : f r = true) : pc f L i < (idxF f 0 L).length := lt_of_some (at_pos h hf)
/-- An output for which no input is left. -/
theorem ord_out {f g : Rec → Bool} {L : List Rec} {i : Nat} {r : Rec} (h : L[i]? = some r) (hf : g r = true) (hk : pc f L i ≤ pc g L i) : ordB L (idxF f 0 L) (idxF g 0 L) = false := by
  have hq := at_pos h hf
  have hlt := pc_lt h hf
  by_cases hl : (idxF g 0 L).length ≤ (idxF f 0 L).length
  · refine ordB_no hlt ?_
    have hpk : pc g L i < (idxF f 0 L).length := by omega
    have hp : (idxF f 0 L)[pc g L i]? = some (idxF f 0 L)[pc g L i] := List.getElem?_eq_getElem hpk
    rw [matB, hq, hp, Option.getD_some, Option.getD_some]
    unfold mat
    rw [decide_eq_false (fun hx => by have := lt_pos hp hx (Nat.le_of_lt (lt_of_some h)); omega)]
    rfl
  · unfold ordB
    rw [decide_eq_false hl]; rfl
/-- The comparison of an output with the input at its place. -/
theorem ord_at {f g : Rec → Bool} {L : List Rec} {i j : Nat} {r q : Rec} (h : L[i]? = some r) (hf : g r = true) (hj : (idxF f 0 L)[pc g L i]? = some (j : Int)) (hji : j < i) (hq : L[j]? = some q) : matB L (idxF f 0 L) (idxF g 0 L) (pc g L i) = decide (q.xs = r.xs) := by
  rw [matB, at_pos h hf, hj, Option.getD_some, Option.getD_some, mat, dat_at hq, dat_at h, decide_eq_true (by omega)]
  rfl
def ORel (w : World) (len : Nat) (L : List Rec) (f g : Rec → Bool) (s k i : Value) (wr : World) : Prop :=
  ∃ (a' : Option Addr) (c' j : Nat), j ≤ len ∧ s = .slice a' (pc f L j) c' ∧ k = .int .i64 (pc g L j) ∧ i = .int .i64 j ∧ QRow w.heap.size wr a' (pc f L j) c' ((idxF f 0 (L.take j)).map (dsl L)) ∧
    (∀ q, q < pc g L j → matB L (idxF f 0 L) (idxF g 0 L) q = true) ∧ pc g L j ≤ pc f L j ∧ Gr w wr
theorem idx_map_step {f : Rec → Bool} {L : List Rec} {j : Nat} {r : Rec} (h : L[j]? = some r) : (idxF f 0 (L.take (j + 1))).map (dsl L) = (idxF f 0 (L.take j)).map (dsl L) ++ (if f r then [.slice r.a r.n r.c] else []) := by
  rw [idxF_take h, List.map_append]
  split
  · rw [List.map_cons, List.map_nil, dsl_at h]
  · simp
set_option maxRecDepth 100000 in
set_option maxHeartbeats 1000000 in
theorem rorder_any (a : Option Addr) (len cap : Nat) (L : List Rec) (t b d : Int) (w : World) (hr : RdL w a len L) :
    Calls Try.prog 25 #[.slice a len cap, .int .i64 t, .int .i64 b, .int .i64 d] w fun e w' => e = .returned (.bool (ordB L (idxF (sel 1 t b d) 0 L) (idxF (sel 2 t b d) 0 L))) ∧ Gr w w' := by
  have HR := Lib.hid hr
  have HL := Lib.hid hr.1
  have hm := hr.2.1
  have HEX := Lib.hid (fun r (h : sel 1 t b d r = true) => sel_not h)
  obtain ⟨f, hf⟩ : ∃ f, sel 1 t b d = f := ⟨_, rfl⟩
  obtain ⟨g, hg⟩ : ∃ g, sel 2 t b d = g := ⟨_, rfl⟩
  have hex := HEX.out
  rw [hf, hg] at hex
  rw [hf, hg]
  have HF := Lib.hid hf
  have HGS := Lib.hid hg
  have HX := Lib.hid hex
  clear hr hf hg hex HEX
  go_enter Try.func25, Try.ntmps25
  go_wp2_with fail
  go_loopw [9, 10, 11] (fun s k i wr => ORel w len L f g s k i wr) (fun _ _ i _ => len - (intOf i).toNat)
  case atStart => exact ⟨none, 0, 0, by omega, by rw [pc_zero], by rw [pc_zero]; rfl, rfl, by rw [pc_zero]; exact QRow.nil _ _, (fun q hq => by rw [pc_zero] at hq; omega), by rw [pc_zero, pc_zero]; omega, Gr.refl _⟩
  case round =>
    obtain ⟨a', c', j, hj, rfl, rfl, rfl, ho, hall, hle, hg⟩ := hrel
    have HG := Lib.hid hg
    have HO := Lib.hid ho
    have HALL := Lib.hid hall
    have HLE := Lib.hid hle
    clear hg ho hall hle
    by_cases hlt : j < len
    · obtain ⟨r, hri, hrr⟩ := HR.out.get hlt
      obtain ⟨b0, off, ea, hrg⟩ := (HR.out.kept HG.out).some (by omega)
      subst ea
      have HRNG := Lib.hid (hrg j r hri)
      have HPS := Lib.hid (pc_step (f := f) hri)
      have HQS := Lib.hid (pc_step (f := g) hri)
      have HTK := Lib.hid (idx_map_step (f := f) hri)
      have HRI := Lib.hid hri
      have HRR := Lib.hid (hrr.kept HG.out)
      have hple := pc_len f L j
      obtain ⟨p, hp⟩ : ∃ p, pc f L j = p := ⟨_, rfl⟩
      obtain ⟨k, hk⟩ : ∃ k, pc g L j = k := ⟨_, rfl⟩
      have ho := HO.out
      rw [hp] at ho hple
      rw [hp, hk]
      have HP := Lib.hid hp
      have HK := Lib.hid hk
      have HO1 := Lib.hid ho
      have hkp : k ≤ p := by rw [← hp, ← hk]; exact HLE.out
      clear hri hrg hrr hp hk ho HO
      go_wp2_with (refine wpList_load_mid rfl 27 _ rfl b0 (off + j * 7) rfl (RCells r) _ HRNG.out Try.underlying27 rfl (by kernel_rfl) ?_)
      refine (ris_any r 1 t b d wr).mono ?_
      rw [HF.out]
      rintro e w2 ⟨rfl, hg2⟩
      have HG2 := Lib.hid (HG.out.trans hg2)
      have HO2 := Lib.hid (HO1.out.stay hg2)
      have HRR2 := Lib.hid (HRR.out.kept hg2)
      have HRNG2 := Lib.hid (show w2.rangeAt b0 (off + j * 7) (RCells r) from fun i v hv => hg2.cell (HRNG.out i v hv))
      clear hg2 HG HO1 HRR HRNG
      rcases Bool.eq_false_or_eq_true (f r) with hB | hB
      · have hG : g r = false := HX.out r hB
        rw [hB]
        have hps := HPS.out
        have hqs := HQS.out
        have htk := HTK.out
        rw [hB, HP.out] at hps
        rw [hG, HK.out] at hqs
        rw [hB] at htk
        simp only [if_true] at hps htk
        simp only [Bool.false_eq_true, if_false, Nat.add_zero] at hqs
        have c6 := HRNG2.out 6 _ rfl
        obtain ⟨w3, hw3⟩ : ∃ y, y = w2.alloc (.cells #[slv ⟨r.a, r.n, r.c⟩] 22) := ⟨_, rfl⟩
        have hg3 : Gr w2 w3 := by rw [hw3]; exact Gr.alloc _ _
        have hgw := HG2.out.size
        obtain ⟨a6, c6', w6, hrun6, ho6, hg6⟩ := (HO2.out.stay hg3).app ⟨r.a, r.n, r.c⟩ ⟨w2.heap.size, 0, none⟩ (.inr ⟨w2.heap.size, 0, rfl, by rw [hw3]; simp, fun i hi => by rw [Nat.zero_add, hw3, cell_new]; simp⟩) (by omega) (Nat.le_trans hgw hg3.size)
        rw [← htk] at ho6
        rw [hw3] at hrun6
        have hgg := hg6 w (HG2.out.trans hg3) (Nat.le_refl _)
        have HRUN := Lib.hid hrun6
        have HO6 := Lib.hid ho6
        have HG6 := Lib.hid hgg
        have HRNG6 := Lib.hid (show w6.rangeAt b0 (off + j * 7) (RCells r) from by
          obtain ⟨b0', off', ea', hrg'⟩ := (HR.out.kept hgg).some (by omega)
          injection ea' with ea'
          injection ea' with e1 e2
          subst e1 e2
          exact hrg' j r HRI.out)
        have HPS2 := Lib.hid hps
        have HQS2 := Lib.hid hqs
        have HGF := Lib.hid hG
        clear hps hqs htk hw3 hg3 hrun6 ho6 hg6 hgg hgw hB hG
        go_upto_region 8 with (at_builtin; refine wpList_app rfl _ _ _ rfl rfl rfl HRUN.out ?_)
        clear c6
        go_wp2_with (refine wpList_load_mid rfl 27 _ rfl b0 (off + j * 7) rfl (RCells r) _ HRNG6.out Try.underlying27 rfl (by kernel_rfl) ?_)
        refine (ris_any r 2 t b d w6).mono ?_
        rw [HGS.out, HGF.out]
        rintro e w7 ⟨rfl, hg7⟩
        have HG7 := Lib.hid (HG6.out.trans hg7)
        have HO7 := Lib.hid (HO6.out.stay hg7)
        clear hg7
        go_wp2_with fail
        go_roundw
        case rel =>
          refine ⟨a6, c6', j + 1, by omega, by rw [HPS2.out], by rw [HQS2.out], by go_num, by rw [HPS2.out]; exact HO7.out, ?_, by rw [HPS2.out, HQS2.out]; omega, HG7.out⟩
          rw [HQS2.out]
          have h := HALL.out
          rw [HK.out] at h
          exact h
        case measure => (simp [intOf] <;> omega)
      · rw [hB]
        have hps := HPS.out
        have htk := HTK.out
        rw [hB, HP.out] at hps
        rw [hB] at htk
        simp only [Bool.false_eq_true, if_false, Nat.add_zero, List.append_nil] at hps htk
        have HPS2 := Lib.hid hps
        have HTK2 := Lib.hid htk
        clear hps htk hB
        go_upto_region 8 with (fail)
        go_wp2_with (refine wpList_load_mid rfl 27 _ rfl b0 (off + j * 7) rfl (RCells r) _ HRNG2.out Try.underlying27 rfl (by kernel_rfl) ?_)
        refine (ris_any r 2 t b d w2).mono ?_
        rw [HGS.out]
        rintro e w7 ⟨rfl, hg7⟩
        have HG7 := Lib.hid (HG2.out.trans hg7)
        have HO7 := Lib.hid (HO2.out.stay hg7)
        have HRR7 := Lib.hid (HRR2.out.kept hg7)
        have c6 := hg7.cell (HRNG2.out 6 _ rfl)
        clear hg7 HG2 HO2 HRR2 HRNG2
        rcases Bool.eq_false_or_eq_true (g r) with hB | hB
        rotate_left
        · rw [hB]
          have hqs := HQS.out
          rw [hB, HK.out] at hqs
          simp only [Bool.false_eq_true, if_false, Nat.add_zero] at hqs
          have HQS2 := Lib.hid hqs
          clear hB hqs c6
          go_wp2_with fail
          go_roundw
          case rel =>
            refine ⟨a', c', j + 1, by omega, by rw [HPS2.out], by rw [HQS2.out], by go_num, by rw [HPS2.out, HTK2.out]; exact HO7.out, ?_, by rw [HPS2.out, HQS2.out]; omega, HG7.out⟩
            rw [HQS2.out]
            have h := HALL.out
            rw [HK.out] at h
            exact h
          case measure => (simp [intOf] <;> omega)
        · rw [hB]
          have hqs := HQS.out
          rw [hB, HK.out] at hqs
          simp only [if_true] at hqs
          have HQS2 := Lib.hid hqs
          have HB := Lib.hid hB
          clear hB hqs
          by_cases hkk : k < p
          · obtain ⟨y, hyj, hyl, hp1, hp2⟩ := pos_lt (f := f) (L := L) (i := j) (k := k) (by rw [HL.out]; omega) (by rw [HP.out]; exact hkk)
            obtain ⟨q, hqi, hqr⟩ := HR.out.get (i := y) (by rw [← HL.out]; exact hyl)
            obtain ⟨g0, o0, eq, hcq⟩ := HO7.out.cell (by omega)
            subst eq
            have ck := hcq k (.slice q.a q.n q.c) (by rw [List.getElem?_map, hp2, Option.map_some, dsl_at hqi])
            obtain ⟨E, hE⟩ : ∃ E, decide (q.xs = r.xs) = E := ⟨_, rfl⟩
            have hmb := ord_at HRI.out HB.out (show (idxF f 0 L)[pc g L j]? = some (y : Int) by rw [HK.out]; exact hp1) hyj hqi
            rw [HK.out, hE] at hmb
            have HMB := Lib.hid hmb
            have HE := Lib.hid hE
            have HQR := Lib.hid (hqr.kept HG7.out)
            have ckg : ∀ u, Gr w7 u → u.cell? ⟨g0, o0 + k, none⟩ = some (.slice q.a q.n q.c) := fun u hu => hu.cell ck
            have c6g : ∀ u, Gr w7 u → u.cell? ⟨b0, off + j * 7 + 6, none⟩ = some (.slice r.a r.n r.c) := fun u hu => hu.cell c6
            clear hyj hyl hp1 hp2 hqi hqr hcq ck c6 hE hmb
            have hdk : decide (p ≤ k) = false := decide_eq_false (by omega)
            go_upto_region 9 with (fail)
            refine Sched.wp_region_sched 17 [] [] (by kernel_rfl) (by kernel_rfl) ?_
            simp only [List.take_succ_cons, List.take_zero, List.drop_succ_cons, List.drop_zero]
            repeat (first | (refine Sched.walk1_no rfl rfl (fun K hK => ?_); simp only [Act.put, List.setIfInBounds_toArray, List.set_cons_zero, List.set_cons_succ]; refine hK _ ?_; clear hK K) | (refine Sched.walk1_gr rfl rfl rfl (fun K hK => ?_); apply Exists.intro; refine ⟨fun w1 hw1 => ?_, ?_⟩; (focus (go_simp; (try go_ints); (try (simp only [IntWalk.iteOmega]; go_simp)); first | done | (go_at_call 38; (with_reducible exact sameb_is HE.out _ _ _ _ _ _ _ (rd_gr HQR.out hw1) (rd_gr HRR7.out hw1))) | (with_reducible rfl) | (with_reducible exact ⟨rfl, rfl⟩))); simp only [Act.put, List.setIfInBounds_toArray, List.set_cons_zero, List.set_cons_succ]; refine hK _ ?_; clear hK K) | (refine Sched.walk1_pure rfl rfl rfl (fun K hK => ?_); apply Exists.intro; refine ⟨fun w1 => ?_, ?_⟩; (focus (go_simp; (try go_ints); (try (simp only [IntWalk.iteOmega]; go_simp)); first | done | (with_reducible rfl) | (with_reducible exact ⟨rfl, rfl⟩))); simp only [Act.put, List.setIfInBounds_toArray, List.set_cons_zero, List.set_cons_succ]; refine hK _ ?_; clear hK K) | (refine Sched.walk1_box rfl rfl ?_; apply Exists.intro; refine ⟨fun w1 hw1 => ?_, ?_⟩; (focus (go_simp; exact ⟨Gr.alloc _ _, rfl, by simp, heap_alloc_new _ _⟩))))
            refine Sched.walk1_nil ?_
            intro wq hwq
            dsimp only [Sched.EndN, List.nil_append, List.cons_append, Act.put]
            (try simp only [List.setIfInBounds_toArray, List.set_cons_zero, List.set_cons_succ])
            repeat (first | (refine Sched.walk2_no rfl (fun K hK => ?_); simp only [Act.put, List.setIfInBounds_toArray, List.set_cons_zero, List.set_cons_succ]; refine hK _ ?_; clear hK K) | (refine Sched.walk2_go rfl (fun K hK => ?_); go_simp; (try go_ints); (try (simp only [IntWalk.iteOmega]; go_simp)); first | (refine hK _ _ ?_; clear hK K) | fail))
            refine Sched.walk2_nil ?_
            have HGq := Lib.hid (HG7.out.trans hwq)
            have HOq := Lib.hid (HO7.out.stay hwq)
            clear ckg c6g hwq
            cases E
            · go_wp2_with fail
              go_ret
              exact ⟨ret_bool (ordB_no (k := k) (by rw [← HK.out]; exact pc_lt HRI.out HB.out) HMB.out).symm, HGq.out⟩
            · go_wp2_with fail
              go_roundw
              case rel =>
                refine ⟨_, c', j + 1, by omega, by rw [HPS2.out], by rw [HQS2.out]; go_num, by go_num, by rw [HPS2.out, HTK2.out]; exact HOq.out, ?_, by rw [HPS2.out, HQS2.out]; omega, HGq.out⟩
                rw [HQS2.out]
                intro z hz
                by_cases hzk : z < k
                · have h := HALL.out z
                  rw [HK.out] at h
                  exact h hzk
                · obtain rfl : z = k := by omega
                  exact HMB.out
              case measure => (simp [intOf] <;> omega)
          · have hdk : decide (p ≤ k) = true := decide_eq_true (by omega)
            go_upto_region 9 with (fail)
            refine Sched.wp_region_sched 17 [] [] (by kernel_rfl) (by kernel_rfl) ?_
            simp only [List.take_succ_cons, List.take_zero, List.drop_succ_cons, List.drop_zero]
            repeat (first | ((with_reducible refine Sched.walk1_no ?_ ?_ (fun K hK => ?_)); (focus rfl); (focus rfl); simp only [Act.put, List.setIfInBounds_toArray, List.set_cons_zero, List.set_cons_succ]; refine hK _ ?_; clear hK K) | ((with_reducible refine Sched.walk1_gr ?_ ?_ ?_ (fun K hK => ?_)); (focus rfl); (focus rfl); (focus rfl); apply Exists.intro; refine ⟨fun w1 hw1 => ?_, ?_⟩; (focus (go_simp; (try go_ints); (try (simp only [IntWalk.iteOmega]; go_simp)); first | done | fail | (with_reducible rfl) | (with_reducible exact ⟨rfl, rfl⟩))); simp only [Act.put, List.setIfInBounds_toArray, List.set_cons_zero, List.set_cons_succ]; refine hK _ ?_; clear hK K) | ((with_reducible refine Sched.walk1_pure ?_ ?_ ?_ (fun K hK => ?_)); (focus rfl); (focus rfl); (focus rfl); apply Exists.intro; refine ⟨fun w1 => ?_, ?_⟩; (focus (go_simp; (try go_ints); (try (simp only [IntWalk.iteOmega]; go_simp)); first | done | (with_reducible rfl) | (with_reducible exact ⟨rfl, rfl⟩))); simp only [Act.put, List.setIfInBounds_toArray, List.set_cons_zero, List.set_cons_succ]; refine hK _ ?_; clear hK K) | (refine Sched.walk1_box rfl rfl ?_; apply Exists.intro; refine ⟨fun w1 hw1 => ?_, ?_⟩; (focus (go_simp; exact ⟨Gr.alloc _ _, rfl, by simp, heap_alloc_new _ _⟩))))
            (with_reducible refine Sched.walk1_nil ?_)
            intro wq hwq
            dsimp only [Sched.EndN, List.nil_append, List.cons_append, Act.put]
            (try simp only [List.setIfInBounds_toArray, List.set_cons_zero, List.set_cons_succ])
            repeat (first | (refine Sched.walk2_no rfl (fun K hK => ?_); simp only [Act.put, List.setIfInBounds_toArray, List.set_cons_zero, List.set_cons_succ]; refine hK _ ?_; clear hK K) | (refine Sched.walk2_go rfl (fun K hK => ?_); go_simp; (try go_ints); (try (simp only [IntWalk.iteOmega]; go_simp)); first | (refine hK _ _ ?_; clear hK K) | fail))
            refine Sched.walk2_nil ?_
            have HGq := Lib.hid (HG7.out.trans hwq)
            clear c6 hwq
            go_wp2_with fail
            go_ret
            exact ⟨ret_bool (ord_out HRI.out HB.out (by rw [HP.out, HK.out]; omega)).symm, HGq.out⟩
    · obtain rfl : j = len := by omega
      have hall := HALL.out
      have hle := HLE.out
      rw [← HL.out, pc_all] at hall
      rw [← HL.out, pc_all, pc_all] at hle
      have HY := Lib.hid (ordB_yes hle hall)
      clear hall hle HALL HLE
      go_wp2_with fail
      go_ret
      exact ⟨ret_bool HY.out.symm, HG.out⟩
end Go.Proofs.Ytgackcjhiplplaa
