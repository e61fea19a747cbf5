/- Layer 44 (audit): Moves of both sides, Clean of the reference. -/
import Derived.Test.YtgackcjhiplplaaAudO
namespace Go.Proofs.Ytgackcjhiplplaa
open Go.ChangeShapes Go.WideShapes Go.ChangeAt Go.RowKit

def celAt (L : List Rec) (x : Int) : Int := match L[x.toNat]? with | some r => r.cell | none => 0
theorem cel_at {L : List Rec} {k : Nat} {r : Rec} (h : L[k]? = some r) : celAt L (k : Int) = r.cell := by simp [celAt, h]
def MovesPost (L : List Rec) (t : Int) (w : World) (e : Ending) (w' : World) : Prop :=
  ∃ a' n c', e = .returned (.tuple #[.slice a' n c', .int .i64 ((idxF (selK 6 t) 0 L).length : Int)]) ∧ Rd .i64 w' a' n ((idxF (selK 5 t) 0 L).map (celAt L)) ∧ Gr w w'
def MvRel (L : List Rec) (P : List Int) (np : Nat) (w : World) (s i : Value) (wr : World) : Prop :=
  ∃ (a' : Option Addr) (c' k : Nat), k ≤ np ∧ s = .slice a' k c' ∧ i = .int .i64 k ∧ OwnI w.heap.size 3 .i64 wr a' k c' ((P.take k).map (celAt L)) ∧ Gr w wr
theorem take_map_snocI {P : List Int} {k : Nat} {x : Int} (f : Int → Int) (h : P[k]? = some x) : (P.take (k + 1)).map f = (P.take k).map f ++ [f x] := by
  rw [List.take_add_one, h]; simp
set_option maxRecDepth 100000 in
set_option maxHeartbeats 1000000 in
theorem moves_any (a : Option Addr) (len cap : Nat) (L : List Rec) (t : Int) (w : World) (hr : RdL w a len L) (hcw : ∀ r ∈ L, i64 r.cell) :
    Calls Try.prog 20 #[.slice a len cap, .int .i64 t] w (MovesPost L t w) := by
  have HR := Lib.hid hr
  have hm := hr.2.1
  have HCW := Lib.hid hcw
  obtain ⟨P, hP⟩ : ∃ P, idxF (selK 5 t) 0 L = P := ⟨_, rfl⟩
  obtain ⟨Q, hQ⟩ : ∃ Q, idxF (selK 6 t) 0 L = Q := ⟨_, rfl⟩
  have HPE := Lib.hid hP
  have HQE := Lib.hid hQ
  clear hr hP hQ hcw
  go_enter Try.func20, Try.ntmps20
  go_upto_region 1 with (fail)
  obtain ⟨w0, hw0⟩ : ∃ y, y = w.alloc (.cells #[.int .i64 t] 3) := ⟨_, rfl⟩
  have hb0 : IBlk w.heap.size t w0 := by rw [hw0]; exact heap_alloc_new _ _
  have hg0 : Gr w w0 := by rw [hw0]; exact Gr.alloc _ _
  rw [← hw0]
  have HB0 := Lib.hid hb0
  have HG0 := Lib.hid hg0
  clear hw0 hb0 hg0
  go_wp2_with fail
  refine (indices_m1 a len cap L _ t w0 (HR.out.kept HG0.out) HB0.out).mono ?_
  rintro e w1 ⟨p, np, cp, rfl, hnp, hop, hg1⟩
  have hP := HPE.out
  have hin1 := idxF_inL (selK 5 t) L
  have hp1 := hop.rd
  rw [hP] at hp1 hin1
  rw [HR.out.1] at hin1 hnp
  have HP1 := Lib.hid hp1
  have HI1 := Lib.hid hin1
  have HPL := Lib.hid hp1.1
  have HG1 := Lib.hid (HG0.out.trans hg1)
  have HB1 := Lib.hid (HB0.out.kept hg1)
  have hn2 : np ≤ 1000000 := by omega
  have HR1 := Lib.hid (HR.out.kept HG1.out)
  clear hP hin1 hp1 hop hg1 HB0 HG0
  go_wp2_with fail
  go_loopw [4, 12] (fun s i wr => MvRel L P np w1 s i wr) (fun _ i _ => np - (intOf i).toNat)
  case atStart => exact ⟨none, 0, 0, by omega, rfl, rfl, OwnI.nil _ _ _ _, Gr.refl _⟩
  case round =>
    obtain ⟨a', c', k, hk, rfl, rfl, ho, hg⟩ := hrel
    have HO := Lib.hid ho
    have HG := Lib.hid hg
    clear ho hg
    by_cases hlt : k < np
    · obtain ⟨i, hi', hpi⟩ := inL_at HI1.out (k := k) (by rw [HPL.out]; omega)
      obtain ⟨b1, o1, eb1, -, hc1⟩ := HP1.out.some (by omega)
      subst eb1
      have cp1 : wr.cell? ⟨b1, o1 + k, none⟩ = some (.int .i64 i) := by
        have := hc1 k (by omega)
        rw [hpi] at this
        exact HG.out.cell this
      obtain ⟨r, hri, hrr⟩ := HR1.out.get hi'
      obtain ⟨b0, off, ea, hrg⟩ := HR1.out.some (by omega)
      subst ea
      have c4 : wr.cell? ⟨b0, off + i * 7 + 4, none⟩ = some (.int .i64 r.cell) := HG.out.cell (hrg i r hri 4 _ rfl)
      have htk := take_map_snocI (celAt L) hpi
      rw [cel_at hri] at htk
      have hcw := HCW.out r (List.mem_of_getElem? hri)
      have hrd := rd_new (k := .i64) (w := wr) [r.cell] 3 (0, 0) 1 rfl (by simp [maxLen]) (by intro z hz; simp only [List.mem_singleton] at hz; subst hz; exact WalkArith.wf_i64 hcw)
      obtain ⟨a5, c5, w5, hrun5, ho5, hg5, _⟩ := app_i64 w1.heap.size (wr.alloc (.cells ([r.cell].map (Value.int .i64)).toArray 3)) a' k c' _ (HO.out.stay (Gr.alloc _ _)) (some ⟨wr.heap.size, 0, none⟩) 1 1 _ hrd (by omega) (Nat.le_trans HG.out.size (by simp))
      rw [← htk] at ho5
      simp only [List.map_cons, List.map_nil] at hrun5
      have HR5 := Lib.hid hrun5
      have HO5 := Lib.hid ho5
      have HG5 := Lib.hid (grown_own (HG.out.trans (Gr.alloc _ _)) (HO.out.stay (Gr.alloc _ _)) (Nat.le_refl _) hg5)
      clear hc1 hpi hri hrg hrr htk hrd hrun5 ho5 hg5 hcw
      go_wp2_with (at_builtin; refine wpList_app rfl _ _ _ rfl rfl rfl HR5.out ?_)
      go_roundw
      case rel => exact ⟨a5, c5, k + 1, by omega, rfl, by go_num, HO5.out, HG5.out⟩
      case measure => (simp [intOf] <;> omega)
    · obtain rfl : k = np := by omega
      have ho := HO.out
      rw [List.take_of_length_le (by rw [HPL.out]; omega)] at ho
      have HO2 := Lib.hid ho
      have HG2 := Lib.hid (HG1.out.trans HG.out)
      have HB2 := Lib.hid (HB1.out.kept HG.out)
      clear ho HO
      go_wp2_with fail
      refine (indices_m2 a len cap L _ t wr (HR.out.kept HG2.out) HB2.out).mono ?_
      rintro e w6 ⟨q, nq, cq, rfl, hnq, hoq, hg6⟩
      have hql := hoq.len
      rw [HQE.out] at hql
      have hm2 : nq ≤ 1000000 := by have := HR.out.1; omega
      have HQL := Lib.hid hql
      have HO6 := Lib.hid (HO2.out.stay hg6)
      have HG6 := Lib.hid (HG2.out.trans hg6)
      clear hql hoq hg6 hnq
      go_wp2_with fail
      go_ret2
      refine ⟨a', k, c', ?_, by rw [HPE.out]; exact HO6.out.rd, HG6.out⟩
      rw [HQE.out, HQL.out]
      rfl
def RMvRel (L : List Rec) (f g : Rec → Bool) (len : Nat) (w : World) (s b i : Value) (wr : World) : Prop :=
  ∃ (a' : Option Addr) (c' j : Nat), j ≤ len ∧ s = .slice a' (pc f L j) c' ∧ b = .int .i64 (pc g L j) ∧ i = .int .i64 j ∧ OwnI w.heap.size 3 .i64 wr a' (pc f L j) c' ((idxF f 0 (L.take j)).map (celAt L)) ∧ Gr w wr
theorem cel_step {f : Rec → Bool} {L : List Rec} {j : Nat} {r : Rec} (h : L[j]? = some r) : (idxF f 0 (L.take (j + 1))).map (celAt L) = (idxF f 0 (L.take j)).map (celAt L) ++ (if f r then [r.cell] else []) := by
  rw [idxF_take h, List.map_append]
  split
  · rw [List.map_cons, List.map_nil, cel_at h]
  · simp
theorem selK_not {t : Int} {r : Rec} (h : selK 5 t r = true) : selK 6 t r = false := by
  unfold selK at h ⊢
  simp only [Bool.and_eq_true, beq_iff_eq] at h
  rw [h.1]; rfl
set_option maxRecDepth 100000 in
set_option maxHeartbeats 1000000 in
theorem rmoves_any (a : Option Addr) (len cap : Nat) (L : List Rec) (t : Int) (w : World) (hr : RdL w a len L) (hcw : ∀ r ∈ L, i64 r.cell) :
    Calls Try.prog 21 #[.slice a len cap, .int .i64 t] w (MovesPost L t w) := by
  have HR := Lib.hid hr
  have HL := Lib.hid hr.1
  have hm := hr.2.1
  have HCW := Lib.hid hcw
  have HX0 := Lib.hid (fun r (h : selK 5 t r = true) => selK_not h)
  have HSE := Lib.hid (fun r : Rec => (show selK 5 t r = ((r.kind == 5) && (r.term == t)) ∧ selK 6 t r = ((r.kind == 6) && (r.term == t)) from ⟨rfl, rfl⟩))
  obtain ⟨f, hf⟩ : ∃ f, selK 5 t = f := ⟨_, rfl⟩
  obtain ⟨g, hg⟩ : ∃ g, selK 6 t = g := ⟨_, rfl⟩
  have hex := HX0.out
  have hse := HSE.out
  rw [hf, hg] at hex hse
  have HX := Lib.hid hex
  have HS := Lib.hid hse
  have HFE := Lib.hid hf
  have HGE := Lib.hid hg
  clear hr hcw hf hg hex hse HX0 HSE
  go_enter Try.func21, Try.ntmps21
  go_wp2_with fail
  go_loopw [6, 7, 8] (fun s b i wr => RMvRel L f g len w s b i wr) (fun _ _ i _ => len - (intOf i).toNat)
  case atStart => exact ⟨none, 0, 0, by omega, by rw [pc_zero], by rw [pc_zero]; rfl, rfl, by rw [pc_zero]; exact OwnI.nil _ _ _ _, Gr.refl _⟩
  case round =>
    obtain ⟨a', c', j, hj, rfl, rfl, rfl, ho, hg⟩ := hrel
    have HO := Lib.hid ho
    have HG := Lib.hid hg
    clear ho hg
    by_cases hlt : j < len
    · obtain ⟨r, hri, hrr⟩ := HR.out.get hlt
      obtain ⟨b0, off, ea, hrg⟩ := (HR.out.kept HG.out).some (by omega)
      subst ea
      have c1 := hrg j r hri 1 _ rfl
      have c2 := hrg j r hri 2 _ rfl
      have c4 := hrg j r hri 4 _ rfl
      have HPS := Lib.hid (pc_step (f := f) hri)
      have HQS := Lib.hid (pc_step (f := g) hri)
      have HTK := Lib.hid (cel_step (f := f) hri)
      have hcw := HCW.out r (List.mem_of_getElem? hri)
      have HWF := Lib.hid hcw
      have hp1 := pc_len f L j
      have hp2 := pc_len g L j
      obtain ⟨p, hp⟩ : ∃ p, pc f L j = p := ⟨_, rfl⟩
      obtain ⟨q, hq⟩ : ∃ q, pc g L j = q := ⟨_, rfl⟩
      have ho := HO.out
      rw [hp] at ho hp1
      rw [hq] at hp2
      rw [hp, hq]
      have HP := Lib.hid hp
      have HQ := Lib.hid hq
      have HO1 := Lib.hid ho
      obtain ⟨B1, e1⟩ : ∃ z, (r.kind == 5) = z := ⟨_, rfl⟩
      obtain ⟨B2, e2⟩ : ∃ z, (r.term == t) = z := ⟨_, rfl⟩
      obtain ⟨B3, e3⟩ : ∃ z, (r.kind == 6) = z := ⟨_, rfl⟩
      have hs := HS.out r
      rw [e1, e2, e3] at hs
      have HSR := Lib.hid hs
      have HRI := Lib.hid hri
      clear hri hrg hrr hcw hp hq ho HO hs
      cases B2
      · have hF : f r = false := by rw [HSR.out.1]; cases B1 <;> rfl
        have hG : g r = false := by rw [HSR.out.2]; cases B3 <;> rfl
        have hps := HPS.out
        have hqs := HQS.out
        have htk := HTK.out
        rw [hF, HP.out] at hps
        rw [hG, HQ.out] at hqs
        rw [hF] at htk
        simp only [Bool.false_eq_true, if_false, Nat.add_zero, List.append_nil] at hps hqs htk
        have HPS2 := Lib.hid hps
        have HQS2 := Lib.hid hqs
        have HTK2 := Lib.hid htk
        clear hps hqs htk hF hG
        go_wp2_with fail
        go_roundw
        case rel => exact ⟨a', c', j + 1, by omega, by rw [HPS2.out], by rw [HQS2.out], by go_num, by rw [HPS2.out, HTK2.out]; exact HO1.out, HG.out⟩
        case measure => (simp [intOf] <;> omega)
      · cases B1
        · have hF : f r = false := by rw [HSR.out.1]; rfl
          have hps := HPS.out
          have htk := HTK.out
          rw [hF, HP.out] at hps
          rw [hF] at htk
          simp only [Bool.false_eq_true, if_false, Nat.add_zero, List.append_nil] at hps htk
          have HPS2 := Lib.hid hps
          have HTK2 := Lib.hid htk
          clear hps htk hF
          cases B3
          · have hG : g r = false := by rw [HSR.out.2]; rfl
            have hqs := HQS.out
            rw [hG, HQ.out] at hqs
            simp only [Bool.false_eq_true, if_false, Nat.add_zero] at hqs
            have HQS2 := Lib.hid hqs
            clear hqs hG
            go_wp2_with fail
            go_roundw
            case rel => exact ⟨a', c', j + 1, by omega, by rw [HPS2.out], by rw [HQS2.out], by go_num, by rw [HPS2.out, HTK2.out]; exact HO1.out, HG.out⟩
            case measure => (simp [intOf] <;> omega)
          · have hG : g r = true := by rw [HSR.out.2]; rfl
            have hqs := HQS.out
            rw [hG, HQ.out] at hqs
            simp only [if_true] at hqs
            have HQS2 := Lib.hid hqs
            clear hqs hG
            go_wp2_with fail
            go_roundw
            case rel => exact ⟨a', c', j + 1, by omega, by rw [HPS2.out], by rw [HQS2.out]; go_num, by go_num, by rw [HPS2.out, HTK2.out]; exact HO1.out, HG.out⟩
            case measure => (simp [intOf] <;> omega)
        · have hF : f r = true := by rw [HSR.out.1]; rfl
          have hG : g r = false := HX.out r hF
          have hB3 : B3 = false := by
            have h := HSR.out.2
            rw [hG] at h
            cases B3
            · rfl
            · cases h
          subst hB3
          have hps := HPS.out
          have hqs := HQS.out
          have htk := HTK.out
          rw [hF, HP.out] at hps
          rw [hG, HQ.out] at hqs
          rw [hF] at htk
          simp only [if_true] at hps htk
          simp only [Bool.false_eq_true, if_false, Nat.add_zero] at hqs
          have hrd := rd_new (k := .i64) (w := wr) [r.cell] 3 (0, 0) 1 rfl (by simp [maxLen]) (by intro z hz; simp only [List.mem_singleton] at hz; subst hz; exact WalkArith.wf_i64 HWF.out)
          obtain ⟨a5, c5, w5, hrun5, ho5, hg5, _⟩ := app_i64 w.heap.size (wr.alloc (.cells ([r.cell].map (Value.int .i64)).toArray 3)) a' p c' _ (HO1.out.stay (Gr.alloc _ _)) (some ⟨wr.heap.size, 0, none⟩) 1 1 _ hrd (by omega) (Nat.le_trans HG.out.size (by simp))
          rw [← htk] at ho5
          simp only [List.map_cons, List.map_nil] at hrun5
          have hgg := grown_own (HG.out.trans (Gr.alloc _ _)) (HO1.out.stay (Gr.alloc _ _)) (Nat.le_refl _) hg5
          obtain ⟨b0', off', ea', hrg'⟩ := (HR.out.kept hgg).some (by omega)
          injection ea' with ea'
          injection ea' with e1' e2'
          subst e1' e2'
          have d1 := hrg' j r HRI.out 1 _ rfl
          have d2 := hrg' j r HRI.out 2 _ rfl
          have HR5 := Lib.hid hrun5
          have HO5 := Lib.hid ho5
          have HG5 := Lib.hid hgg
          have HPS2 := Lib.hid hps
          have HQS2 := Lib.hid hqs
          clear hps hqs htk hrd hrun5 ho5 hg5 hgg hF hG hrg'
          go_wp2_with (at_builtin; refine wpList_app rfl _ _ _ rfl rfl rfl HR5.out ?_)
          go_roundw
          case rel => exact ⟨a5, c5, j + 1, by omega, by rw [HPS2.out], by rw [HQS2.out], by go_num, by rw [HPS2.out]; exact HO5.out, HG5.out⟩
          case measure => (simp [intOf] <;> omega)
    · obtain rfl : j = len := by omega
      have ho := HO.out
      rw [List.take_of_length_le (by rw [HL.out]; omega)] at ho
      have hpq : pc g L j = (idxF g 0 L).length := by rw [← HL.out, pc_all]
      have HO2 := Lib.hid ho.rd
      have HPQ := Lib.hid hpq
      obtain ⟨p, hp⟩ : ∃ p, pc f L j = p := ⟨_, rfl⟩
      obtain ⟨q, hq⟩ : ∃ q, pc g L j = q := ⟨_, rfl⟩
      have ho2 := HO2.out
      have hpq2 := HPQ.out
      rw [hp] at ho2
      rw [hq] at hpq2
      rw [hp, hq]
      have HO3 := Lib.hid ho2
      have HQ3 := Lib.hid hpq2
      clear ho hpq ho2 hpq2 hp hq HO HO2 HPQ
      go_wp2_with fail
      go_ret2
      refine ⟨a', p, c', ?_, by rw [HFE.out]; exact HO3.out, HG.out⟩
      rw [HGE.out, ← HQ3.out]
      rfl
/-! ### Clean -/
theorem clean_no {L : List Rec} {j : Nat} {r : Rec} (h : L[j]? = some r) (hs : selC r = true) : decide ((idxF selC 0 L).length = 0) = false := by
  have := pc_lt (f := selC) h hs
  exact decide_eq_false (by omega)
theorem clean_yes {L : List Rec} (h : pc selC L L.length = 0) : decide ((idxF selC 0 L).length = 0) = true := by
  rw [pc_all] at h
  exact decide_eq_true h
set_option maxRecDepth 100000 in
set_option maxHeartbeats 1000000 in
theorem rclean_any (a : Option Addr) (len cap : Nat) (L : List Rec) (w : World) (hr : RdL w a len L) :
    Calls Try.prog 28 #[.slice a len cap] w fun e w' => e = .returned (.bool (decide ((idxF selC 0 L).length = 0))) ∧ Gr w w' := by
  have HR := Lib.hid hr
  have HL := Lib.hid hr.1
  have hm := hr.2.1
  clear hr
  go_enter Try.func28, Try.ntmps28
  go_wp2_with fail
  go_loopw [3] (fun i wr => ∃ j : Nat, j ≤ len ∧ i = .int .i64 j ∧ pc selC L j = 0 ∧ w = wr) (fun i _ => len - (intOf i).toNat)
  case atStart => exact ⟨0, by omega, rfl, pc_zero _ _, rfl⟩
  case round =>
    obtain ⟨j, hj, rfl, hz, rfl⟩ := hrel
    have HZ := Lib.hid hz
    clear hz
    by_cases hlt : j < len
    · obtain ⟨r, hri, hrr⟩ := HR.out.get hlt
      obtain ⟨b0, off, ea, hrg⟩ := HR.out.some (by omega)
      subst ea
      have c1 := hrg j r hri 1 _ rfl
      have HPS := Lib.hid (pc_step (f := selC) hri)
      have HRI := Lib.hid hri
      obtain ⟨B1, e1⟩ : ∃ z, (r.kind == 7) = z := ⟨_, rfl⟩
      obtain ⟨B2, e2⟩ : ∃ z, (r.kind == 8) = z := ⟨_, rfl⟩
      obtain ⟨B3, e3⟩ : ∃ z, (r.kind == 9) = z := ⟨_, rfl⟩
      have HS := Lib.hid (show selC r = (B1 || (B2 || B3)) by rw [selC, e1, e2, e3])
      clear hri hrg hrr
      cases B1
      · cases B2
        · cases B3
          · have hps := HPS.out
            rw [HS.out, HZ.out] at hps
            have HP2 := Lib.hid hps
            clear hps
            go_wp2_with fail
            go_roundw
            case rel => exact ⟨j + 1, by omega, by go_num, HP2.out, trivial⟩
            case measure => (simp [intOf] <;> omega)
          · go_wp2_with fail
            go_ret
            exact ⟨ret_bool (clean_no HRI.out HS.out).symm, Gr.refl _⟩
        · go_wp2_with fail
          go_ret
          exact ⟨ret_bool (clean_no HRI.out (by rw [HS.out]; rfl)).symm, Gr.refl _⟩
      · go_wp2_with fail
        go_ret
        exact ⟨ret_bool (clean_no HRI.out (by rw [HS.out]; rfl)).symm, Gr.refl _⟩
    · obtain rfl : j = len := by omega
      have HY := Lib.hid (clean_yes (L := L) (by rw [HL.out]; exact HZ.out))
      go_wp2_with fail
      go_ret
      exact ⟨ret_bool HY.out.symm, Gr.refl _⟩
end Go.Proofs.Ytgackcjhiplplaa
