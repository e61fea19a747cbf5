/- Layer 44 (audit): InOrder, Among, Delay. -/
import Derived.Test.YtgackcjhiplplaaAudD
namespace Go.Proofs.Ytgackcjhiplplaa
open Go.ChangeShapes Go.WideShapes Go.ChangeAt Go.RowKit

def matB (L : List Rec) (P Q : List Int) (k : Nat) : Bool := mat L (P[k]?.getD 0) (Q[k]?.getD 0)
def ordB (L : List Rec) (P Q : List Int) : Bool := decide (Q.length ≤ P.length) && (List.range Q.length).all (matB L P Q)
theorem matches_is {a : Option Addr} {len cap : Nat} {L : List Rec} {i o : Nat} {V : Bool} (hv : mat L i o = V) (w : World) (hr : RdL w a len L) (hi : i < len) (ho : o < len) :
    Calls Try.prog 17 #[.slice a len cap, .int .i64 i, .int .i64 o] w fun e w' => e = .returned (.bool V) ∧ Gr w w' := hv ▸ matches_any a len cap L i o w hr hi ho
theorem rdl_gr {w w' : World} {a : Option Addr} {len : Nat} {L : List Rec} (h : RdL w a len L) (hg : Gr w w') : RdL w' a len L := h.kept hg
theorem inL_at {len : Nat} {P : List Int} (h : inL len P) {k : Nat} (hk : k < P.length) : ∃ j : Nat, j < len ∧ P[k]? = some (j : Int) := by
  obtain ⟨j, h1, h2⟩ := h P[k] (List.getElem_mem hk)
  exact ⟨j, h1, by rw [List.getElem?_eq_getElem hk, h2]⟩
theorem ordB_no {L : List Rec} {P Q : List Int} {k : Nat} (hk : k < Q.length) (h : matB L P Q k = false) : ordB L P Q = false := by
  unfold ordB
  rw [Bool.and_eq_false_iff]
  right
  rw [List.all_eq_false]
  exact ⟨k, List.mem_range.2 hk, by rw [h]; simp⟩
theorem ordB_yes {L : List Rec} {P Q : List Int} (hl : Q.length ≤ P.length) (h : ∀ k, k < Q.length → matB L P Q k = true) : ordB L P Q = true := by
  unfold ordB
  rw [decide_eq_true hl, Bool.true_and, List.all_eq_true]
  exact fun k hk => h k (List.mem_range.1 hk)
theorem ordB_parts {L : List Rec} {P Q : List Int} (h : ordB L P Q = true) : Q.length ≤ P.length ∧ ∀ k, k < Q.length → matB L P Q k = true := by
  unfold ordB at h
  rw [Bool.and_eq_true, decide_eq_true_eq, List.all_eq_true] at h
  exact ⟨h.1, fun k hk => h.2 k (List.mem_range.2 hk)⟩
set_option maxRecDepth 100000 in
set_option maxHeartbeats 1000000 in
theorem inorder_any (a : Option Addr) (len cap : Nat) (L : List Rec) (t b d : Int) (w : World) (hr : RdL w a len L) :
    Calls Try.prog 9 #[.slice a len cap, .int .i64 t, .int .i64 b, .int .i64 d] w fun e w' => e = .returned (.bool (ordB L (idxF (sel 1 t b d) 0 L) (idxF (sel 2 t b d) 0 L))) ∧ Gr w w' := by
  have HR := Lib.hid hr
  have hm := hr.2.1
  obtain ⟨P, hP⟩ : ∃ P, idxF (sel 1 t b d) 0 L = P := ⟨_, rfl⟩
  obtain ⟨Q, hQ⟩ : ∃ Q, idxF (sel 2 t b d) 0 L = Q := ⟨_, rfl⟩
  rw [hP, hQ]
  have HPE := Lib.hid hP
  have HQE := Lib.hid hQ
  clear hr hP hQ
  go_enter Try.func9, Try.ntmps9
  go_wp2_with fail
  refine (flow_any a len cap L 1 t b d w HR.out).mono ?_
  rintro e w1 ⟨p, np, cp, rfl, hnp, hop, hg1⟩
  have HP1 := Lib.hid hop.rd
  have HG1 := Lib.hid hg1
  clear hop hg1
  go_wp2_with fail
  refine (flow_any a len cap L 2 t b d w1 (HR.out.kept HG1.out)).mono ?_
  rintro e w2 ⟨q, nq, cq, rfl, hnq, hoq, hg2⟩
  have hP := HPE.out
  have hQ := HQE.out
  have hin1 := idxF_inL (sel 1 t b d) L
  have hin2 := idxF_inL (sel 2 t b d) L
  have hp1 := HP1.out
  have hq1 := hoq.rd
  rw [hP] at hp1 hin1
  rw [hQ] at hin2 hq1
  rw [HR.out.1] at hin1 hin2 hnp hnq
  have HP2 := Lib.hid (hp1.kept hg2)
  have HQ2 := Lib.hid hq1
  have HI1 := Lib.hid hin1
  have HI2 := Lib.hid hin2
  have HR2 := Lib.hid (HR.out.kept (HG1.out.trans hg2))
  have HG2 := Lib.hid (HG1.out.trans hg2)
  have HPL := Lib.hid hp1.1
  have HQL := Lib.hid hq1.1
  clear hP hQ hin1 hin2 hp1 hq1 hoq hg2 HP1 HG1
  by_cases hlen : np < nq
  · go_wp2_with fail
    go_ret
    have : ordB L P Q = false := by unfold ordB; rw [HPL.out, HQL.out, decide_eq_false (by omega)]; rfl
    exact ⟨ret_bool this.symm, HG2.out⟩
  · go_wp2_with fail
    go_loopw [29] (fun i wr => ∃ k : Nat, k ≤ nq ∧ i = .int .i64 k ∧ (∀ j, j < k → matB L P Q j = true) ∧ Gr w2 wr) (fun i _ => nq - (intOf i).toNat)
    case atStart => exact ⟨0, by omega, rfl, fun j hj => by omega, Gr.refl _⟩
    case round =>
      obtain ⟨k, hk, rfl, hall, hg⟩ := hrel
      have HALL := Lib.hid hall
      have HG := Lib.hid hg
      clear hall hg
      by_cases hlt : k < nq
      · obtain ⟨i, hi, hpi⟩ := inL_at HI1.out (k := k) (by rw [HPL.out]; omega)
        obtain ⟨o, ho, hqo⟩ := inL_at HI2.out (k := k) (by rw [HQL.out]; omega)
        obtain ⟨b1, o1, eb1, -, hc1⟩ := HP2.out.some (by omega)
        obtain ⟨b2, o2, eb2, -, hc2⟩ := HQ2.out.some (by omega)
        subst eb1 eb2
        have cp1 : ∀ u, Gr wr u → u.cell? ⟨b1, o1 + k, none⟩ = some (.int .i64 i) := fun u hu => by
          have := hc1 k (by omega)
          rw [hpi] at this
          exact (HG.out.trans hu).cell this
        have cq1 : ∀ u, Gr wr u → u.cell? ⟨b2, o2 + k, none⟩ = some (.int .i64 o) := fun u hu => by
          have := hc2 k (by omega)
          rw [hqo] at this
          exact (HG.out.trans hu).cell this
        obtain ⟨V, hV⟩ : ∃ V, mat L i o = V := ⟨_, rfl⟩
        have HMB := Lib.hid (show matB L P Q k = V by rw [matB, hpi, hqo]; exact hV)
        have HV := Lib.hid hV
        have HRR := Lib.hid (HR2.out.kept HG.out)
        clear hV hpi hqo hc1 hc2
        go_upto_region 7 with (fail)
        refine Sched.wp_region_sched 11 [] [] (by kernel_rfl) (by kernel_rfl) ?_
        simp only [List.take_succ_cons, List.take_zero, List.drop_succ_cons, List.drop_zero]
        repeat (first | (refine Sched.walk1_no rfl rfl (fun K hK => ?_); simp only [Act.put, List.setIfInBounds_toArray, List.set_cons_zero, List.set_cons_succ]; refine hK _ ?_; clear hK K) | (refine Sched.walk1_gr rfl rfl rfl (fun K hK => ?_); apply Exists.intro; refine ⟨fun w1 hw1 => ?_, ?_⟩; (focus (go_simp; (try go_ints); (try (simp only [IntWalk.iteOmega]; go_simp)); first | done | (go_at_call 17; (with_reducible exact matches_is HV.out _ (rdl_gr HRR.out hw1) hi ho)) | (with_reducible rfl) | (with_reducible exact ⟨rfl, rfl⟩))); simp only [Act.put, List.setIfInBounds_toArray, List.set_cons_zero, List.set_cons_succ]; refine hK _ ?_; clear hK K) | (refine Sched.walk1_pure rfl rfl rfl (fun K hK => ?_); apply Exists.intro; refine ⟨fun w1 => ?_, ?_⟩; (focus (go_simp; (try go_ints); (try (simp only [IntWalk.iteOmega]; go_simp)); first | done | (with_reducible rfl) | (with_reducible exact ⟨rfl, rfl⟩))); simp only [Act.put, List.setIfInBounds_toArray, List.set_cons_zero, List.set_cons_succ]; refine hK _ ?_; clear hK K) | (refine Sched.walk1_box rfl rfl ?_; apply Exists.intro; refine ⟨fun w1 hw1 => ?_, ?_⟩; (focus (go_simp; exact ⟨Gr.alloc _ _, rfl, by simp, heap_alloc_new _ _⟩))))
        refine Sched.walk1_nil ?_
        intro wq hwq
        dsimp only [Sched.EndN, List.nil_append, List.cons_append, Act.put]
        (try simp only [List.setIfInBounds_toArray, List.set_cons_zero, List.set_cons_succ])
        repeat (first | (refine Sched.walk2_no rfl (fun K hK => ?_); simp only [Act.put, List.setIfInBounds_toArray, List.set_cons_zero, List.set_cons_succ]; refine hK _ ?_; clear hK K) | (refine Sched.walk2_go rfl (fun K hK => ?_); go_simp; (try go_ints); (try (simp only [IntWalk.iteOmega]; go_simp)); first | (refine hK _ _ ?_; clear hK K) | fail))
        refine Sched.walk2_nil ?_
        have HQG := Lib.hid (HG.out.trans hwq)
        clear cp1 cq1 hwq
        cases V
        · go_wp2_with fail
          go_ret
          exact ⟨ret_bool (ordB_no (by rw [HQL.out]; omega) HMB.out).symm, HG2.out.trans HQG.out⟩
        · go_wp2_with fail
          go_roundw
          case rel => exact ⟨k + 1, by omega, by go_num, fun j hj => by
            by_cases hjk : j < k
            · exact HALL.out j hjk
            · obtain rfl : j = k := by omega
              exact HMB.out, HQG.out⟩
          case measure => (simp [intOf] <;> omega)
      · obtain rfl : k = nq := by omega
        go_wp2_with fail
        go_ret
        exact ⟨ret_bool (ordB_yes (by rw [HQL.out, HPL.out]; omega) (fun j hj => HALL.out j (by rw [← HQL.out]; exact hj))).symm, HG2.out.trans HG.out⟩
def amoS (L : List Rec) (Q : List Int) (k : Nat) (i : Int) : Nat := if k < Q.length ∧ mat L i (Q[k]?.getD 0) = true then k + 1 else k
def amo (L : List Rec) (Q : List Int) : Nat → List Int → Nat
  | k, [] => k
  | k, i :: P => amo L Q (amoS L Q k i) P
theorem amo_snoc (L : List Rec) (Q : List Int) : ∀ (P : List Int) (k : Nat) (i : Int), amo L Q k (P ++ [i]) = amoS L Q (amo L Q k P) i
  | [], _, _ => rfl
  | x :: P, k, i => amo_snoc L Q P (amoS L Q k x) i
theorem take_snocI {P : List Int} {k : Nat} {x : Int} (h : P[k]? = some x) : P.take (k + 1) = P.take k ++ [x] := by
  rw [List.take_add_one, h]; simp
theorem amoS_le (L : List Rec) (Q : List Int) (k : Nat) (i : Int) (h : k ≤ Q.length) : amoS L Q k i ≤ Q.length := by unfold amoS; split <;> omega
set_option maxRecDepth 100000 in
set_option maxHeartbeats 1000000 in
theorem among_any (a : Option Addr) (len cap : Nat) (L : List Rec) (t b d : Int) (w : World) (hr : RdL w a len L) :
    Calls Try.prog 10 #[.slice a len cap, .int .i64 t, .int .i64 b, .int .i64 d] w fun e w' => e = .returned (.bool (decide (amo L (idxF (sel 2 t b d) 0 L) 0 (idxF (sel 1 t b d) 0 L) = (idxF (sel 2 t b d) 0 L).length))) ∧ Gr w w' := by
  have HR := Lib.hid hr
  have hm := hr.2.1
  obtain ⟨P, hP⟩ : ∃ P, idxF (sel 1 t b d) 0 L = P := ⟨_, rfl⟩
  obtain ⟨Q, hQ⟩ : ∃ Q, idxF (sel 2 t b d) 0 L = Q := ⟨_, rfl⟩
  rw [hP, hQ]
  have HPE := Lib.hid hP
  have HQE := Lib.hid hQ
  clear hr hP hQ
  go_enter Try.func10, Try.ntmps10
  go_wp2_with fail
  refine (flow_any a len cap L 1 t b d w HR.out).mono ?_
  rintro e w1 ⟨p, np, cp, rfl, hnp, hop, hg1⟩
  have HP1 := Lib.hid hop.rd
  have HG1 := Lib.hid hg1
  clear hop hg1
  go_wp2_with fail
  refine (flow_any a len cap L 2 t b d w1 (HR.out.kept HG1.out)).mono ?_
  rintro e w2 ⟨q, nq, cq, rfl, hnq, hoq, hg2⟩
  have hP := HPE.out
  have hQ := HQE.out
  have hin1 := idxF_inL (sel 1 t b d) L
  have hin2 := idxF_inL (sel 2 t b d) L
  have hp1 := HP1.out
  have hq1 := hoq.rd
  rw [hP] at hp1 hin1
  rw [hQ] at hin2 hq1
  rw [HR.out.1] at hin1 hin2 hnp hnq
  have HP2 := Lib.hid (hp1.kept hg2)
  have HQ2 := Lib.hid hq1
  have HI1 := Lib.hid hin1
  have HI2 := Lib.hid hin2
  have HR2 := Lib.hid (HR.out.kept (HG1.out.trans hg2))
  have HG2 := Lib.hid (HG1.out.trans hg2)
  have HPL := Lib.hid hp1.1
  have HQL := Lib.hid hq1.1
  clear hP hQ hin1 hin2 hp1 hq1 hoq hg2 HP1 HG1
  go_wp2_with fail
  go_loopw [11, 26] (fun s i wr => ∃ j k : Nat, j ≤ np ∧ k ≤ nq ∧ s = .int .i64 k ∧ i = .int .i64 j ∧ amo L Q 0 (P.take j) = k ∧ Gr w2 wr) (fun _ i _ => np - (intOf i).toNat)
  case atStart => exact ⟨0, 0, by omega, by omega, rfl, rfl, rfl, Gr.refl _⟩
  case round =>
    obtain ⟨j, k, hj, hk, rfl, rfl, hamo, hg⟩ := hrel
    have HA := Lib.hid hamo
    have HG := Lib.hid hg
    clear hamo hg
    by_cases hlt : j < np
    · obtain ⟨i, hi, hpi⟩ := inL_at HI1.out (k := j) (by rw [HPL.out]; omega)
      obtain ⟨b1, o1, eb1, -, hc1⟩ := HP2.out.some (by omega)
      subst eb1
      have cp1 : wr.cell? ⟨b1, o1 + j, none⟩ = some (.int .i64 i) := by
        have := hc1 j (by omega)
        rw [hpi] at this
        exact HG.out.cell this
      have hsn := amo_snoc L Q (P.take j) 0 i
      rw [← take_snocI hpi, HA.out] at hsn
      have HSN := Lib.hid hsn
      clear hc1 hpi hsn
      by_cases hkq : k < nq
      · obtain ⟨o, ho, hqo⟩ := inL_at HI2.out (k := k) (by rw [HQL.out]; omega)
        obtain ⟨b2, o2, eb2, -, hc2⟩ := HQ2.out.some (by omega)
        subst eb2
        have cq1 : wr.cell? ⟨b2, o2 + k, none⟩ = some (.int .i64 o) := by
          have := hc2 k (by omega)
          rw [hqo] at this
          exact HG.out.cell this
        obtain ⟨V, hV⟩ : ∃ V, mat L i o = V := ⟨_, rfl⟩
        have HST := Lib.hid (show amoS L Q k i = if V = true then k + 1 else k by
          unfold amoS
          rw [hqo, Option.getD_some, hV, HQL.out]
          simp [hkq])
        have HV := Lib.hid hV
        have HRR := Lib.hid (HR2.out.kept HG.out)
        clear hV hqo hc2
        go_wp2_with fail
        refine (matches_is HV.out wr HRR.out hi ho).mono ?_
        rintro e w3 ⟨rfl, hg3⟩
        have HG3 := Lib.hid (HG.out.trans hg3)
        clear hg3 cp1 cq1
        cases V
        · go_wp2_with fail
          go_roundw
          case rel => exact ⟨j + 1, k, by omega, by omega, rfl, by go_num, by rw [HSN.out, HST.out]; rfl, HG3.out⟩
          case measure => (simp [intOf] <;> omega)
        · go_wp2_with fail
          go_roundw
          case rel => exact ⟨j + 1, k + 1, by omega, by omega, by go_num, by go_num, by rw [HSN.out, HST.out]; rfl, HG3.out⟩
          case measure => (simp [intOf] <;> omega)
      · have HST := Lib.hid (show amoS L Q k i = k by
          unfold amoS
          rw [HQL.out, if_neg (fun h => hkq h.1)])
        go_wp2_with fail
        go_roundw
        case rel => exact ⟨j + 1, k, by omega, by omega, rfl, by go_num, by rw [HSN.out, HST.out], HG.out⟩
        case measure => (simp [intOf] <;> omega)
    · obtain rfl : j = np := by omega
      have ha := HA.out
      rw [List.take_of_length_le (by rw [HPL.out]; omega)] at ha
      have HA2 := Lib.hid ha
      clear ha
      go_wp2_with fail
      go_ret
      exact ⟨ret_bool (by rw [HA2.out, HQL.out, Bool.eq_iff_iff]; simp; omega), HG2.out.trans HG.out⟩
end Go.Proofs.Ytgackcjhiplplaa
