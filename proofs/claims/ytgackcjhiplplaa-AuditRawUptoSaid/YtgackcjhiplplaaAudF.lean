/- Layer 44 (audit): Delay, SameAll, Begins. -/
import Derived.Test.YtgackcjhiplplaaAudE
namespace Go.Proofs.Ytgackcjhiplplaa
open Go.ChangeShapes Go.WideShapes Go.ChangeAt Go.RowKit

def tkAt (L : List Rec) (j : Int) : Int := match L[j.toNat]? with | some r => r.tick | none => 0
theorem tk_at {L : List Rec} {k : Nat} {r : Rec} (h : L[k]? = some r) : tkAt L (k : Int) = r.tick := by simp [tkAt, h]
def tkd (L : List Rec) (P Q : List Int) (k : Nat) : Int := tkAt L (Q[k]?.getD 0) - tkAt L (P[k]?.getD 0)
def dl (L : List Rec) (P Q : List Int) : Nat → Int
  | 0 => 0
  | k + 1 => if k = 0 ∨ dl L P Q k < tkd L P Q k then tkd L P Q k else dl L P Q k
def Ticks (L : List Rec) : Prop := ∀ r ∈ L, -2199023255552 ≤ r.tick ∧ r.tick ≤ 2199023255552
theorem inorder_is {a : Option Addr} {len cap : Nat} {L : List Rec} {t b d : Int} {V : Bool} (hv : ordB L (idxF (sel 1 t b d) 0 L) (idxF (sel 2 t b d) 0 L) = V) (w : World) (hr : RdL w a len L) :
    Calls Try.prog 9 #[.slice a len cap, .int .i64 t, .int .i64 b, .int .i64 d] w fun e w' => e = .returned (.bool V) ∧ Gr w w' := hv ▸ inorder_any a len cap L t b d w hr
theorem among_is {a : Option Addr} {len cap : Nat} {L : List Rec} {t b d : Int} {V : Bool} (hv : decide (amo L (idxF (sel 2 t b d) 0 L) 0 (idxF (sel 1 t b d) 0 L) = (idxF (sel 2 t b d) 0 L).length) = V) (w : World) (hr : RdL w a len L) :
    Calls Try.prog 10 #[.slice a len cap, .int .i64 t, .int .i64 b, .int .i64 d] w fun e w' => e = .returned (.bool V) ∧ Gr w w' := hv ▸ among_any a len cap L t b d w hr
def delF (L : List Rec) (P Q : List Int) : Int × Bool := if ordB L P Q then (dl L P Q Q.length, true) else (0, false)
theorem dl_rng {L : List Rec} {P Q : List Int} (h : ∀ k, -4398046511104 ≤ tkd L P Q k ∧ tkd L P Q k ≤ 4398046511104) : ∀ k, -4398046511104 ≤ dl L P Q k ∧ dl L P Q k ≤ 4398046511104
  | 0 => by simp [dl]
  | k + 1 => by
    have ih := dl_rng h k
    have := h k
    unfold dl; split <;> omega
set_option maxRecDepth 100000 in
set_option maxHeartbeats 1000000 in
theorem delay_any (a : Option Addr) (len cap : Nat) (L : List Rec) (t b d : Int) (w : World) (hr : RdL w a len L) (ht : Ticks L) :
    Calls Try.prog 14 #[.slice a len cap, .int .i64 t, .int .i64 b, .int .i64 d] w fun e w' => e = .returned (.tuple #[.int .i64 (delF L (idxF (sel 1 t b d) 0 L) (idxF (sel 2 t b d) 0 L)).1, .bool (delF L (idxF (sel 1 t b d) 0 L) (idxF (sel 2 t b d) 0 L)).2]) ∧ Gr w w' := by
  have HR := Lib.hid hr
  have HT := Lib.hid ht
  have hm := hr.2.1
  obtain ⟨P, hP⟩ : ∃ P, idxF (sel 1 t b d) 0 L = P := ⟨_, rfl⟩
  obtain ⟨Q, hQ⟩ : ∃ Q, idxF (sel 2 t b d) 0 L = Q := ⟨_, rfl⟩
  rw [hP, hQ]
  have HPE := Lib.hid hP
  have HQE := Lib.hid hQ
  obtain ⟨V, hV⟩ : ∃ V, ordB L P Q = V := ⟨_, rfl⟩
  have HV := Lib.hid hV
  have HV2 := Lib.hid (show ordB L (idxF (sel 1 t b d) 0 L) (idxF (sel 2 t b d) 0 L) = V by rw [hP, hQ, hV])
  have htr : ∀ j : Int, -2199023255552 ≤ tkAt L j ∧ tkAt L j ≤ 2199023255552 := fun j => by
    unfold tkAt
    split
    · rename_i r hr; exact ht r (List.mem_of_getElem? hr)
    · omega
  have hdr := dl_rng (L := L) (P := P) (Q := Q) (fun k => by have := htr (Q[k]?.getD 0); have := htr (P[k]?.getD 0); unfold tkd; omega)
  have HTR := Lib.hid htr
  have HDR := Lib.hid hdr
  clear hr ht hP hQ hV htr hdr
  go_enter Try.func14, Try.ntmps14
  go_wp2_with fail
  refine (inorder_is HV2.out w HR.out).mono ?_
  rintro e w0 ⟨rfl, hg0⟩
  have HG0 := Lib.hid hg0
  clear hg0
  cases V
  · go_wp2_with fail
    go_ret2
    exact ⟨by rw [delF, HV.out]; rfl, HG0.out⟩
  · go_wp2_with fail
    refine (flow_any a len cap L 1 t b d w0 (HR.out.kept (HG0).out)).mono ?_
    rintro e w1 ⟨p, np, cp, rfl, hnp, hop, hg1⟩
    have HP1 := Lib.hid hop.rd
    have HG1 := Lib.hid ((HG0).out.trans hg1)
    clear hop hg1
    go_wp2_with fail
    refine (flow_any a len cap L 2 t b d w1 (HR.out.kept HG1.out)).mono ?_
    rintro e w2 ⟨q, nq, cq, rfl, hnq, hoq, hg2⟩
    have hP := HPE.out
    have hQ := HQE.out
    have hin1 := idxF_inL (sel 1 t b d) L
    have hin2 := idxF_inL (sel 2 t b d) L
    have hp1 := HP1.out
    have hq1 := hoq.rd
    rw [hP] at hp1 hin1
    rw [hQ] at hin2 hq1
    rw [HR.out.1] at hin1 hin2 hnp hnq
    have HP2 := Lib.hid (hp1.kept hg2)
    have HQ2 := Lib.hid hq1
    have HI1 := Lib.hid hin1
    have HI2 := Lib.hid hin2
    have HR2 := Lib.hid (HR.out.kept (HG1.out.trans hg2))
    have HG2 := Lib.hid (HG1.out.trans hg2)
    have HPL := Lib.hid hp1.1
    have HQL := Lib.hid hq1.1
    clear hP hQ hin1 hin2 hp1 hq1 hoq hg2 HP1 HG1
    have hle := (ordB_parts HV.out).1
    rw [HPL.out, HQL.out] at hle
    go_wp2_with fail
    go_loopw [12, 33] (fun s i wr => ∃ k : Nat, k ≤ nq ∧ s = .int .i64 (dl L P Q k) ∧ i = .int .i64 k ∧ Gr w2 wr) (fun _ i _ => nq - (intOf i).toNat)
    case atStart => exact ⟨0, by omega, rfl, rfl, Gr.refl _⟩
    case round =>
      obtain ⟨k, hk, rfl, rfl, hg⟩ := hrel
      have HG := Lib.hid hg
      clear hg
      by_cases hlt : k < nq
      · obtain ⟨i, hi, hpi⟩ := inL_at HI1.out (k := k) (by rw [HPL.out]; omega)
        obtain ⟨o, ho, hqo⟩ := inL_at HI2.out (k := k) (by rw [HQL.out]; omega)
        obtain ⟨b1, o1, eb1, -, hc1⟩ := HP2.out.some (by omega)
        obtain ⟨b2, o2, eb2, -, hc2⟩ := HQ2.out.some (by omega)
        subst eb1 eb2
        have cp1 : ∀ u, Gr wr u → u.cell? ⟨b1, o1 + k, none⟩ = some (.int .i64 i) := fun u hu => by
          have := hc1 k (by omega)
          rw [hpi] at this
          exact (HG.out.trans hu).cell this
        have cq1 : ∀ u, Gr wr u → u.cell? ⟨b2, o2 + k, none⟩ = some (.int .i64 o) := fun u hu => by
          have := hc2 k (by omega)
          rw [hqo] at this
          exact (HG.out.trans hu).cell this
        obtain ⟨r, hri, -⟩ := HR2.out.get hi
        obtain ⟨z, hzi, -⟩ := HR2.out.get ho
        obtain ⟨b0, off, ea, hrg⟩ := HR2.out.some (by omega)
        subst ea
        have ci : ∀ u, Gr wr u → u.cell? ⟨b0, off + i * 7, none⟩ = some (.int .i64 r.tick) := fun u hu => (HG.out.trans hu).cell (hrg i r hri 0 _ rfl)
        have co : ∀ u, Gr wr u → u.cell? ⟨b0, off + o * 7, none⟩ = some (.int .i64 z.tick) := fun u hu => (HG.out.trans hu).cell (hrg o z hzi 0 _ rfl)
        have hr1 := HT.out r (List.mem_of_getElem? hri)
        have hz1 := HT.out z (List.mem_of_getElem? hzi)
        obtain ⟨r1, r2⟩ := hr1
        obtain ⟨z1, z2⟩ := hz1
        have htd : tkd L P Q k = z.tick - r.tick := by rw [tkd, hpi, hqo, Option.getD_some, Option.getD_some, tk_at hri, tk_at hzi]
        have HTD := Lib.hid htd
        clear hpi hqo hc1 hc2 hrg hri hzi htd
        obtain ⟨D, hD⟩ : ∃ D, dl L P Q k = D := ⟨_, rfl⟩
        have hd := HDR.out k
        rw [hD] at hd
        obtain ⟨d1, d2⟩ := hd
        have HD := Lib.hid hD
        have HNX := Lib.hid (show dl L P Q (k + 1) = if k = 0 ∨ D < z.tick - r.tick then z.tick - r.tick else D by rw [dl, hD, HTD.out])
        rw [hD]
        clear hD
        go_upto_region 8 with (fail)
        refine Sched.wp_region_sched 18 [] [] (by kernel_rfl) (by kernel_rfl) ?_
        simp only [List.take_succ_cons, List.take_zero, List.drop_succ_cons, List.drop_zero]
        repeat (first | (refine Sched.walk1_no rfl rfl (fun K hK => ?_); simp only [Act.put, List.setIfInBounds_toArray, List.set_cons_zero, List.set_cons_succ]; refine hK _ ?_; clear hK K) | (refine Sched.walk1_gr rfl rfl rfl (fun K hK => ?_); apply Exists.intro; refine ⟨fun w1 hw1 => ?_, ?_⟩; (focus (go_simp; (try go_ints); (try (simp only [IntWalk.iteOmega]; go_simp)); first | done | fail | (with_reducible rfl) | (with_reducible exact ⟨rfl, rfl⟩))); simp only [Act.put, List.setIfInBounds_toArray, List.set_cons_zero, List.set_cons_succ]; refine hK _ ?_; clear hK K) | (refine Sched.walk1_pure rfl rfl rfl (fun K hK => ?_); apply Exists.intro; refine ⟨fun w1 => ?_, ?_⟩; (focus (go_simp; (try go_ints); (try (simp only [IntWalk.iteOmega]; go_simp)); first | done | (with_reducible rfl) | (with_reducible exact ⟨rfl, rfl⟩))); simp only [Act.put, List.setIfInBounds_toArray, List.set_cons_zero, List.set_cons_succ]; refine hK _ ?_; clear hK K) | (refine Sched.walk1_box rfl rfl ?_; apply Exists.intro; refine ⟨fun w1 hw1 => ?_, ?_⟩; (focus (go_simp; exact ⟨Gr.alloc _ _, rfl, by simp, heap_alloc_new _ _⟩))))
        refine Sched.walk1_nil ?_
        intro wq hwq
        dsimp only [Sched.EndN, List.nil_append, List.cons_append, Act.put]
        (try simp only [List.setIfInBounds_toArray, List.set_cons_zero, List.set_cons_succ])
        repeat (first | (refine Sched.walk2_no rfl (fun K hK => ?_); simp only [Act.put, List.setIfInBounds_toArray, List.set_cons_zero, List.set_cons_succ]; refine hK _ ?_; clear hK K) | (refine Sched.walk2_go rfl (fun K hK => ?_); go_simp; (try go_ints); (try (simp only [IntWalk.iteOmega]; go_simp)); first | (refine hK _ _ ?_; clear hK K) | fail))
        refine Sched.walk2_nil ?_
        have HQG := Lib.hid (HG.out.trans hwq)
        clear cp1 cq1 ci co hwq
        by_cases h0 : k = 0
        · have hkb : ((k : Int) == 0) = true := by simp [h0]
          go_wp2_with fail
          go_roundw
          case rel => exact ⟨k + 1, by omega, by rw [HNX.out, if_pos (.inl h0)], by go_num, HQG.out⟩
          case measure => (simp [intOf] <;> omega)
        · have hkb : ((k : Int) == 0) = false := by simp [h0]
          by_cases hgt : D < z.tick - r.tick
          · go_wp2_with fail
            go_roundw
            case rel => exact ⟨k + 1, by omega, by rw [HNX.out, if_pos (.inr hgt)], by go_num, HQG.out⟩
            case measure => (simp [intOf] <;> omega)
          · go_wp2_with fail
            go_roundw
            case rel => exact ⟨k + 1, by omega, by rw [HNX.out, if_neg (by omega)], by go_num, HQG.out⟩
            case measure => (simp [intOf] <;> omega)
      · obtain rfl : k = nq := by omega
        go_wp2_with fail
        go_ret2
        exact ⟨by rw [delF, HV.out, HQL.out]; rfl, HG2.out.trans HG.out⟩
end Go.Proofs.Ytgackcjhiplplaa
