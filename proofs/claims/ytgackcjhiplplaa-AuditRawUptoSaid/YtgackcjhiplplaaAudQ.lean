/- Layer 44 (audit): the reference: Delay. -/
import Derived.Test.YtgackcjhiplplaaAudP
namespace Go.Proofs.Ytgackcjhiplplaa
open Go.ChangeShapes Go.WideShapes Go.ChangeAt Go.RowKit

theorem rorder_is {a : Option Addr} {len cap : Nat} {L : List Rec} {t b d : Int} {V : Bool} (hv : ordB L (idxF (sel 1 t b d) 0 L) (idxF (sel 2 t b d) 0 L) = V) (w : World) (hr : RdL w a len L) :
    Calls Try.prog 25 #[.slice a len cap, .int .i64 t, .int .i64 b, .int .i64 d] w fun e w' => e = .returned (.bool V) ∧ Gr w w' := hv ▸ rorder_any a len cap L t b d w hr
def RDlRel (w : World) (len : Nat) (L : List Rec) (f g : Rec → Bool) (s k m o i : Value) (wr : World) : Prop :=
  ∃ (a' : Option Addr) (c' j : Nat), j ≤ len ∧ s = .slice a' (pc f L j) c' ∧ k = .int .i64 (pc g L j) ∧ m = .int .i64 (dl L (idxF f 0 L) (idxF g 0 L) (pc g L j)) ∧ o = .bool (decide (0 < pc g L j)) ∧ i = .int .i64 j ∧
    OwnI w.heap.size 3 .i64 wr a' (pc f L j) c' ((idxF f 0 (L.take j)).map (tkAt L)) ∧ Gr w wr
theorem tk_step {f : Rec → Bool} {L : List Rec} {j : Nat} {r : Rec} (h : L[j]? = some r) : (idxF f 0 (L.take (j + 1))).map (tkAt L) = (idxF f 0 (L.take j)).map (tkAt L) ++ (if f r then [r.tick] else []) := by
  rw [idxF_take h, List.map_append]
  split
  · rw [List.map_cons, List.map_nil, tk_at h]
  · simp
/-- In order, an output has an input at its place. -/
theorem ord_in {f g : Rec → Bool} {L : List Rec} {j : Nat} {r : Rec} (hv : ordB L (idxF f 0 L) (idxF g 0 L) = true) (h : L[j]? = some r) (hg : g r = true) : pc g L j < pc f L j := by
  have hq := at_pos h hg
  have hlt := pc_lt h hg
  obtain ⟨hl, ha⟩ := ordB_parts hv
  have hm := mat_parts (ha _ hlt)
  have hp : (idxF f 0 L)[pc g L j]? = some (idxF f 0 L)[pc g L j] := List.getElem?_eq_getElem (by omega)
  have h1 := hm.1
  rw [hq, Option.getD_some, hp, Option.getD_some] at h1
  exact lt_pos hp h1 (Nat.le_of_lt (lt_of_some h))
theorem ticks_of {L : List Rec} (ht : Ticks L) (j : Int) : -2199023255552 ≤ tkAt L j ∧ tkAt L j ≤ 2199023255552 := by
  unfold tkAt
  split
  · rename_i r hr; exact ht r (List.mem_of_getElem? hr)
  · omega
set_option maxRecDepth 100000 in
set_option maxHeartbeats 1000000 in
theorem rdelay_any (a : Option Addr) (len cap : Nat) (L : List Rec) (t b d : Int) (w : World) (hr : RdL w a len L) (ht : Ticks L) :
    Calls Try.prog 19 #[.slice a len cap, .int .i64 t, .int .i64 b, .int .i64 d] w fun e w' => e = .returned (.tuple #[.int .i64 (delF L (idxF (sel 1 t b d) 0 L) (idxF (sel 2 t b d) 0 L)).1, .bool (delF L (idxF (sel 1 t b d) 0 L) (idxF (sel 2 t b d) 0 L)).2]) ∧ Gr w w' := by
  have HR := Lib.hid hr
  have HL := Lib.hid hr.1
  have HT := Lib.hid ht
  have hm := hr.2.1
  have HEX := Lib.hid (fun r (h : sel 1 t b d r = true) => sel_not h)
  obtain ⟨V, hV⟩ : ∃ V, ordB L (idxF (sel 1 t b d) 0 L) (idxF (sel 2 t b d) 0 L) = V := ⟨_, rfl⟩
  have HV2 := Lib.hid hV
  obtain ⟨f, hf⟩ : ∃ f, sel 1 t b d = f := ⟨_, rfl⟩
  obtain ⟨g, hg⟩ : ∃ g, sel 2 t b d = g := ⟨_, rfl⟩
  have hex := HEX.out
  rw [hf, hg] at hex hV
  rw [hf, hg]
  have HF := Lib.hid hf
  have HGS := Lib.hid hg
  have HX := Lib.hid hex
  have HV := Lib.hid hV
  have HDR := Lib.hid (dl_rng (L := L) (P := idxF f 0 L) (Q := idxF g 0 L) (fun k => by have := ticks_of ht ((idxF g 0 L)[k]?.getD 0); have := ticks_of ht ((idxF f 0 L)[k]?.getD 0); unfold tkd; omega))
  clear hr hf hg hex HEX ht hV
  go_enter Try.func19, Try.ntmps19
  go_wp2_with fail
  refine (rorder_is HV2.out w HR.out).mono ?_
  rintro e w0 ⟨rfl, hg0⟩
  have HG0 := Lib.hid hg0
  have HR0 := Lib.hid (HR.out.kept hg0)
  clear hg0
  cases V
  · go_wp2_with fail
    go_ret2
    exact ⟨by rw [delF, HV.out]; rfl, HG0.out⟩
  · go_wp2_with fail
    go_loopw [10, 11, 12, 13, 14] (fun s k m o i wr => RDlRel w0 len L f g s k m o i wr) (fun _ _ _ _ i _ => len - (intOf i).toNat)
    case atStart => exact ⟨none, 0, 0, by omega, by rw [pc_zero], by rw [pc_zero]; rfl, by rw [pc_zero]; rfl, by rw [pc_zero]; rfl, rfl, by rw [pc_zero]; exact OwnI.nil _ _ _ _, Gr.refl _⟩
    case round =>
      obtain ⟨a', c', j, hj, rfl, rfl, rfl, rfl, rfl, ho, hg⟩ := hrel
      have HG := Lib.hid hg
      have HO := Lib.hid ho
      clear hg ho
      by_cases hlt : j < len
      · obtain ⟨r, hri, hrr⟩ := HR0.out.get hlt
        obtain ⟨b0, off, ea, hrg⟩ := (HR0.out.kept HG.out).some (by omega)
        subst ea
        have HRNG := Lib.hid (hrg j r hri)
        have HPS := Lib.hid (pc_step (f := f) hri)
        have HQS := Lib.hid (pc_step (f := g) hri)
        have HTK := Lib.hid (tk_step (f := f) hri)
        have HRI := Lib.hid hri
        have hple := pc_len f L j
        have HWT := Lib.hid (HT.out r (List.mem_of_getElem? hri))
        obtain ⟨p, hp⟩ : ∃ p, pc f L j = p := ⟨_, rfl⟩
        obtain ⟨k, hk⟩ : ∃ k, pc g L j = k := ⟨_, rfl⟩
        have ho := HO.out
        rw [hp] at ho hple
        rw [hp, hk]
        have HP := Lib.hid hp
        have HK := Lib.hid hk
        have HO1 := Lib.hid ho
        obtain ⟨D, hD⟩ : ∃ D, dl L (idxF f 0 L) (idxF g 0 L) k = D := ⟨_, rfl⟩
        have hd := HDR.out k
        rw [hD] at hd
        obtain ⟨d1, d2⟩ := hd
        rw [hD]
        have HD := Lib.hid hD
        obtain ⟨S0, hS0⟩ : ∃ S0, decide (0 < k) = S0 := ⟨_, rfl⟩
        rw [hS0]
        have HS0 := Lib.hid hS0
        clear hri hrg hrr hp hk ho HO hD hS0
        go_wp2_with (refine wpList_load_mid rfl 27 _ rfl b0 (off + j * 7) rfl (RCells r) _ HRNG.out Try.underlying27 rfl (by kernel_rfl) ?_)
        refine (ris_any r 1 t b d wr).mono ?_
        rw [HF.out]
        rintro e w2 ⟨rfl, hg2⟩
        have HG2 := Lib.hid (HG.out.trans hg2)
        have HO2 := Lib.hid (HO1.out.stay hg2)
        have HRNG2 := Lib.hid (show w2.rangeAt b0 (off + j * 7) (RCells r) from fun i v hv => hg2.cell (HRNG.out i v hv))
        clear hg2 HG HO1 HRNG
        rcases Bool.eq_false_or_eq_true (f r) with hB | hB
        · have hG : g r = false := HX.out r hB
          rw [hB]
          have hps := HPS.out
          have hqs := HQS.out
          have htk := HTK.out
          rw [hB, HP.out] at hps
          rw [hG, HK.out] at hqs
          rw [hB] at htk
          simp only [if_true] at hps htk
          simp only [Bool.false_eq_true, if_false, Nat.add_zero] at hqs
          have c0 : w2.cell? ⟨b0, off + j * 7, none⟩ = some (.int .i64 r.tick) := HRNG2.out 0 _ rfl
          have hwt := HWT.out
          have hrd := rd_new (k := .i64) (w := w2) [r.tick] 3 (0, 0) 1 rfl (by simp [maxLen]) (by intro z hz; simp only [List.mem_singleton] at hz; subst hz; exact WalkArith.wf_i64 ⟨by omega, by omega⟩)
          obtain ⟨a5, c5, w5, hrun5, ho5, hg5, _⟩ := app_i64 w0.heap.size (w2.alloc (.cells ([r.tick].map (Value.int .i64)).toArray 3)) a' p c' _ (HO2.out.stay (Gr.alloc _ _)) (some ⟨w2.heap.size, 0, none⟩) 1 1 _ hrd (by omega) (Nat.le_trans HG2.out.size (by simp))
          rw [← htk] at ho5
          simp only [List.map_cons, List.map_nil] at hrun5
          have hgg := grown_own (HG2.out.trans (Gr.alloc _ _)) (HO2.out.stay (Gr.alloc _ _)) (Nat.le_refl _) hg5
          have HRUN := Lib.hid hrun5
          have HO6 := Lib.hid ho5
          have HG6 := Lib.hid hgg
          have HRNG6 := Lib.hid (show w5.rangeAt b0 (off + j * 7) (RCells r) from by
            obtain ⟨b0', off', ea', hrg'⟩ := (HR0.out.kept hgg).some (by omega)
            injection ea' with ea'
            injection ea' with e1 e2
            subst e1 e2
            exact hrg' j r HRI.out)
          have HPS2 := Lib.hid hps
          have HQS2 := Lib.hid hqs
          have HGF := Lib.hid hG
          clear hps hqs htk hrd hrun5 ho5 hg5 hgg hB hG hwt
          go_upto_region 10 with (at_builtin; refine wpList_app rfl _ _ _ rfl rfl rfl HRUN.out ?_)
          clear c0
          go_wp2_with (refine wpList_load_mid rfl 27 _ rfl b0 (off + j * 7) rfl (RCells r) _ HRNG6.out Try.underlying27 rfl (by kernel_rfl) ?_)
          refine (ris_any r 2 t b d w5).mono ?_
          rw [HGS.out, HGF.out]
          rintro e w7 ⟨rfl, hg7⟩
          have HG7 := Lib.hid (HG6.out.trans hg7)
          have HO7 := Lib.hid (HO6.out.stay hg7)
          clear hg7
          go_wp2_with fail
          go_roundw
          case rel =>
            exact ⟨a5, c5, j + 1, by omega, by rw [HPS2.out], by rw [HQS2.out], by rw [HQS2.out, HD.out], by rw [HQS2.out, HS0.out], by go_num, by rw [HPS2.out]; exact HO7.out, HG7.out⟩
          case measure => (simp [intOf] <;> omega)
        · rw [hB]
          have hps := HPS.out
          have htk := HTK.out
          rw [hB, HP.out] at hps
          rw [hB] at htk
          simp only [Bool.false_eq_true, if_false, Nat.add_zero, List.append_nil] at hps htk
          have HPS2 := Lib.hid hps
          have HTK2 := Lib.hid htk
          clear hps htk hB
          go_upto_region 10 with (fail)
          go_wp2_with (refine wpList_load_mid rfl 27 _ rfl b0 (off + j * 7) rfl (RCells r) _ HRNG2.out Try.underlying27 rfl (by kernel_rfl) ?_)
          refine (ris_any r 2 t b d w2).mono ?_
          rw [HGS.out]
          rintro e w7 ⟨rfl, hg7⟩
          have HG7 := Lib.hid (HG2.out.trans hg7)
          have HO7 := Lib.hid (HO2.out.stay hg7)
          have c0 : w7.cell? ⟨b0, off + j * 7, none⟩ = some (.int .i64 r.tick) := hg7.cell (HRNG2.out 0 _ rfl)
          clear hg7 HG2 HO2 HRNG2
          rcases Bool.eq_false_or_eq_true (g r) with hB | hB
          rotate_left
          · rw [hB]
            have hqs := HQS.out
            rw [hB, HK.out] at hqs
            simp only [Bool.false_eq_true, if_false, Nat.add_zero] at hqs
            have HQS2 := Lib.hid hqs
            clear hB hqs c0
            go_wp2_with fail
            go_roundw
            case rel =>
              exact ⟨a', c', j + 1, by omega, by rw [HPS2.out], by rw [HQS2.out], by rw [HQS2.out, HD.out], by rw [HQS2.out, HS0.out], by go_num, by rw [HPS2.out, HTK2.out]; exact HO7.out, HG7.out⟩
            case measure => (simp [intOf] <;> omega)
          · rw [hB]
            have hqs := HQS.out
            rw [hB, HK.out] at hqs
            simp only [if_true] at hqs
            have HQS2 := Lib.hid hqs
            have hkk := ord_in HV.out HRI.out hB
            rw [HP.out, HK.out] at hkk
            have hqa := at_pos HRI.out hB
            rw [HK.out] at hqa
            obtain ⟨y, hyj, hyl, hp1, hp2⟩ := pos_lt (f := f) (L := L) (i := j) (k := k) (by rw [HL.out]; omega) (by rw [HP.out]; exact hkk)
            obtain ⟨q, hqi, -⟩ := HR0.out.get (i := y) (by rw [← HL.out]; exact hyl)
            obtain ⟨g0, o0, eq, -, hcq⟩ := HO7.out.rd.some (by omega)
            subst eq
            have ck : w7.cell? ⟨g0, o0 + k, none⟩ = some (.int .i64 q.tick) := by
              have := hcq k (by omega)
              rw [List.getElem?_map, hp2, Option.map_some, tk_at hqi, Option.getD_some] at this
              exact this
            have htd : tkd L (idxF f 0 L) (idxF g 0 L) k = r.tick - q.tick := by rw [tkd, hqa, hp1, Option.getD_some, Option.getD_some, tk_at HRI.out, tk_at hqi]
            have HNX := Lib.hid (show dl L (idxF f 0 L) (idxF g 0 L) (k + 1) = if k = 0 ∨ D < r.tick - q.tick then r.tick - q.tick else D by rw [dl, HD.out, htd])
            have hq1 := HT.out q (List.mem_of_getElem? hqi)
            have hr1 := HWT.out
            obtain ⟨q1, q2⟩ := hq1
            obtain ⟨r1, r2⟩ := hr1
            have ckg : ∀ u, Gr w7 u → u.cell? ⟨g0, o0 + k, none⟩ = some (.int .i64 q.tick) := fun u hu => hu.cell ck
            have c0g : ∀ u, Gr w7 u → u.cell? ⟨b0, off + j * 7, none⟩ = some (.int .i64 r.tick) := fun u hu => hu.cell c0
            clear hyj hyl hp1 hp2 hqi hcq ck c0 hqa htd hqs hB
            go_upto_region 11 with (fail)
            refine Sched.wp_region_sched 10 [] [] (by kernel_rfl) (by kernel_rfl) ?_
            simp only [List.take_succ_cons, List.take_zero, List.drop_succ_cons, List.drop_zero]
            repeat (first | (refine Sched.walk1_no rfl rfl (fun K hK => ?_); simp only [Act.put, List.setIfInBounds_toArray, List.set_cons_zero, List.set_cons_succ]; refine hK _ ?_; clear hK K) | (refine Sched.walk1_gr rfl rfl rfl (fun K hK => ?_); apply Exists.intro; refine ⟨fun w1 hw1 => ?_, ?_⟩; (focus (go_simp; (try go_ints); (try (simp only [IntWalk.iteOmega]; go_simp)); first | done | fail | (with_reducible rfl) | (with_reducible exact ⟨rfl, rfl⟩))); simp only [Act.put, List.setIfInBounds_toArray, List.set_cons_zero, List.set_cons_succ]; refine hK _ ?_; clear hK K) | (refine Sched.walk1_pure rfl rfl rfl (fun K hK => ?_); apply Exists.intro; refine ⟨fun w1 => ?_, ?_⟩; (focus (go_simp; (try go_ints); (try (simp only [IntWalk.iteOmega]; go_simp)); first | done | (with_reducible rfl) | (with_reducible exact ⟨rfl, rfl⟩))); simp only [Act.put, List.setIfInBounds_toArray, List.set_cons_zero, List.set_cons_succ]; refine hK _ ?_; clear hK K) | (refine Sched.walk1_box rfl rfl ?_; apply Exists.intro; refine ⟨fun w1 hw1 => ?_, ?_⟩; (focus (go_simp; exact ⟨Gr.alloc _ _, rfl, by simp, heap_alloc_new _ _⟩))))
            refine Sched.walk1_nil ?_
            intro wq hwq
            dsimp only [Sched.EndN, List.nil_append, List.cons_append, Act.put]
            (try simp only [List.setIfInBounds_toArray, List.set_cons_zero, List.set_cons_succ])
            repeat (first | (refine Sched.walk2_no rfl (fun K hK => ?_); simp only [Act.put, List.setIfInBounds_toArray, List.set_cons_zero, List.set_cons_succ]; refine hK _ ?_; clear hK K) | (refine Sched.walk2_go rfl (fun K hK => ?_); go_simp; (try go_ints); (try (simp only [IntWalk.iteOmega]; go_simp)); first | (refine hK _ _ ?_; clear hK K) | fail))
            refine Sched.walk2_nil ?_
            have HGq := Lib.hid (HG7.out.trans hwq)
            have HOq := Lib.hid (HO7.out.stay hwq)
            clear ckg c0g hwq
            have HS1 := Lib.hid (show decide (0 < k + 1) = true from decide_eq_true (by omega))
            by_cases h0 : k = 0
            · obtain rfl : S0 = false := by rw [← HS0.out]; exact decide_eq_false (by omega)
              go_wp2_with fail
              go_roundw
              case rel =>
                exact ⟨_, c', j + 1, by omega, by rw [HPS2.out], by rw [HQS2.out]; go_num, by rw [HQS2.out, HNX.out, if_pos (.inl h0)], by rw [HQS2.out, HS1.out], by go_num, by rw [HPS2.out, HTK2.out]; exact HOq.out, HGq.out⟩
              case measure => (simp [intOf] <;> omega)
            · obtain rfl : S0 = true := by rw [← HS0.out]; exact decide_eq_true (by omega)
              by_cases hgt : D < r.tick - q.tick
              · go_wp2_with fail
                go_roundw
                case rel =>
                  exact ⟨_, c', j + 1, by omega, by rw [HPS2.out], by rw [HQS2.out]; go_num, by rw [HQS2.out, HNX.out, if_pos (.inr hgt)], by rw [HQS2.out, HS1.out], by go_num, by rw [HPS2.out, HTK2.out]; exact HOq.out, HGq.out⟩
                case measure => (simp [intOf] <;> omega)
              · go_wp2_with fail
                go_roundw
                case rel =>
                  exact ⟨_, c', j + 1, by omega, by rw [HPS2.out], by rw [HQS2.out]; go_num, by rw [HQS2.out, HNX.out, if_neg (by omega)], by rw [HQS2.out, HS1.out], by go_num, by rw [HPS2.out, HTK2.out]; exact HOq.out, HGq.out⟩
                case measure => (simp [intOf] <;> omega)
      · obtain rfl : j = len := by omega
        have hpq : pc g L j = (idxF g 0 L).length := by rw [← HL.out, pc_all]
        have HPQ := Lib.hid hpq
        rw [hpq]
        obtain ⟨D, hD⟩ : ∃ D, dl L (idxF f 0 L) (idxF g 0 L) (idxF g 0 L).length = D := ⟨_, rfl⟩
        rw [hD]
        have HD := Lib.hid hD
        obtain ⟨pp, hpp⟩ : ∃ pp, pc f L j = pp := ⟨_, rfl⟩
        rw [hpp]
        clear hD hpq hpp HO
        go_wp2_with fail
        go_ret2
        refine ⟨?_, HG0.out.trans HG.out⟩
        rw [delF, HV.out, if_pos rfl, HD.out]
        rfl
end Go.Proofs.Ytgackcjhiplplaa
