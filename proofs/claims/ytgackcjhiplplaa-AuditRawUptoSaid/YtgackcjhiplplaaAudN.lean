/- Layer 44 (audit): the reference: Among. -/
import Derived.Test.YtgackcjhiplplaaAudM
namespace Go.Proofs.Ytgackcjhiplplaa
open Go.ChangeShapes Go.WideShapes Go.ChangeAt Go.RowKit

theorem QRow.cut {B : Nat} {w : World} {g off n cap : Nat} {vs : List Value} (h : QRow B w (some ⟨g, off, none⟩) n cap vs) (z : Nat) (hz : z ≤ n) : QRow B w (some ⟨g, off + z, none⟩) (n - z) (cap - z) (vs.drop z) := by
  obtain ⟨hl, h⟩ := h
  refine ⟨by rw [List.length_drop]; omega, ?_⟩
  rcases h with ⟨h0, _⟩ | ⟨g', off', cur, e, h2, h3, h4, h5, h6, h7⟩
  · cases h0
  · injection e with e
    injection e with e1 e2
    subst e1 e2
    exact .inr ⟨g, off + z, cur, rfl, h2, h3, by omega, by omega, by omega, fun i hi => by rw [List.getElem?_drop, Nat.add_assoc]; exact h7 (z + i) (by omega)⟩
theorem QRow.cut' {B : Nat} {w : World} {g off n cap : Nat} {vs : List Value} (h : QRow B w (some ⟨g, off, none⟩) n cap vs) (z : Nat) (hz : z ≤ n) : QRow B w (if cap = z then some ⟨g, off, none⟩ else some ⟨g, off + z, none⟩) (n - z) (cap - z) (vs.drop z) := by
  by_cases hc : cap = z
  · rw [if_pos hc]
    obtain ⟨hl, h⟩ := h
    refine ⟨by rw [List.length_drop]; omega, ?_⟩
    rcases h with ⟨h0, _⟩ | ⟨g', off', cur, e, h2, h3, h4, h5, h6, h7⟩
    · cases h0
    · exact .inr ⟨g', off', cur, e, h2, h3, by omega, by omega, by omega, fun i hi => by omega⟩
  · rw [if_neg hc]; exact h.cut z hz
theorem QRow.le_cap {B : Nat} {w : World} {a : Option Addr} {n cap : Nat} {vs : List Value} (h : QRow B w a n cap vs) : n ≤ cap := by
  rcases h.2 with ⟨_, h1, h2⟩ | ⟨g', off', cur, e, h2, h3, h4, h5, h6, h7⟩ <;> omega
theorem amo_append (L : List Rec) (Q : List Int) : ∀ (A B : List Int) (k : Nat), amo L Q k (A ++ B) = amo L Q (amo L Q k A) B
  | [], _, _ => rfl
  | x :: A, B, k => amo_append L Q A B (amoS L Q k x)
theorem amo_full (L : List Rec) (Q : List Int) : ∀ R : List Int, amo L Q Q.length R = Q.length
  | [] => rfl
  | x :: R => by
    have h : amoS L Q Q.length x = Q.length := by unfold amoS; rw [if_neg (by omega)]
    show amo L Q (amoS L Q Q.length x) R = _
    rw [h]; exact amo_full L Q R
theorem amo_stay {L : List Rec} {Q : List Int} {k : Nat} {j : Int} (hq : Q[k]?.getD 0 = j) : ∀ R : List Int, (∀ x ∈ R, ¬ x < j) → amo L Q k R = k
  | [], _ => rfl
  | x :: R, h => by
    have h1 : amoS L Q k x = k := by
      unfold amoS
      rw [hq, if_neg]
      rintro ⟨_, hm⟩
      exact h x (by simp) (mat_parts hm).1
    show amo L Q (amoS L Q k x) R = k
    rw [h1]; exact amo_stay hq R (fun y hy => h y (by simp [hy]))
theorem amo_skip {L : List Rec} {P Q : List Int} {k c : Nat} (h : amo L Q 0 (P.take c) = k) : ∀ z, c + z ≤ P.length → (∀ y x, y < z → P[c + y]? = some x → amoS L Q k x = k) → amo L Q 0 (P.take (c + z)) = k
  | 0, _, _ => h
  | z + 1, hz, hs => by
    have ih := amo_skip h z (by omega) (fun y x hy hx => hs y x (by omega) hx)
    have hx : P[c + z]? = some P[c + z] := List.getElem?_eq_getElem (by omega)
    rw [← Nat.add_assoc, take_snocI hx, amo_snoc, ih]
    exact hs z _ (by omega) hx
theorem amoS_no {L : List Rec} {Q : List Int} {k i j : Nat} {q r : Rec} (hq : Q[k]? = some (j : Int)) (hi : L[i]? = some q) (hj : L[j]? = some r) (hne : decide (q.xs = r.xs) = false) : amoS L Q k (i : Int) = k := by
  unfold amoS
  rw [hq, Option.getD_some, if_neg]
  rintro ⟨_, hm⟩
  have := (mat_parts hm).2
  rw [dat_at hi, dat_at hj] at this
  exact (of_decide_eq_false hne) this
theorem amoS_yes {L : List Rec} {Q : List Int} {k i j : Nat} {q r : Rec} (hq : Q[k]? = some (j : Int)) (hi : L[i]? = some q) (hj : L[j]? = some r) (hij : i < j) (he : decide (q.xs = r.xs) = true) : amoS L Q k (i : Int) = k + 1 := by
  unfold amoS
  rw [hq, Option.getD_some, if_pos ⟨lt_of_some hq, mat_mk (by omega) (by rw [dat_at hi, dat_at hj]; exact of_decide_eq_true he)⟩]
/-- The queue behind c that were taken. -/
theorem que_at {f : Rec → Bool} {L : List Rec} {j c z : Nat} (hj : j ≤ L.length) (h : c + z < pc f L j) : ∃ y q, y < j ∧ L[y]? = some q ∧ (idxF f 0 L)[c + z]? = some (y : Int) ∧ (((idxF f 0 (L.take j)).map (dsl L)).drop c)[z]? = some (.slice q.a q.n q.c) := by
  obtain ⟨y, h1, h2, h3, h4⟩ := pos_lt hj h
  obtain ⟨q, hq⟩ : ∃ q, L[y]? = some q := ⟨L[y], List.getElem?_eq_getElem h2⟩
  exact ⟨y, q, h1, hq, h3, by rw [List.getElem?_drop, List.getElem?_map, h4, Option.map_some, dsl_at hq]⟩
theorem among_no {f g : Rec → Bool} {L : List Rec} {j : Nat} {r : Rec} (hj : L[j]? = some r) (hg : g r = true) (h : amo L (idxF g 0 L) 0 ((idxF f 0 L).take (pc f L j)) = pc g L j) : decide (amo L (idxF g 0 L) 0 (idxF f 0 L) = (idxF g 0 L).length) = false := by
  have hq := at_pos hj hg
  have hlt := pc_lt hj hg
  have hjl := lt_of_some hj
  have e : amo L (idxF g 0 L) 0 (idxF f 0 L) = pc g L j := by
    have h1 : idxF f 0 L = (idxF f 0 L).take (pc f L j) ++ idxF f j (L.drop j) := by
      have h2 := idxF_split f L (Nat.le_of_lt hjl)
      have h3 : (idxF f 0 L).take (pc f L j) = idxF f 0 (L.take j) := by
        rw [h2]; exact List.take_left' rfl
      rw [h3]; exact h2
    rw [h1, amo_append, h]
    exact amo_stay (j := (j : Int)) (by rw [hq]; rfl) _ (fun x hx => by have := idxF_ge f (L.drop j) j x hx; omega)
  rw [e]
  exact decide_eq_false (by omega)
theorem among_yes {L : List Rec} {P Q : List Int} {c : Nat} (h : amo L Q 0 (P.take c) = Q.length) : decide (amo L Q 0 P = Q.length) = true := by
  refine decide_eq_true ?_
  have h1 : amo L Q 0 (P.take c ++ P.drop c) = Q.length := by rw [amo_append, h]; exact amo_full _ _ _
  rwa [List.take_append_drop] at h1
def ARel (w : World) (len : Nat) (L : List Rec) (f g : Rec → Bool) (s i : Value) (wr : World) : Prop :=
  ∃ (a' : Option Addr) (c' n j c : Nat), j ≤ len ∧ s = .slice a' n c' ∧ i = .int .i64 j ∧ QRow w.heap.size wr a' n c' (((idxF f 0 (L.take j)).map (dsl L)).drop c) ∧ n + c = pc f L j ∧ amo L (idxF g 0 L) 0 ((idxF f 0 L).take c) = pc g L j ∧ Gr w wr
def AIn (w0 : World) (L : List Rec) (f : Rec → Bool) (r : Rec) (n c : Nat) (s : Value) (wr : World) : Prop :=
  ∃ k, k ≤ n ∧ s = .int .i64 k ∧ (∀ y x q, y < k → (idxF f 0 L)[c + y]? = some (x : Int) → L[x.toNat]? = some q → 0 ≤ x → decide (q.xs = r.xs) = false) ∧ Gr w0 wr
set_option maxRecDepth 100000 in
set_option maxHeartbeats 1000000 in
theorem ramong_any (a : Option Addr) (len cap : Nat) (L : List Rec) (t b d : Int) (w : World) (hr : RdL w a len L) :
    Calls Try.prog 26 #[.slice a len cap, .int .i64 t, .int .i64 b, .int .i64 d] w fun e w' => e = .returned (.bool (decide (amo L (idxF (sel 2 t b d) 0 L) 0 (idxF (sel 1 t b d) 0 L) = (idxF (sel 2 t b d) 0 L).length))) ∧ Gr w w' := by
  have HR := Lib.hid hr
  have HL := Lib.hid hr.1
  have hm := hr.2.1
  have HEX := Lib.hid (fun r (h : sel 1 t b d r = true) => sel_not h)
  obtain ⟨f, hf⟩ : ∃ f, sel 1 t b d = f := ⟨_, rfl⟩
  obtain ⟨g, hg⟩ : ∃ g, sel 2 t b d = g := ⟨_, rfl⟩
  have hex := HEX.out
  rw [hf, hg] at hex
  rw [hf, hg]
  have HF := Lib.hid hf
  have HGS := Lib.hid hg
  have HX := Lib.hid hex
  clear hr hf hg hex HEX
  go_enter Try.func26, Try.ntmps26
  go_wp2_with fail
  go_loopw [9, 10] (fun s i wr => ARel w len L f g s i wr) (fun _ i _ => len - (intOf i).toNat)
  case atStart => exact ⟨none, 0, 0, 0, 0, by omega, rfl, rfl, by exact QRow.nil _ _, by rw [pc_zero], by rw [pc_zero]; rfl, Gr.refl _⟩
  case round =>
    obtain ⟨a', c', n, j, c, hj, rfl, rfl, ho, hnc, hamo, hg⟩ := hrel
    have HG := Lib.hid hg
    have HO := Lib.hid ho
    have HAM := Lib.hid hamo
    have HNC := Lib.hid hnc
    have hple := pc_len f L j
    have hn : n ≤ 1000000 := by omega
    clear hg ho hamo hnc hple
    by_cases hlt : j < len
    · obtain ⟨r, hri, hrr⟩ := HR.out.get hlt
      obtain ⟨b0, off, ea, hrg⟩ := (HR.out.kept HG.out).some (by omega)
      subst ea
      have HRNG := Lib.hid (hrg j r hri)
      have HPS := Lib.hid (pc_step (f := f) hri)
      have HQS := Lib.hid (pc_step (f := g) hri)
      have HTK := Lib.hid (idx_map_step (f := f) hri)
      have HRI := Lib.hid hri
      have HRR := Lib.hid (hrr.kept HG.out)
      clear hri hrg hrr
      go_wp2_with (refine wpList_load_mid rfl 27 _ rfl b0 (off + j * 7) rfl (RCells r) _ HRNG.out Try.underlying27 rfl (by kernel_rfl) ?_)
      refine (ris_any r 1 t b d wr).mono ?_
      rw [HF.out]
      rintro e w2 ⟨rfl, hg2⟩
      have HG2 := Lib.hid (HG.out.trans hg2)
      have HO2 := Lib.hid (HO.out.stay hg2)
      have HRR2 := Lib.hid (HRR.out.kept hg2)
      have HRNG2 := Lib.hid (show w2.rangeAt b0 (off + j * 7) (RCells r) from fun i v hv => hg2.cell (HRNG.out i v hv))
      clear hg2 HG HO HRR HRNG
      rcases Bool.eq_false_or_eq_true (f r) with hB | hB
      · have hG : g r = false := HX.out r hB
        rw [hB]
        have hps := HPS.out
        have hqs := HQS.out
        have htk := HTK.out
        rw [hB] at hps
        rw [hG] at hqs
        rw [hB] at htk
        simp only [if_true] at hps htk
        simp only [Bool.false_eq_true, if_false, Nat.add_zero] at hqs
        have c6 := HRNG2.out 6 _ rfl
        obtain ⟨w3, hw3⟩ : ∃ y, y = w2.alloc (.cells #[slv ⟨r.a, r.n, r.c⟩] 22) := ⟨_, rfl⟩
        have hg3 : Gr w2 w3 := by rw [hw3]; exact Gr.alloc _ _
        have hgw := HG2.out.size
        obtain ⟨a6, c6', w6, hrun6, ho6, hg6⟩ := (HO2.out.stay hg3).app ⟨r.a, r.n, r.c⟩ ⟨w2.heap.size, 0, none⟩ (.inr ⟨w2.heap.size, 0, rfl, by rw [hw3]; simp, fun i hi => by rw [Nat.zero_add, hw3, cell_new]; simp⟩) hn (Nat.le_trans hgw hg3.size)
        have hdr : ((idxF f 0 (L.take j)).map (dsl L)).drop c ++ [Value.slice r.a r.n r.c] = ((idxF f 0 (L.take (j + 1))).map (dsl L)).drop c := by
          have h1 := HNC.out
          unfold pc at h1
          rw [htk, List.drop_append_of_le_length (by rw [List.length_map]; omega)]
        rw [show slv ⟨r.a, r.n, r.c⟩ = Value.slice r.a r.n r.c from rfl, hdr] at ho6
        rw [hw3] at hrun6
        have hgg := hg6 w (HG2.out.trans hg3) (Nat.le_refl _)
        have HRUN := Lib.hid hrun6
        have HO6 := Lib.hid ho6
        have HG6 := Lib.hid hgg
        have HRNG6 := Lib.hid (show w6.rangeAt b0 (off + j * 7) (RCells r) from by
          obtain ⟨b0', off', ea', hrg'⟩ := (HR.out.kept hgg).some (by omega)
          injection ea' with ea'
          injection ea' with e1 e2
          subst e1 e2
          exact hrg' j r HRI.out)
        have HPS2 := Lib.hid hps
        have HQS2 := Lib.hid hqs
        have HGF := Lib.hid hG
        clear hps hqs htk hw3 hg3 hrun6 ho6 hg6 hgg hgw hB hG hdr
        go_upto_region 7 with (at_builtin; refine wpList_app rfl _ _ _ rfl rfl rfl HRUN.out ?_)
        clear c6
        go_wp2_with (refine wpList_load_mid rfl 27 _ rfl b0 (off + j * 7) rfl (RCells r) _ HRNG6.out Try.underlying27 rfl (by kernel_rfl) ?_)
        refine (ris_any r 2 t b d w6).mono ?_
        rw [HGS.out, HGF.out]
        rintro e w7 ⟨rfl, hg7⟩
        have HG7 := Lib.hid (HG6.out.trans hg7)
        have HO7 := Lib.hid (HO6.out.stay hg7)
        clear hg7
        go_wp2_with fail
        go_roundw
        case rel => exact ⟨a6, c6', n + 1, j + 1, c, by omega, rfl, by go_num, HO7.out, by rw [HPS2.out]; have := HNC.out; omega, by rw [HQS2.out]; exact HAM.out, HG7.out⟩
        case measure => (simp [intOf] <;> omega)
      · rw [hB]
        have hps := HPS.out
        have htk := HTK.out
        rw [hB] at hps
        rw [hB] at htk
        simp only [Bool.false_eq_true, if_false, Nat.add_zero, List.append_nil] at hps htk
        have HPS2 := Lib.hid hps
        have HTK2 := Lib.hid htk
        clear hps htk hB
        go_upto_region 7 with (fail)
        go_wp2_with (refine wpList_load_mid rfl 27 _ rfl b0 (off + j * 7) rfl (RCells r) _ HRNG2.out Try.underlying27 rfl (by kernel_rfl) ?_)
        refine (ris_any r 2 t b d w2).mono ?_
        rw [HGS.out]
        rintro e w7 ⟨rfl, hg7⟩
        have HG7 := Lib.hid (HG2.out.trans hg7)
        have HO7 := Lib.hid (HO2.out.stay hg7)
        have HRR7 := Lib.hid (HRR2.out.kept hg7)
        have HRNG7 := Lib.hid (show w7.rangeAt b0 (off + j * 7) (RCells r) from fun i v hv => hg7.cell (HRNG2.out i v hv))
        clear hg7 HG2 HO2 HRR2 HRNG2
        rcases Bool.eq_false_or_eq_true (g r) with hB | hB
        rotate_left
        · rw [hB]
          have hqs := HQS.out
          rw [hB] at hqs
          simp only [Bool.false_eq_true, if_false, Nat.add_zero] at hqs
          have HQS2 := Lib.hid hqs
          clear hB hqs
          go_wp2_with fail
          go_roundw
          case rel => exact ⟨a', c', n, j + 1, c, by omega, rfl, by go_num, by rw [HTK2.out]; exact HO7.out, by rw [HPS2.out]; exact HNC.out, by rw [HQS2.out]; exact HAM.out, HG7.out⟩
          case measure => (simp [intOf] <;> omega)
        · rw [hB]
          have hqs := HQS.out
          rw [hB] at hqs
          simp only [if_true] at hqs
          have HQS2 := Lib.hid hqs
          have HB := Lib.hid hB
          clear hB hqs
          go_wp2_with fail
          go_loopw [11] (fun s wr => AIn w7 L f r n c s wr) (fun s _ => n - (intOf s).toNat)
          case atStart => exact ⟨0, by omega, rfl, (fun y x q hy => by omega), Gr.refl _⟩
          case round =>
            obtain ⟨k, hk, rfl, hno, hg8⟩ := hrel
            have HNO := Lib.hid hno
            have HG8 := Lib.hid hg8
            clear hno hg8
            have HG9 := Lib.hid (HG7.out.trans HG8.out)
            have HO8 := Lib.hid (HO7.out.stay HG8.out)
            by_cases hkn : k < n
            · obtain ⟨y, q, hyj, hqi, hpy, hqy⟩ := que_at (f := f) (L := L) (j := j) (c := c) (z := k) (by rw [HL.out]; omega) (by have := HNC.out; omega)
              have hqr : Rd .u8 w q.a q.n q.xs := HR.out.2.2.2 q (List.mem_of_getElem? hqi)
              obtain ⟨g0, o0, eq, hcq⟩ := HO8.out.cell (by omega)
              subst eq
              have ck := hcq k _ hqy
              have c6 := HG8.out.cell (HRNG7.out 6 _ rfl)
              obtain ⟨E, hE⟩ : ∃ E, decide (q.xs = r.xs) = E := ⟨_, rfl⟩
              have HE := Lib.hid hE
              have HQR := Lib.hid (hqr.kept HG9.out)
              have HRR8 := Lib.hid (HRR7.out.kept HG8.out)
              have HQI := Lib.hid hqi
              have HPY := Lib.hid hpy
              have ckg : ∀ u, Gr wr u → u.cell? ⟨g0, o0 + k, none⟩ = some (.slice q.a q.n q.c) := fun u hu => hu.cell ck
              have c6g : ∀ u, Gr wr u → u.cell? ⟨b0, off + j * 7 + 6, none⟩ = some (.slice r.a r.n r.c) := fun u hu => hu.cell c6
              have hdk : decide (k < n) = true := decide_eq_true hkn
              clear hqr hqi hpy hqy hcq ck c6 hE
              go_upto_region 9 with (fail)
              refine Sched.wp_region_sched 17 [] [] (by kernel_rfl) (by kernel_rfl) ?_
              simp only [List.take_succ_cons, List.take_zero, List.drop_succ_cons, List.drop_zero]
              repeat (first | (refine Sched.walk1_no rfl rfl (fun K hK => ?_); simp only [Act.put, List.setIfInBounds_toArray, List.set_cons_zero, List.set_cons_succ]; refine hK _ ?_; clear hK K) | (refine Sched.walk1_gr rfl rfl rfl (fun K hK => ?_); apply Exists.intro; refine ⟨fun w1 hw1 => ?_, ?_⟩; (focus (go_simp; (try go_ints); (try (simp only [IntWalk.iteOmega]; go_simp)); first | done | (go_at_call 38; (with_reducible exact sameb_is HE.out _ _ _ _ _ _ _ (rd_gr HQR.out hw1) (rd_gr HRR8.out hw1))) | (with_reducible rfl) | (with_reducible exact ⟨rfl, rfl⟩))); simp only [Act.put, List.setIfInBounds_toArray, List.set_cons_zero, List.set_cons_succ]; refine hK _ ?_; clear hK K) | (refine Sched.walk1_pure rfl rfl rfl (fun K hK => ?_); apply Exists.intro; refine ⟨fun w1 => ?_, ?_⟩; (focus (go_simp; (try go_ints); (try (simp only [IntWalk.iteOmega]; go_simp)); first | done | (with_reducible rfl) | (with_reducible exact ⟨rfl, rfl⟩))); simp only [Act.put, List.setIfInBounds_toArray, List.set_cons_zero, List.set_cons_succ]; refine hK _ ?_; clear hK K) | (refine Sched.walk1_box rfl rfl ?_; apply Exists.intro; refine ⟨fun w1 hw1 => ?_, ?_⟩; (focus (go_simp; exact ⟨Gr.alloc _ _, rfl, by simp, heap_alloc_new _ _⟩))))
              refine Sched.walk1_nil ?_
              intro wq hwq
              dsimp only [Sched.EndN, List.nil_append, List.cons_append, Act.put]
              (try simp only [List.setIfInBounds_toArray, List.set_cons_zero, List.set_cons_succ])
              repeat (first | (refine Sched.walk2_no rfl (fun K hK => ?_); simp only [Act.put, List.setIfInBounds_toArray, List.set_cons_zero, List.set_cons_succ]; refine hK _ ?_; clear hK K) | (refine Sched.walk2_go rfl (fun K hK => ?_); go_simp; (try go_ints); (try (simp only [IntWalk.iteOmega]; go_simp)); first | (refine hK _ _ ?_; clear hK K) | fail))
              refine Sched.walk2_nil ?_
              have HGq := Lib.hid (HG9.out.trans hwq)
              have HG7q := Lib.hid (HG8.out.trans hwq)
              have HOq := Lib.hid (HO8.out.stay hwq)
              clear ckg c6g hwq hdk
              cases E
              · go_wp2_with fail
                go_roundw
                case rel =>
                  refine ⟨k + 1, by omega, by go_num, fun y' x' q' hy' hp' hl' h0' => ?_, HG7q.out⟩
                  by_cases hyk : y' < k
                  · exact HNO.out y' x' q' hyk hp' hl' h0'
                  · obtain rfl : y' = k := by omega
                    rw [HPY.out] at hp'
                    injection hp' with hp'
                    subst hp'
                    rw [Int.toNat_natCast, HQI.out] at hl'
                    injection hl' with hl'
                    subst hl'
                    exact HE.out
                case measure => (simp [intOf] <;> omega)
              · have hke : ((k : Int) == (n : Int)) = false := by simp; omega
                have hcp := HOq.out.le_cap
                have hq := at_pos HRI.out HB.out
                have hskip := amo_skip HAM.out k (by
                  have h1 := pc_le f L (i := j) (by rw [HL.out]; omega)
                  have h2 := HNC.out
                  omega) (fun y' x' hy' hx' => by
                  obtain ⟨y2, q2, h1, h2, h3, h4⟩ := que_at (f := f) (L := L) (j := j) (c := c) (z := y') (by rw [HL.out]; omega) (by have := HNC.out; omega)
                  rw [h3] at hx'
                  injection hx' with hx'
                  subst hx'
                  exact amoS_no hq h2 HRI.out (HNO.out y' y2 q2 hy' h3 (by rw [Int.toNat_natCast]; exact h2) (by omega)))
                have hstep : amo L (idxF g 0 L) 0 ((idxF f 0 L).take (c + (k + 1))) = pc g L j + 1 := by
                  rw [← Nat.add_assoc, take_snocI HPY.out, amo_snoc, hskip]
                  exact amoS_yes hq HQI.out HRI.out hyj HE.out
                have HST := Lib.hid hstep
                have hcut := HOq.out.cut' (k + 1) (by omega)
                rw [List.drop_drop] at hcut
                have HCUT := Lib.hid hcut
                clear hq hskip hstep hcut
                go_wp2_with fail
                go_roundw
                case rel =>
                  refine ⟨_, c' - (k + 1), n - (k + 1), j + 1, c + (k + 1), by omega, rfl, by go_num, by rw [HTK2.out]; exact HCUT.out, by rw [HPS2.out]; have := HNC.out; omega, by rw [HQS2.out]; exact HST.out, HGq.out⟩
                case measure => (simp [intOf] <;> omega)
            · obtain rfl : k = n := by omega
              have hke : ((k : Int) == (k : Int)) = true := by simp
              have hq := at_pos HRI.out HB.out
              have hskip := amo_skip HAM.out k (by
                have h1 := pc_le f L (i := j) (by rw [HL.out]; omega)
                have h2 := HNC.out
                omega) (fun y' x' hy' hx' => by
                obtain ⟨y2, q2, h1, h2, h3, h4⟩ := que_at (f := f) (L := L) (j := j) (c := c) (z := y') (by rw [HL.out]; omega) (by have := HNC.out; omega)
                rw [h3] at hx'
                injection hx' with hx'
                subst hx'
                exact amoS_no hq h2 HRI.out (HNO.out y' y2 q2 hy' h3 (by rw [Int.toNat_natCast]; exact h2) (by omega)))
              have hno := among_no (f := f) (g := g) HRI.out HB.out (by have h2 := HNC.out; rw [← h2, Nat.add_comm]; exact hskip)
              have HNN := Lib.hid hno
              clear hq hskip hno
              go_upto_region 9 with (fail)
              refine Sched.wp_region_sched 17 [] [] (by kernel_rfl) (by kernel_rfl) ?_
              simp only [List.take_succ_cons, List.take_zero, List.drop_succ_cons, List.drop_zero]
              repeat (first | ((with_reducible refine Sched.walk1_no ?_ ?_ (fun K hK => ?_)); (focus rfl); (focus rfl); simp only [Act.put, List.setIfInBounds_toArray, List.set_cons_zero, List.set_cons_succ]; refine hK _ ?_; clear hK K) | ((with_reducible refine Sched.walk1_gr ?_ ?_ ?_ (fun K hK => ?_)); (focus rfl); (focus rfl); (focus rfl); apply Exists.intro; refine ⟨fun w1 hw1 => ?_, ?_⟩; (focus (go_simp; (try go_ints); (try (simp only [IntWalk.iteOmega]; go_simp)); first | done | fail | (with_reducible rfl) | (with_reducible exact ⟨rfl, rfl⟩))); simp only [Act.put, List.setIfInBounds_toArray, List.set_cons_zero, List.set_cons_succ]; refine hK _ ?_; clear hK K) | ((with_reducible refine Sched.walk1_pure ?_ ?_ ?_ (fun K hK => ?_)); (focus rfl); (focus rfl); (focus rfl); apply Exists.intro; refine ⟨fun w1 => ?_, ?_⟩; (focus (go_simp; (try go_ints); (try (simp only [IntWalk.iteOmega]; go_simp)); first | done | (with_reducible rfl) | (with_reducible exact ⟨rfl, rfl⟩))); simp only [Act.put, List.setIfInBounds_toArray, List.set_cons_zero, List.set_cons_succ]; refine hK _ ?_; clear hK K) | (refine Sched.walk1_box rfl rfl ?_; apply Exists.intro; refine ⟨fun w1 hw1 => ?_, ?_⟩; (focus (go_simp; exact ⟨Gr.alloc _ _, rfl, by simp, heap_alloc_new _ _⟩))))
              (with_reducible refine Sched.walk1_nil ?_)
              intro wq hwq
              dsimp only [Sched.EndN, List.nil_append, List.cons_append, Act.put]
              (try simp only [List.setIfInBounds_toArray, List.set_cons_zero, List.set_cons_succ])
              repeat (first | (refine Sched.walk2_no rfl (fun K hK => ?_); simp only [Act.put, List.setIfInBounds_toArray, List.set_cons_zero, List.set_cons_succ]; refine hK _ ?_; clear hK K) | (refine Sched.walk2_go rfl (fun K hK => ?_); go_simp; (try go_ints); (try (simp only [IntWalk.iteOmega]; go_simp)); first | (refine hK _ _ ?_; clear hK K) | fail))
              refine Sched.walk2_nil ?_
              have HGq := Lib.hid (HG9.out.trans hwq)
              clear hwq
              go_wp2_with fail
              go_ret
              exact ⟨ret_bool HNN.out.symm, HGq.out⟩
    · obtain rfl : j = len := by omega
      have ham := HAM.out
      rw [← HL.out, pc_all] at ham
      have HY := Lib.hid (among_yes ham)
      clear ham
      go_wp2_with fail
      go_ret
      exact ⟨ret_bool HY.out.symm, HG.out⟩
end Go.Proofs.Ytgackcjhiplplaa
