/- Layer 44 (audit): the reference: Entered, Delivered, InOrder. -/
import Derived.Test.YtgackcjhiplplaaAudK
namespace Go.Proofs.Ytgackcjhiplplaa
open Go.ChangeShapes Go.WideShapes Go.ChangeAt Go.RowKit

/-- How many of the first i are chosen. -/
def pc (f : Rec → Bool) (L : List Rec) (i : Nat) : Nat := (idxF f 0 (L.take i)).length
theorem idxF_split (f : Rec → Bool) (L : List Rec) {i : Nat} (hi : i ≤ L.length) : idxF f 0 L = idxF f 0 (L.take i) ++ idxF f i (L.drop i) := by
  have h := idxF_append f (L.take i) (L.drop i) 0
  rw [List.take_append_drop, List.length_take, Nat.min_eq_left hi, Nat.zero_add] at h
  exact h
theorem lt_of_some {α : Type} {l : List α} {i : Nat} {x : α} (h : l[i]? = some x) : i < l.length := by
  rcases Nat.lt_or_ge i l.length with h1 | h1
  · exact h1
  · rw [List.getElem?_eq_none h1] at h; cases h
theorem at_pos {f : Rec → Bool} {L : List Rec} {i : Nat} {r : Rec} (h : L[i]? = some r) (hf : f r = true) : (idxF f 0 L)[pc f L i]? = some (i : Int) := by
  have hi := lt_of_some h
  unfold pc
  rw [idxF_split f L (Nat.le_of_lt hi), List.getElem?_append_right (Nat.le_refl _)]
  have hd : L.drop i = r :: L.drop (i + 1) := by
    rw [List.drop_eq_getElem_cons hi]
    congr 1
    rw [List.getElem?_eq_getElem hi] at h
    exact Option.some.inj h
  rw [hd]
  simp [idxF, hf]
theorem lt_pos {f : Rec → Bool} {L : List Rec} {i k : Nat} {x : Int} (h : (idxF f 0 L)[k]? = some x) (hx : x < i) (hi : i ≤ L.length) : k < pc f L i := by
  rcases Nat.lt_or_ge k (pc f L i) with h1 | h1
  · exact h1
  · exfalso
    rw [idxF_split f L hi, List.getElem?_append_right h1] at h
    have := idxF_ge f (L.drop i) i x (List.mem_of_getElem? h)
    omega
theorem pos_lt {f : Rec → Bool} {L : List Rec} {i k : Nat} (hi : i ≤ L.length) (h : k < pc f L i) : ∃ j : Nat, j < i ∧ j < L.length ∧ (idxF f 0 L)[k]? = some (j : Int) ∧ (idxF f 0 (L.take i))[k]? = some (j : Int) := by
  obtain ⟨j, h1, h2⟩ := idxF_in f (L.take i) 0 (idxF f 0 (L.take i))[k] (List.getElem_mem h)
  rw [List.length_take, Nat.zero_add] at h1
  have h3 : (idxF f 0 (L.take i))[k]? = some (j : Int) := by rw [List.getElem?_eq_getElem h, h2]
  refine ⟨j, by omega, by omega, ?_, h3⟩
  rw [idxF_split f L hi, List.getElem?_append_left h, h3]
theorem pc_step {f : Rec → Bool} {L : List Rec} {i : Nat} {r : Rec} (h : L[i]? = some r) : pc f L (i + 1) = pc f L i + (if f r then 1 else 0) := by
  unfold pc
  rw [idxF_take h, List.length_append]
  split <;> simp
theorem pc_zero (f : Rec → Bool) (L : List Rec) : pc f L 0 = 0 := by simp [pc, idxF]
theorem pc_all (f : Rec → Bool) (L : List Rec) : pc f L L.length = (idxF f 0 L).length := by unfold pc; rw [List.take_length]
theorem pc_le (f : Rec → Bool) (L : List Rec) {i : Nat} (hi : i ≤ L.length) : pc f L i ≤ (idxF f 0 L).length := by
  rw [idxF_split f L hi, List.length_append]; unfold pc; omega
theorem pc_len (f : Rec → Bool) (L : List Rec) (i : Nat) : pc f L i ≤ i := by
  have := idxF_len f (L.take i) 0
  rw [List.length_take] at this
  unfold pc; omega
/-- The data of a record, as a slice. -/
def dsl (L : List Rec) (x : Int) : Value := match L[x.toNat]? with | some r => .slice r.a r.n r.c | none => .slice none 0 0
theorem dsl_at {L : List Rec} {j : Nat} {r : Rec} (h : L[j]? = some r) : dsl L (j : Int) = .slice r.a r.n r.c := by unfold dsl; rw [Int.toNat_natCast, h]
/-! ### Entered, Delivered -/
def RDRel (w : World) (len : Nat) (L : List Rec) (f : Rec → Bool) (s i : Value) (wr : World) : Prop :=
  ∃ (a' : Option Addr) (c' k : Nat), k ≤ len ∧ s = .slice a' (pc f L k) c' ∧ i = .int .i64 k ∧ OwnSS w.heap.size wr a' (pc f L k) c' ((idxF f 0 (L.take k)).map (dat L)) ∧ Gr w wr
set_option maxRecDepth 100000 in
set_option maxHeartbeats 1000000 in
theorem rdata_any (a : Option Addr) (len cap : Nat) (L : List Rec) (k t b d : Int) (w : World) (hr : RdL w a len L) (hsz : ∀ r ∈ L, r.n ≤ 140737488351232) :
    Calls Try.prog 37 #[.slice a len cap, .int .i64 k, .int .i64 t, .int .i64 b, .int .i64 d] w (DataPost ((idxF (sel k t b d) 0 L).map (dat L)) w) := by
  have HR := Lib.hid hr
  have HL := Lib.hid hr.1
  have hm := hr.2.1
  have HSZ := Lib.hid hsz
  obtain ⟨f, hf⟩ : ∃ f, sel k t b d = f := ⟨_, rfl⟩
  rw [hf]
  have HF := Lib.hid hf
  clear hr hf hsz
  go_enter Try.func37, Try.ntmps37
  go_wp2_with fail
  go_loopw [11, 12] (fun s i wr => RDRel w len L f s i wr) (fun _ i _ => len - (intOf i).toNat)
  case atStart => exact ⟨none, 0, 0, by omega, by rw [pc_zero], rfl, by rw [pc_zero]; exact OwnSS.nil _ _, Gr.refl _⟩
  case round =>
    obtain ⟨a', c', j, hj, rfl, rfl, ho, hg⟩ := hrel
    have HG := Lib.hid hg
    have HO := Lib.hid ho
    clear hg ho
    by_cases hlt : j < len
    · obtain ⟨r, hri, hrr⟩ := HR.out.get hlt
      obtain ⟨b0, off, ea, hrg⟩ := (HR.out.kept HG.out).some (by omega)
      subst ea
      have hrange := hrg j r hri
      have hps := pc_step (f := f) hri
      have htk : (idxF f 0 (L.take (j + 1))).map (dat L) = (idxF f 0 (L.take j)).map (dat L) ++ (if f r then [r.xs] else []) := by
        rw [idxF_take hri, List.map_append]
        split
        · rw [List.map_cons, List.map_nil, dat_at hri]
        · simp
      have hple := pc_len f L j
      have HPS := Lib.hid hps
      have HTK := Lib.hid htk
      have HRNG := Lib.hid hrange
      have HRR := Lib.hid (hrr.kept HG.out)
      have HRN := Lib.hid (HSZ.out r (List.mem_of_getElem? hri))
      obtain ⟨pj, hpj⟩ : ∃ pj, pc f L j = pj := ⟨_, rfl⟩
      have HPJ := Lib.hid hpj
      have ho := HO.out
      rw [hpj] at ho hple
      rw [hpj]
      have HO1 := Lib.hid ho
      clear hri hrg hrange htk hrr hps hpj ho HO
      go_wp2_with (refine wpList_load_mid rfl 27 _ rfl b0 (off + j * 7) rfl (RCells r) _ HRNG.out Try.underlying27 rfl (by kernel_rfl) ?_)
      refine (ris_any r k t b d wr).mono ?_
      rw [HF.out]
      rintro e w2 ⟨rfl, hg2⟩
      have HG2 := Lib.hid (HG.out.trans hg2)
      have HO2 := Lib.hid (HO1.out.stay hg2)
      have HRR2 := Lib.hid (HRR.out.kept hg2)
      have c6 := hg2.cell (HRNG.out 6 _ rfl)
      obtain ⟨B, hB⟩ : ∃ B, f r = B := ⟨_, rfl⟩
      have HB := Lib.hid hB
      rw [hB]
      clear hB hg2 HG HO1 HRR
      cases B
      · clear c6
        go_wp2_with fail
        go_roundw
        case rel =>
          have hp := HPS.out
          have ht := HTK.out
          rw [HB.out, HPJ.out] at hp
          rw [HB.out] at ht
          refine ⟨a', c', j + 1, by omega, by rw [hp]; rfl, by go_num, ?_, HG2.out⟩
          rw [hp, ht]
          simpa using HO2.out
        case measure => (simp [intOf] <;> omega)
      · obtain ⟨w3, hw3⟩ : ∃ y, y = w2.alloc (.cells #[] 5) := ⟨_, rfl⟩
        have hn3 := lit_nil w2.heap.size w2 (Nat.le_refl _)
        have hg3 : Gr w2 w3 := by rw [hw3]; exact Gr.alloc _ _
        rw [← hw3] at hn3
        obtain ⟨a4, c4, w4, hrun4, ho4, hg4, _⟩ := app_u8 w2.heap.size w3 (some ⟨w2.heap.size, 0, none⟩) 0 0 [] hn3 r.a r.n r.c r.xs (HRR2.out.kept hg3) (by have := HRN.out; omega) hg3.size
        rw [Nat.zero_add] at hrun4 ho4
        rw [List.nil_append] at ho4
        have hg24 : Gr w2 w4 := grown_own hg3 hn3 (Nat.le_refl _) hg4
        have hso := HO2.out.stay hg24
        have hg5 : Gr w4 (w4.alloc (.cells #[slv ⟨a4, r.n, c4⟩] 22)) := Gr.alloc _ _
        obtain ⟨a6, c6', w6, hrun6, ho6, hg6⟩ := (hso.stay hg5).app ⟨a4, r.n, c4⟩ r.xs (ho4.rd.kept hg5) (fun bb off' h0 he => by
          intro h
          have h1 := (ho4.below bb (by rw [show a4 = some ⟨bb, off', none⟩ from he]; rfl)).1
          obtain ⟨ss, h2, _⟩ := HO2.out
          have := (h2.lt bb h).2
          omega) ⟨w4.heap.size, 0, none⟩ (.inr ⟨w4.heap.size, 0, rfl, by simp, fun i hi => by rw [Nat.zero_add, cell_new]; simp⟩) (by omega) (Nat.le_trans HG2.out.size (Nat.le_trans hg24.size (by simp)))
        have hgg : Gr w w6 := by
          obtain ⟨ss, h2, _⟩ := hso.stay hg5
          exact grownBy_trans ((HG2.out.trans hg24).trans hg5) hg6 (by
            cases hv : (Value.slice a' pj c').ownBlock with
            | none => exact .inr (.inl rfl)
            | some g => exact .inr (.inr ⟨g, rfl, (h2.lt g hv).1⟩))
        have hp := HPS.out
        have ht := HTK.out
        rw [HB.out, HPJ.out] at hp
        rw [HB.out] at ht
        simp only [if_true] at hp ht
        rw [← ht] at ho6
        have HP := Lib.hid hp
        have HRUN4 := Lib.hid hrun4
        have HRUN6 := Lib.hid hrun6
        have HW3 := Lib.hid hw3
        have HO6 := Lib.hid ho6
        have HG6 := Lib.hid hgg
        clear hw3 hn3 hg3 hrun4 ho4 hg4 hg24 hso hg5 hrun6 ho6 hg6 hgg hp ht
        have c6b := (Gr.alloc w2 (.cells #[] 5)).cell c6
        have tok1 : True := trivial
        go_wp2_with (first | (at_builtin; have _t := tok1; (have hw1 := HW3.out; rw [← hw1]; clear hw1); refine wpList_app rfl _ _ _ rfl rfl rfl HRUN4.out ?_; clear _t tok1) | (at_builtin; refine wpList_app rfl _ _ _ rfl rfl rfl HRUN6.out ?_))
        go_roundw
        case rel =>
          refine ⟨a6, c6', j + 1, by omega, by rw [HP.out], by go_num, ?_, HG6.out⟩
          rw [HP.out]
          exact HO6.out
        case measure => (simp [intOf] <;> omega)
    · obtain rfl : j = len := by omega
      have hpl : pc f L j ≤ j := pc_len f L j
      have ho := HO.out
      rw [List.take_of_length_le (by rw [HL.out]; omega)] at ho
      have hcap : pc f L j ≤ c' := by
        obtain ⟨ss, h2, _⟩ := ho
        rcases h2.2 with ⟨hv, h0⟩ | ⟨g, cap', cur, hv, _, _, hn, _⟩
        · omega
        · injection hv with _ _ e3; omega
      have HOX := Lib.hid (ho.rd (show pc f L j ≤ 1000000 by omega))
      have HCAP := Lib.hid hcap
      obtain ⟨pj, hpj⟩ : ∃ pj, pc f L j = pj := ⟨_, rfl⟩
      have hox := HOX.out
      have hcp := HCAP.out
      rw [hpj] at hox hcp
      rw [hpj]
      have HX := Lib.hid hox
      have HC := Lib.hid hcp
      clear ho hcap hpl hox hcp hpj HOX HCAP HO
      go_wp2_with fail
      go_ret
      exact ⟨a', pj, c', rfl, HC.out, HX.out, HG.out⟩
theorem rentered_any (a : Option Addr) (len cap : Nat) (L : List Rec) (t b d : Int) (w : World) (hr : RdL w a len L) (hsz : ∀ r ∈ L, r.n ≤ 140737488351232) :
    Calls Try.prog 23 #[.slice a len cap, .int .i64 t, .int .i64 b, .int .i64 d] w (DataPost ((idxF (sel 1 t b d) 0 L).map (dat L)) w) := by
  have HR := Lib.hid hr
  have HSZ := Lib.hid hsz
  clear hr hsz
  go_enter Try.func23, Try.ntmps23
  go_wp2_with fail
  refine (rdata_any a len cap L 1 t b d w HR.out HSZ.out).mono ?_
  rintro e w3 ⟨a3, n3, c3, rfl, hc3, hx3, hg3⟩
  have HX := Lib.hid hx3
  have HG3 := Lib.hid hg3
  clear hx3 hg3
  go_wp2_with fail
  go_ret
  exact ⟨a3, n3, c3, rfl, hc3, HX.out, HG3.out⟩
theorem rdelivered_any (a : Option Addr) (len cap : Nat) (L : List Rec) (t b d : Int) (w : World) (hr : RdL w a len L) (hsz : ∀ r ∈ L, r.n ≤ 140737488351232) :
    Calls Try.prog 24 #[.slice a len cap, .int .i64 t, .int .i64 b, .int .i64 d] w (DataPost ((idxF (sel 2 t b d) 0 L).map (dat L)) w) := by
  have HR := Lib.hid hr
  have HSZ := Lib.hid hsz
  clear hr hsz
  go_enter Try.func24, Try.ntmps24
  go_wp2_with fail
  refine (rdata_any a len cap L 2 t b d w HR.out HSZ.out).mono ?_
  rintro e w3 ⟨a3, n3, c3, rfl, hc3, hx3, hg3⟩
  have HX := Lib.hid hx3
  have HG3 := Lib.hid hg3
  clear hx3 hg3
  go_wp2_with fail
  go_ret
  exact ⟨a3, n3, c3, rfl, hc3, HX.out, HG3.out⟩
end Go.Proofs.Ytgackcjhiplplaa
