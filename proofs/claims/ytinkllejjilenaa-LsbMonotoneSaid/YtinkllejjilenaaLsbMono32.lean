/- The law LsbMonotone: its walk, the width 32. -/
import Derived.Test.YtinkllejjilenaaLsbMonoBase
namespace Go.Proofs.Ytinkllejjilenaa
open Go.ChangeShapes Go.WideShapes Go.ChangeAt Go.RowKit


set_option maxHeartbeats 1000000 in
theorem mono32 (kind n0 n1 : Int) (a : Option Addr) (L cap : Nat) (zs : List Int) (w : World) (hz : Rd .i64 w a L zs) (hL : L ≤ 60) (h0 : i64 n0) (h1 : i64 n1) (c0 : modF kind 3 = 2) :
    Calls Try.prog 5 #[.int .i64 kind, .slice a L cap, .agg #[.int .i64 n0, .int .i64 n1]] w fun e w' => e = .returned (.bool true) ∧ Gr w w' := by
  obtain ⟨h0a, h0b⟩ := h0
  obtain ⟨h1a, h1b⟩ := h1
  have hm0 : modF kind 3 = 2 := c0
  have hpick : ∀ w : World, (Instr.index 25 (.agg #[.int .i64 8, .int .i64 16, .int .i64 32]) (.int .i64 2)).run Try.prog w = .ok (.int .i64 32) w := fun w => run_index_cell (j := 2) w Try.underlying25 (by kernel_rfl) Try.underlying3 (by kernel_rfl) (by decide) rfl
  have m3 := modF_lo n0 4294967296
  have m4 := modF_hi n0 4294967296 (by omega)
  obtain ⟨v, hv⟩ : ∃ v, modF n0 4294967296 = v := ⟨_, rfl⟩
  rw [hv] at m3 m4
  have HM0 := Lib.hid hm0
  have HV := Lib.hid hv
  clear hm0 hv c0
  go_enter Try.func5, Try.ntmps5
  go_wp2_with fail
  refine (mod_is HM0.out _ (by omega)).mono ?_
  rintro e w' ⟨rfl, rfl⟩
  go_wp2_with fail
  refine (mod_is HV.out _ (by omega)).mono ?_
  rintro e w' ⟨rfl, rfl⟩
  obtain ⟨w1, hw1⟩ : ∃ x, x = w.alloc (.cells #[.int .i64 n0, .int .i64 n1] 36) := ⟨_, rfl⟩
  rw [← hw1]
  have hg1 : Gr w w1 := by rw [hw1]; exact Gr.alloc _ _
  have cn1 : w1.cell? ⟨w.heap.size, 1, none⟩ = some (.int .i64 n1) := by rw [hw1, cell_new]; rfl
  have hz1 := hz.kept hg1
  have HG1 := Lib.hid hg1
  have HC1 := Lib.hid cn1
  clear hw1 cn1 hg1
  go_wp2_with fail
  go_loopw [9, 10] (fun s i wr => ∃ (a' : Option Addr) (cap' j : Nat), j ≤ L ∧ s = .slice a' j cap' ∧ i = .int .i64 j ∧ OwnI w.heap.size 3 .i64 wr a' j cap' ((zs.take j).map (refF 4294967296 v)) ∧ Gr w1 wr ∧ Follows w1 (.slice none 0 0) (.slice a' j cap')) (fun _ i _ => L - (intOf i).toNat)
  case atStart => exact ⟨none, 0, 0, by omega, rfl, rfl, OwnI.nil _ _ _ _, Gr.refl _, Follows.refl _ _⟩
  case round =>
    obtain ⟨a', cap', j, hj, rfl, rfl, hown, hg, hf⟩ := hrel
    have HG := Lib.hid hg
    by_cases hlt : j < L
    · obtain ⟨gb, off, hgo, hgb, hcell⟩ := hz1.some (by omega)
      cases hgo
      have cj := hg.cell (hcell j hlt)
      have htk := take_map (refF 4294967296 v) zs j (by rw [hz.1]; exact hlt)
      obtain ⟨x, hx⟩ : ∃ x, zs[j]?.getD 0 = x := ⟨_, rfl⟩
      rw [hx] at cj htk
      have x1 := modF_lo x 2000
      have x2 := modF_hi x 2000 (by omega)
      obtain ⟨m, hm⟩ : ∃ m, modF x 2000 = m := ⟨_, rfl⟩
      rw [hm] at x1 x2
      have y1 := modF_lo (v + m - 1000) 4294967296
      have y2 := modF_hi (v + m - 1000) 4294967296 (by omega)
      obtain ⟨y, hy⟩ : ∃ y, modF (v + m - 1000) 4294967296 = y := ⟨_, rfl⟩
      rw [hy] at y1 y2
      have hfy : refF 4294967296 v x = y := by unfold refF; rw [hm, hy]
      rw [hfy] at htk
      have hrd := rd_one (w := wr) y 3 (0, 0) (by constructor <;> omega)
      obtain ⟨a2, c2, w2, hrun, ho2, hg2, hf2⟩ := app_i64 w.heap.size (wr.alloc (.cells #[.int .i64 y] 3)) a' j cap' _ (hown.stay (World.grownBy_alloc _ _ _)) (some ⟨wr.heap.size, 0, none⟩) 1 1 _ hrd (by omega) (by have := hg.size; have := HG1.out.size; simp; omega)
      rw [← htk] at ho2
      have HR := Lib.hid hrun
      have HM := Lib.hid hm
      have HY := Lib.hid hy
      clear hrun hrd hown htk hm hy hfy hx hcell
      go_wp2_with fail
      refine (mod_is HM.out _ (by omega)).mono ?_
      rintro e w' ⟨rfl, rfl⟩
      go_wp2_with fail
      refine (mod_is HY.out _ (by omega)).mono ?_
      rintro e w' ⟨rfl, rfl⟩
      go_wp2_with (at_builtin; refine wpList_app rfl _ _ _ rfl rfl rfl HR.out ?_)
      have hrg := round_grown (v := .slice none 0 0) HG.out hf hg2 hf2
      go_roundw
      case rel => exact ⟨a2, c2, j + 1, by omega, rfl, rfl, ho2, hrg.1, hrg.2⟩
      case measure => simp [intOf]; omega
    · obtain rfl : j = L := by omega
      have hall : ∀ r ∈ (zs.take j).map (refF 4294967296 v), valB 32 r = true := by
        intro r hr
        simp only [List.mem_map] at hr
        obtain ⟨x, _, rfl⟩ := hr
        have y1 := modF_lo (v + modF x 2000 - 1000) 4294967296
        have y2 := modF_hi (v + modF x 2000 - 1000) 4294967296 (by omega)
        unfold valB refF
        exact decide_eq_true ⟨y1, y2⟩
      have hvv : valB 32 v = true := by simp [valB]; omega
      obtain ⟨rs, hrs⟩ : ∃ rs, (zs.take j).map (refF 4294967296 v) = rs := ⟨_, rfl⟩
      rw [hrs] at hall hown
      clear hrs
      have hfull := fits_full (by decide) hvv hall
      have hsp := least_spec (by decide) hvv hall
      obtain ⟨k, hk⟩ : ∃ k, leastS 32 rs v = k := ⟨_, rfl⟩
      rw [hk] at hsp
      obtain ⟨s1, s2, -, -⟩ := hsp
      have hpred := mono_pred (by decide) hvv hall hk
      have HALL := Lib.hid hall
      have HVV := Lib.hid hvv
      have HK := Lib.hid hk
      have HFULL := Lib.hid hfull
      have HPRED := Lib.hid hpred
      have HOWN := Lib.hid hown
      clear hall hvv hk hfull hpred hown hg
      go_wp2_with fail
      refine (least_any _ _ _ _ rs _ _ HOWN.out.rd).mono ?_
      rintro e w' ⟨rfl, rfl⟩
      rw [HK.out]
      go_wp2_with fail
      refine (awake7 _).mono ?_
      rintro e w5 ⟨rfl, hg4⟩
      have HD5 := Lib.hid (HOWN.out.rd.kept hg4)
      have HG4 := Lib.hid hg4
      clear hg4
      go_wp2_with fail
      refine (fits_any _ _ _ _ rs _ _ _ HD5.out).mono ?_
      rintro e w' ⟨rfl, rfl⟩
      rw [HFULL.out]
      by_cases hk3 : 3 < k
      · go_wp2_with fail
        refine (fits_any _ _ _ _ rs _ _ _ HD5.out).mono ?_
        rintro e w' ⟨rfl, rfl⟩
        rw [HPRED.out hk3]
        go_wp2_with fail
        have hd5 := HD5.out
        go_loop [12] (fun i => ∃ q : Int, k ≤ q ∧ q ≤ 32 + 1 ∧ i = .int .i64 q) (fun i => (32 + 1 - intOf i).toNat)
        case atStart => exact ⟨k, by omega, by omega, rfl⟩
        case round =>
          obtain ⟨q, q1, q2, rfl⟩ := hrel
          by_cases hq : q ≤ 32
          · have hup := mono_up (i := q) (by decide) HVV.out HALL.out HK.out q1 hq
            have HUP := Lib.hid hup
            clear hup
            go_wp2_with fail
            refine (fits_any _ _ _ _ rs _ _ _ HD5.out).mono ?_
            rintro e w' ⟨rfl, rfl⟩
            rw [HUP.out]
            go_wp2_with fail
            go_round
            case rel => exact ⟨q + 1, by omega, by omega, rfl⟩
            case measure => simp [intOf]; omega
          · by_cases hL0 : j = 0
            · have hrs0 : rs = [] := List.eq_nil_of_length_eq_zero (by rw [HD5.out.1, hL0])
              have hk3 : k = 3 := by rw [← HK.out, hrs0]; exact mono_nil (by decide) HVV.out
              have hb : ((j : Int) == 0) = true := by simp; omega
              have hb2 : (k == 3) = true := by simp; omega
              clear hd5
              go_wp2_with fail
              go_ret
              exact ⟨rfl, HG1.out.trans (HG.out.trans HG4.out)⟩
            · have hb : ((j : Int) == 0) = false := by simp; omega
              have cn1 := (HG.out.trans HG4.out).cell HC1.out
              have t1 := modF_lo n1 (j : Int)
              have t2 := modF_hi n1 (j : Int) (by omega)
              obtain ⟨t, ht⟩ : ∃ t : Nat, modF n1 (j : Int) = t := ⟨(modF n1 (j : Int)).toNat, by omega⟩
              rw [ht] at t2
              have hcap := HOWN.out.le_cap
              have htk := mono_take (n := t) (by decide) HVV.out HALL.out HK.out
              have hdt := HD5.out.take t (by omega)
              obtain ⟨l, hl⟩ : ∃ l, leastS 32 (rs.take t) v = l := ⟨_, rfl⟩
              rw [hl] at htk
              have HT := Lib.hid ht
              have HDT := Lib.hid hdt
              have HL := Lib.hid hl
              clear ht hdt hl t1 hd5
              go_wp2_with fail
              refine (mod_is HT.out _ (by omega)).mono ?_
              rintro e w' ⟨rfl, rfl⟩
              go_wp2_with fail
              refine (least_any _ _ _ _ (rs.take t) _ _ HDT.out).mono ?_
              rintro e w' ⟨rfl, rfl⟩
              rw [HL.out]
              go_wp2_with fail
              go_ret
              exact ⟨rfl, HG1.out.trans (HG.out.trans HG4.out)⟩
      · go_wp2_with fail
        have hd5 := HD5.out
        go_loop [12] (fun i => ∃ q : Int, k ≤ q ∧ q ≤ 32 + 1 ∧ i = .int .i64 q) (fun i => (32 + 1 - intOf i).toNat)
        case atStart => exact ⟨k, by omega, by omega, rfl⟩
        case round =>
          obtain ⟨q, q1, q2, rfl⟩ := hrel
          by_cases hq : q ≤ 32
          · have hup := mono_up (i := q) (by decide) HVV.out HALL.out HK.out q1 hq
            have HUP := Lib.hid hup
            clear hup
            go_wp2_with fail
            refine (fits_any _ _ _ _ rs _ _ _ HD5.out).mono ?_
            rintro e w' ⟨rfl, rfl⟩
            rw [HUP.out]
            go_wp2_with fail
            go_round
            case rel => exact ⟨q + 1, by omega, by omega, rfl⟩
            case measure => simp [intOf]; omega
          · by_cases hL0 : j = 0
            · have hrs0 : rs = [] := List.eq_nil_of_length_eq_zero (by rw [HD5.out.1, hL0])
              have hk3 : k = 3 := by rw [← HK.out, hrs0]; exact mono_nil (by decide) HVV.out
              have hb : ((j : Int) == 0) = true := by simp; omega
              have hb2 : (k == 3) = true := by simp; omega
              clear hd5
              go_wp2_with fail
              go_ret
              exact ⟨rfl, HG1.out.trans (HG.out.trans HG4.out)⟩
            · have hb : ((j : Int) == 0) = false := by simp; omega
              have cn1 := (HG.out.trans HG4.out).cell HC1.out
              have t1 := modF_lo n1 (j : Int)
              have t2 := modF_hi n1 (j : Int) (by omega)
              obtain ⟨t, ht⟩ : ∃ t : Nat, modF n1 (j : Int) = t := ⟨(modF n1 (j : Int)).toNat, by omega⟩
              rw [ht] at t2
              have hcap := HOWN.out.le_cap
              have htk := mono_take (n := t) (by decide) HVV.out HALL.out HK.out
              have hdt := HD5.out.take t (by omega)
              obtain ⟨l, hl⟩ : ∃ l, leastS 32 (rs.take t) v = l := ⟨_, rfl⟩
              rw [hl] at htk
              have HT := Lib.hid ht
              have HDT := Lib.hid hdt
              have HL := Lib.hid hl
              clear ht hdt hl t1 hd5
              go_wp2_with fail
              refine (mod_is HT.out _ (by omega)).mono ?_
              rintro e w' ⟨rfl, rfl⟩
              go_wp2_with fail
              refine (least_any _ _ _ _ (rs.take t) _ _ HDT.out).mono ?_
              rintro e w' ⟨rfl, rfl⟩
              rw [HL.out]
              go_wp2_with fail
              go_ret
              exact ⟨rfl, HG1.out.trans (HG.out.trans HG4.out)⟩
end Go.Proofs.Ytinkllejjilenaa
