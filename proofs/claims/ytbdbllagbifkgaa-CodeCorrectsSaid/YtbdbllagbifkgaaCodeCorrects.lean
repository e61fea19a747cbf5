/- The law CodeCorrects: its walk. -/
import Derived.Test.YtbdbllagbifkgaaCodeShorter
import Derived.Test.YtbdbllagbifkgaaCodeCorr
import Derived.Deep.Cut
namespace Go.Proofs.Ytbdbllagbifkgaa
open Go.ChangeShapes Go.WideShapes Go.ChangeAt Go.RowKit
open Cod

theorem rd_one {w : World} (x : Int) (e : TypeId) (fz : Nat × Nat) (h : i64 x) : Rd .i64 (w.alloc (.cells #[.int .i64 x] e fz)) (some ⟨w.heap.size, 0, none⟩) 1 [x] :=
  rd_new [x] e fz 1 rfl (by simp [maxLen]) (by intro y hy; simp at hy; subst hy; exact WalkArith.wf_i64 h)
theorem map_take_step (f : Int → Int) (l : List Int) (j : Nat) (h : j < l.length) : (l.take (j + 1)).map f = (l.take j).map f ++ [f (l[j]?.getD 0)] := by
  rw [take_one l j h, List.map_append]; rfl

def sg (g x : Int) : Int := g * (1 - 2 * x)
def SoftRel (w2 : World) (g : Int) (C : List Int) (N : Nat) (s i : Value) (wr : World) : Prop :=
  ∃ (a' : Option Addr) (cap' j : Nat), j ≤ N ∧ s = .slice a' j cap' ∧ i = .int .i64 j ∧ OwnI w2.heap.size 3 .i64 wr a' j cap' ((C.take j).map (sg g)) ∧ Gr w2 wr ∧ Follows w2 (.slice none 0 0) (.slice a' j cap')

set_option maxRecDepth 100000 in
set_option maxHeartbeats 1000000 in
theorem corrects_walk (a : Option Addr) (len cap : Nat) (bs : List Bool) (p q z : Int) (w : World) (hr : RdB w a len bs) (h1 : 1 ≤ len) (h2 : len ≤ 100) (hz : 0 ≤ z ∧ z ≤ 255) :
    Calls Try.prog 5 #[.slice a len cap, .int .i64 p, .int .i64 q, .int .u8 z] w fun e w' => e = .returned (.bool true) ∧ Gr w w' := by
  obtain ⟨z1, z2⟩ := hz
  have HR := Lib.hid hr
  have HL := Lib.hid hr.1
  clear hr
  go_enter Try.func5, Try.ntmps5
  go_wp2_with fail
  refine (bits28 a len cap bs w HR.out (by omega)).mono ?_
  rintro e w1 ⟨g1, rfl, ho1, hg1⟩
  have HG1 := Lib.hid hg1
  have HO1 := Lib.hid ho1
  clear hg1 ho1
  go_wp2_with fail
  refine (encode_yes _ len len (bs.map bi) w1 HO1.out.rd (bi_bits bs) (by omega) (by omega)).mono ?_
  rintro e w2 ⟨a2, c2, rfl, ho2, hg2⟩
  obtain ⟨C, hC⟩ : ∃ C, enc (bs.map bi) = C := ⟨_, rfl⟩
  have hrd2 := ho2.rd
  rw [hC] at hrd2
  have hcb : isBits C := by rw [← hC]; exact encS_bits _ _
  have HCL := Lib.hid hrd2.1
  have HC := Lib.hid hC
  have HCB := Lib.hid hcb
  have HRD2 := Lib.hid hrd2
  have HG2 := Lib.hid (HG1.out.trans hg2)
  have HB2 := Lib.hid (HO1.out.rd.kept hg2)
  obtain ⟨g, hgz⟩ : ∃ g, 1 + z % 127 = g := ⟨_, rfl⟩
  have gl : 1 ≤ g ∧ g ≤ 127 := by omega
  clear ho2 hg2 hC hcb hrd2
  have hb1 : ((2 * ((len : Int) + 2)) != 2 * ((len : Int) + 2)) = false := by simp
  go_wp2_with fail
  have HGZ := Lib.hid hgz
  obtain ⟨gl1, gl2⟩ := gl
  clear hgz hb1
  go_loopw [13, 14] (fun s i wr => SoftRel w2 g C (2 * (len + 2)) s i wr) (fun _ i _ => 2 * (len + 2) - (intOf i).toNat)
  case atStart => exact ⟨none, 0, 0, by omega, rfl, rfl, OwnI.nil _ _ _ _, Gr.refl _, Follows.refl _ _⟩
  case round =>
    obtain ⟨a', cap', j, hj, rfl, rfl, ho, hg, hf⟩ := hrel
    have HO := Lib.hid ho
    have HG := Lib.hid hg
    have HF := Lib.hid hf
    clear ho hg hf
    by_cases hlt : j < 2 * (len + 2)
    · obtain ⟨b2, o2, e2, _, hc2⟩ := HRD2.out.some (by omega)
      subst e2
      have ck := HG.out.cell (hc2 j hlt)
      have hxb := HCB.out (C[j]?.getD 0) (by have := HCL.out; simp [show j < C.length by omega])
      obtain ⟨x, hxx⟩ : ∃ x, C[j]?.getD 0 = x := ⟨_, rfl⟩
      rw [hxx] at ck hxb
      have HXX := Lib.hid hxx
      clear hxx hc2
      rcases hxb with rfl | rfl
      · have hyv : g = sg g 0 := by unfold sg; omega
        have htk := map_take_step (sg g) C j (by rw [HCL.out]; exact hlt)
        rw [HXX.out, ← hyv] at htk
        have hrd1 := rd_one (w := wr) (g) 3 (0, 0) (by constructor <;> omega)
        obtain ⟨a5, c5, w5, hrun5, ho5, hg5, hf5⟩ := app_i64 w2.heap.size (wr.alloc (.cells #[.int .i64 (g)] 3)) a' j cap' _ (HO.out.stay (World.grownBy_alloc _ _ _)) (some ⟨wr.heap.size, 0, none⟩) 1 1 _ hrd1 (by omega) (by have := HG.out.size; simp; omega)
        rw [← htk] at ho5
        have hrg := round_grown (v := .slice none 0 0) HG.out HF.out hg5 hf5
        have HR5 := Lib.hid hrun5
        have HO5 := Lib.hid ho5
        have HRG := Lib.hid hrg
        clear hrun5 ho5 hrg hg5 hf5 hrd1 htk hyv
        go_wp2_with (at_builtin; refine wpList_app rfl _ _ _ rfl rfl rfl HR5.out ?_)
        go_roundw
        case rel => exact ⟨a5, c5, j + 1, by omega, rfl, rfl, HO5.out, HRG.out.1, HRG.out.2⟩
        case measure => (simp [intOf] <;> omega)
      · have hyv : g - 2 * g = sg g 1 := by unfold sg; omega
        have htk := map_take_step (sg g) C j (by rw [HCL.out]; exact hlt)
        rw [HXX.out, ← hyv] at htk
        have hrd1 := rd_one (w := wr) (g - 2 * g) 3 (0, 0) (by constructor <;> omega)
        obtain ⟨a5, c5, w5, hrun5, ho5, hg5, hf5⟩ := app_i64 w2.heap.size (wr.alloc (.cells #[.int .i64 (g - 2 * g)] 3)) a' j cap' _ (HO.out.stay (World.grownBy_alloc _ _ _)) (some ⟨wr.heap.size, 0, none⟩) 1 1 _ hrd1 (by omega) (by have := HG.out.size; simp; omega)
        rw [← htk] at ho5
        have hrg := round_grown (v := .slice none 0 0) HG.out HF.out hg5 hf5
        have HR5 := Lib.hid hrun5
        have HO5 := Lib.hid ho5
        have HRG := Lib.hid hrg
        clear hrun5 ho5 hrg hg5 hf5 hrd1 htk hyv
        go_wp2_with (at_builtin; refine wpList_app rfl _ _ _ rfl rfl rfl HR5.out ?_)
        go_roundw
        case rel => exact ⟨a5, c5, j + 1, by omega, rfl, rfl, HO5.out, HRG.out.1, HRG.out.2⟩
        case measure => (simp [intOf] <;> omega)
    · obtain rfl : j = 2 * (len + 2) := by omega
      have ho := HO.out
      rw [List.take_of_length_le (by rw [HCL.out]; exact Nat.le_refl _)] at ho
      obtain ⟨S0, hS0⟩ : ∃ S, C.map (sg g) = S := ⟨_, rfl⟩
      rw [hS0] at ho
      have hsg := signed_map g C
      rw [show (C.map fun x => g * (1 - 2 * x)) = S0 from hS0] at hsg
      have hl0 := ho.len
      obtain ⟨gg, rfl, hgB, hglt, -, -⟩ := ho.some (by omega)
      have m1 := modF_lo p ((2 * (len + 2) : Nat) : Int)
      have m2 := modF_hi p ((2 * (len + 2) : Nat) : Int) (by omega)
      have m3 := modF_lo q ((2 * (len + 2) : Nat) : Int)
      have m4 := modF_hi q ((2 * (len + 2) : Nat) : Int) (by omega)
      obtain ⟨I, hI⟩ : ∃ I : Nat, modF p ((2 * (len + 2) : Nat) : Int) = I := ⟨(modF p ((2 * (len + 2) : Nat) : Int)).toNat, by omega⟩
      obtain ⟨K, hK⟩ : ∃ K : Nat, modF q ((2 * (len + 2) : Nat) : Int) = K := ⟨(modF q ((2 * (len + 2) : Nat) : Int)).toNat, by omega⟩
      rw [hI] at m2
      rw [hK] at m4
      have hI2 : I < 2 * (len + 2) := by omega
      have hK2 : K < 2 * (len + 2) := by omega
      push_cast at hI hK
      have HI := Lib.hid hI
      have HK := Lib.hid hK
      have hs1 := signed_set g S0 C I hsg.1 (by rw [hl0]; exact hI2)
      rw [hsg.2] at hs1
      have hso0 := signed_soft (by omega) gl2 S0 C hsg.1 HCB.out
      obtain ⟨x1, hx1⟩ : ∃ x, S0[I]?.getD 0 = x := ⟨_, rfl⟩
      have hx1r := hso0 (S0[I]?.getD 0) (by simp [show I < S0.length by omega])
      rw [hx1] at hs1 hx1r
      obtain ⟨hx1a, hx1b⟩ := hx1r
      obtain ⟨c1, f1⟩ := ho.at I hI2
      rw [hx1] at c1
      have HS1 := Lib.hid hs1
      have HO0 := Lib.hid ho
      clear ho hS0 hsg hl0 m1 m2 m3 m4 hI hK hs1 hso0 hx1
      go_wp2_with fail
      refine (rollmod_is HI.out _ (by omega)).mono ?_
      rintro e w' ⟨rfl, rfl⟩
      go_wp2_with fail
      refine (rollmod_is HK.out _ (by omega)).mono ?_
      rintro e w' ⟨rfl, rfl⟩
      go_upto_region 15 with (fail)
      have HO1 := Lib.hid (HO0.out.set I (-x1) (WalkArith.wf_i64 (by constructor <;> omega)))
      have HGW1 := Lib.hid (grown_set HG.out (a := ⟨gg, I, none⟩) hgB (.int .i64 (-x1)))
      obtain ⟨w5, hw5⟩ : ∃ y, y = wr.setCell ⟨gg, I, none⟩ (.int .i64 (-x1)) := ⟨_, rfl⟩
      rw [← hw5] at HO1 HGW1
      rw [← hw5]
      clear hw5 c1 f1
      by_cases hik : K = I
      · have hb2 : ((K : Int) != (I : Int)) = false := by simp; omega
        have hfl : nflip g (S0.set I (-x1)) C ≤ 2 := by have := HS1.out.2; omega
        have hsx := HS1.out.1
        have hso := signed_soft (by omega) gl2 (S0.set I (-x1)) C hsx HCB.out
        have hsx2 := hsx
        have hfl2 := hfl
        rw [← HC.out] at hsx2 hfl2
        have hdec := dec_two (g := g) (n := len) (r := (S0.set I (-x1))) (b := bs.map bi) (by omega) HO1.out.len hso (by omega) (bi_bits bs) (by rw [List.length_map, HL.out]) hsx2 hfl2
        have HDEC := Lib.hid hdec
        have HSO := Lib.hid hso
        have hcap := own_le_cap HO1.out
        clear hsx hfl hsx2 hfl2 hdec hso
        go_wp2_with fail
        refine (decode_yes _ len _ (S0.set I (-x1)) w5 HO1.out.rd HSO.out h1 (by omega) hcap).mono ?_
        rintro e w6 ⟨a6, c6, rfl, hr6, hg6⟩
        rw [HDEC.out] at hr6
        have HR6 := Lib.hid hr6
        have HGX := Lib.hid (HGW1.out.trans hg6)
        have HB6 := Lib.hid (HB2.out.kept (HGW1.out.trans hg6))
        clear hr6 hg6
        go_wp2_with fail
        refine (same_yes _ _ _ _ _ _ _ _ _ HR6.out HB6.out rfl).mono ?_
        rintro e w7 ⟨rfl, hg7⟩
        have HG7 := Lib.hid hg7
        clear hg7
        go_wp2_with fail
        refine (awake28 _).mono ?_
        rintro e w9 ⟨rfl, hg9⟩
        have HG9 := Lib.hid hg9
        clear hg9
        go_wp2_with fail
        go_ret
        exact ⟨rfl, HG2.out.trans (HGX.out.trans (HG7.out.trans HG9.out))⟩
      · have hb2 : ((K : Int) != (I : Int)) = true := by simp; omega
        have hs2 := signed_set g (S0.set I (-x1)) C K HS1.out.1 (by rw [List.length_set, HO0.out.len]; exact hK2)
        have hso1 := signed_soft (by omega) gl2 (S0.set I (-x1)) C HS1.out.1 HCB.out
        obtain ⟨x2, hx2⟩ : ∃ x, (S0.set I (-x1))[K]?.getD 0 = x := ⟨_, rfl⟩
        have hx2r := hso1 ((S0.set I (-x1))[K]?.getD 0) (by have hk : K < (S0.set I (-x1)).length := (by rw [HO1.out.len]; exact hK2); rw [List.getElem?_eq_getElem hk]; exact List.getElem_mem hk)
        rw [hx2] at hs2 hx2r
        obtain ⟨hx2a, hx2b⟩ := hx2r
        obtain ⟨c2, f2⟩ := HO1.out.at K hK2
        rw [hx2] at c2
        have hfl : nflip g ((S0.set I (-x1)).set K (-x2)) C ≤ 2 := by have := HS1.out.2; have := hs2.2; omega
        have hsx := hs2.1
        have HFL := Lib.hid hfl
        have HSX := Lib.hid hsx
        clear hs2 hso1 hx2 hfl hsx
        go_upto_region 17 with (fail)
        have HO2 := Lib.hid (HO1.out.set K (-x2) (WalkArith.wf_i64 (by constructor <;> omega)))
        have HGW2 := Lib.hid (grown_set HGW1.out (a := ⟨gg, K, none⟩) hgB (.int .i64 (-x2)))
        obtain ⟨w8, hw8⟩ : ∃ y, y = w5.setCell ⟨gg, K, none⟩ (.int .i64 (-x2)) := ⟨_, rfl⟩
        rw [← hw8] at HO2 HGW2
        rw [← hw8]
        clear hw8 c2 f2
        have hfl := HFL.out
        have hsx := HSX.out
        have hso := signed_soft (by omega) gl2 ((S0.set I (-x1)).set K (-x2)) C hsx HCB.out
        have hsx2 := hsx
        have hfl2 := hfl
        rw [← HC.out] at hsx2 hfl2
        have hdec := dec_two (g := g) (n := len) (r := ((S0.set I (-x1)).set K (-x2))) (b := bs.map bi) (by omega) HO2.out.len hso (by omega) (bi_bits bs) (by rw [List.length_map, HL.out]) hsx2 hfl2
        have HDEC := Lib.hid hdec
        have HSO := Lib.hid hso
        have hcap := own_le_cap HO2.out
        clear hsx hfl hsx2 hfl2 hdec hso
        go_wp2_with fail
        refine (decode_yes _ len _ ((S0.set I (-x1)).set K (-x2)) w8 HO2.out.rd HSO.out h1 (by omega) hcap).mono ?_
        rintro e w6 ⟨a6, c6, rfl, hr6, hg6⟩
        rw [HDEC.out] at hr6
        have HR6 := Lib.hid hr6
        have HGX := Lib.hid (HGW2.out.trans hg6)
        have HB6 := Lib.hid (HB2.out.kept (HGW2.out.trans hg6))
        clear hr6 hg6
        go_wp2_with fail
        refine (same_yes _ _ _ _ _ _ _ _ _ HR6.out HB6.out rfl).mono ?_
        rintro e w7 ⟨rfl, hg7⟩
        have HG7 := Lib.hid hg7
        clear hg7
        go_wp2_with fail
        refine (awake28 _).mono ?_
        rintro e w9 ⟨rfl, hg9⟩
        have HG9 := Lib.hid hg9
        clear hg9
        go_wp2_with fail
        go_ret
        exact ⟨rfl, HG2.out.trans (HGX.out.trans (HG7.out.trans HG9.out))⟩
theorem corrects_no (a : Option Addr) (len cap : Nat) (p q z : Int) (w : World) (h : len < 1 ∨ 100 < len) (hm : len ≤ 9223372036854775807) :
    Calls Try.prog 5 #[.slice a len cap, .int .i64 p, .int .i64 q, .int .u8 z] w fun e w' => e = .returned (.bool true) ∧ Gr w w' := by
  rcases h with h | h
  all_goals
    go_enter Try.func5, Try.ntmps5
    go_wp2_with fail
    refine (awake28 _).mono ?_
    rintro e w1 ⟨rfl, hg⟩
    have HG := Lib.hid hg
    clear hg
    go_wp2_with fail
    go_ret
    exact ⟨rfl, HG.out⟩
theorem corrects_fit (a : Option Addr) (len cap : Nat) (bs : List Bool) (p q z : Int) (w : World) (hr : RdB w a len bs) (_hc : len ≤ cap) (_hL : len ≤ 140737488351232) (_hp : i64 p) (_hq : i64 q) (hz : 0 ≤ z ∧ z ≤ 255) :
    Calls Try.prog 5 #[.slice a len cap, .int .i64 p, .int .i64 q, .int .u8 z] w fun e w' => e = .returned (.bool true) ∧ Below w.heap.size w w' := by
  have key : Calls Try.prog 5 #[.slice a len cap, .int .i64 p, .int .i64 q, .int .u8 z] w fun e w' => e = .returned (.bool true) ∧ Gr w w' := by
    by_cases h : len < 1 ∨ 100 < len
    · exact corrects_no a len cap p q z w h (by omega)
    · exact corrects_walk a len cap bs p q z w hr (by omega) (by omega) hz
  exact key.mono fun _ _ ⟨he, hg⟩ => ⟨he, Below.of_none hg⟩
end Go.Proofs.Ytbdbllagbifkgaa
