/- The law CodeDecodes (layer 28): its walk. -/
import Derived.Test.YtbdbllagbifkgaaRefDec
import Derived.Test.YtbdbllagbifkgaaCodeLaws
namespace Go.Proofs.Ytbdbllagbifkgaa
open Go.ChangeShapes Go.WideShapes Go.ChangeAt Go.RowKit
open Cod

def clip8 (x : Int) : Int := if -127 < x then x else -127
def SoftR (w : World) (zs : List Int) (m : Nat) (s i : Value) (wr : World) : Prop := ∃ (a' : Option Addr) (cap' j : Nat), j ≤ m ∧ s = .slice a' j cap' ∧ i = .int .i64 j ∧ OwnI w.heap.size 3 .i64 wr a' j cap' ((zs.take j).map clip8) ∧ Gr w wr ∧ Follows w (.slice none 0 0) (.slice a' j cap')
set_option maxRecDepth 100000 in
set_option maxHeartbeats 2000000 in
theorem decodes_walk (a : Option Addr) (len cap : Nat) (zs : List Int) (w : World) (hr : Rd .i8 w a len zs) : Calls Try.prog 3 #[.slice a len cap] w fun e w' => e = .returned (.bool true) ∧ Gr w w' := by
  have hm := hr.2.2.1
  simp only [maxLen] at hm
  have HR := Lib.hid hr
  have HZL := Lib.hid hr.1
  clear hr
  by_cases hn : 3 ≤ len / 2 ∧ len / 2 ≤ 122
  rotate_left
  · obtain ⟨N, hN⟩ : ∃ N : Int, (len : Int) / 2 = N := ⟨_, rfl⟩
    have hN2 : N < 3 ∨ 122 < N := by omega
    rcases hN2 with h | h
    · go_enter Try.func3, Try.ntmps3
      go_wp2_with fail
      refine (awake28 w).mono ?_
      rintro e w2 ⟨rfl, hg2⟩
      have HG2 := Lib.hid hg2
      clear hg2
      go_wp2_with fail
      go_ret
      exact ⟨rfl, HG2.out⟩
    · go_enter Try.func3, Try.ntmps3
      go_wp2_with fail
      refine (awake28 w).mono ?_
      rintro e w2 ⟨rfl, hg2⟩
      have HG2 := Lib.hid hg2
      clear hg2
      go_wp2_with fail
      go_ret
      exact ⟨rfl, HG2.out⟩
  obtain ⟨hn1, hn2⟩ := hn
  obtain ⟨n, hnn⟩ : ∃ n : Nat, len / 2 = n + 2 := ⟨len / 2 - 2, by omega⟩
  have hN : (len : Int) / 2 = (n : Int) + 2 := by omega
  have hNn : (n : Int) + 2 - 2 = (n : Int) := by omega
  have h1 : 1 ≤ n := by omega
  have h2 : n ≤ 120 := by omega
  have hml : 2 * (n + 2) ≤ len := by omega
  clear hn1 hn2 hnn
  go_enter Try.func3, Try.ntmps3
  go_wp2_with fail
  go_loopw [4, 5] (fun s i wr => SoftR w zs (2 * (n + 2)) s i wr) (fun _ i _ => 2 * (n + 2) - (intOf i).toNat)
  case atStart => exact ⟨none, 0, 0, by omega, rfl, rfl, OwnI.nil _ _ _ _, Gr.refl _, Follows.refl _ _⟩
  case round =>
    obtain ⟨a', cap', j, hj, rfl, rfl, ho, hg, hf⟩ := hrel
    have HO := Lib.hid ho
    have HG := Lib.hid hg
    have HF := Lib.hid hf
    clear ho hg hf
    by_cases hlt : j < 2 * (n + 2)
    · obtain ⟨b2, o2, e2, _, hc2⟩ := HR.out.some (by omega)
      subst e2
      have ck := HG.out.cell (hc2 j (by omega))
      have hxw := HR.out.2.1 (zs[j]?.getD 0) (by have := HZL.out; simp [show j < zs.length by omega])
      obtain ⟨x, hxx⟩ : ∃ x, zs[j]?.getD 0 = x := ⟨_, rfl⟩
      rw [hxx] at ck hxw
      have hxr : -128 ≤ x ∧ x ≤ 127 := by
        simpa [Lit.wf, IntKind.min, IntKind.max, IntKind.signed, IntKind.bits] using hxw
      obtain ⟨x1, x2⟩ := hxr
      have HXX := Lib.hid hxx
      clear hxx hc2 hxw
      obtain ⟨y, hy⟩ : ∃ y, (if -127 < x then x else -127) = y := ⟨_, rfl⟩
      have hyr : -127 ≤ y ∧ y ≤ 127 := by rw [← hy]; split <;> omega
      obtain ⟨y1, y2⟩ := hyr
      have HY := Lib.hid (show clip8 x = y from hy)
      have hrd := rd_new (k := .i64) (w := wr) [y] 3 (0, 0) 1 rfl (by simp [maxLen]) (by intro z hz; simp at hz; subst hz; exact WalkArith.wf_i64 (by constructor <;> omega))
      obtain ⟨a2, c2, w2, hrun, ho2, hg2, hf2⟩ := app_i64 w.heap.size (wr.alloc (.cells ([y].map (Value.int .i64)).toArray 3)) a' j cap' _ (HO.out.stay (World.grownBy_alloc _ _ _)) (some ⟨wr.heap.size, 0, none⟩) 1 1 _ hrd (by omega) (by have := HG.out.size; simp; omega)
      simp only [List.map_cons, List.map_nil] at hrun hg2 hf2
      have htk : (zs.take (j + 1)).map clip8 = (zs.take j).map clip8 ++ [y] := by
        rw [take_one zs j (by rw [HZL.out]; omega), HXX.out, List.map_append]
        simp [HY.out]
      rw [← htk] at ho2
      have HRR := Lib.hid hrun
      have HO2 := Lib.hid ho2
      have HRG := Lib.hid (round_grown (v := .slice none 0 0) HG.out HF.out hg2 hf2)
      clear hrun hrd ho2 hg2 hf2 htk
      go_wp2_with (at_builtin; refine wpList_app rfl _ _ _ rfl rfl rfl HRR.out ?_)
      go_roundw
      case rel => exact ⟨a2, c2, j + 1, by omega, rfl, rfl, HO2.out, HRG.out.1, HRG.out.2⟩
      case measure => (simp [intOf] <;> omega)
    · obtain rfl : j = 2 * (n + 2) := by omega
      obtain ⟨S, hS⟩ : ∃ S, (zs.take (2 * (n + 2))).map clip8 = S := ⟨_, rfl⟩
      have ho := HO.out
      rw [hS] at ho
      have hso : softOk S := by
        intro x hx
        rw [← hS] at hx
        simp only [List.mem_map] at hx
        obtain ⟨z, hz, rfl⟩ := hx
        have hw := HR.out.2.1 z (List.mem_of_mem_take hz)
        have hxr : -128 ≤ z ∧ z ≤ 127 := by simpa [Lit.wf, IntKind.min, IntKind.max, IntKind.signed, IntKind.bits] using hw
        unfold clip8
        split <;> omega
      have hcp : 2 * (n + 2) ≤ cap' := by
        rcases ho.row.2 with ⟨_, h0⟩ | ⟨g, cap2, cur, hv, _, _, hnc, _⟩
        · omega
        · injection hv with e1 e2 e3
          omega
      have HSO := Lib.hid hso
      have HRS := Lib.hid ho.rd
      have hlz : decide ((2 : Int) * ((n : Int) + 2) < 2 * ((n : Int) + 2)) = false := by rw [decide_eq_false_iff_not]; omega
      clear ho hS hso HO
      go_wp2_with fail
      refine (decode_yes a' n cap' S wr HRS.out HSO.out h1 (by omega) hcp).mono ?_
      rintro e w2 ⟨a2, c2, rfl, hr2, hg2⟩
      have HR2 := Lib.hid hr2
      have HRS2 := Lib.hid (HRS.out.kept hg2)
      have HG2 := Lib.hid (HG.out.trans hg2)
      clear hr2 hg2
      go_wp2_with fail
      refine (rdecode_yes a' n cap' S w2 HRS2.out HSO.out h1 (by omega)).mono ?_
      rintro e w3 ⟨a3, c3, rfl, hr3, hg3⟩
      have HR3 := Lib.hid hr3
      have HR23 := Lib.hid (HR2.out.kept hg3)
      have HG3 := Lib.hid (HG2.out.trans hg3)
      clear hr3 hg3
      obtain ⟨D, hD⟩ : ∃ D, dec n S 0 = D := ⟨_, rfl⟩
      have hr3 := HR3.out
      have hr23 := HR23.out
      rw [hD] at hr3 hr23
      have HA := Lib.hid hr3
      have HB := Lib.hid hr23
      clear hr3 hr23 hD
      go_wp2_with fail
      refine (same_ints _ _ _ _ _ _ D D w3 HB.out HA.out).mono ?_
      rw [decide_eq_true (rfl : D = D)]
      rintro e w4 ⟨rfl, hg4⟩
      have HG4 := Lib.hid (HG3.out.trans hg4)
      clear hg4
      go_wp2_with fail
      refine (awake28 w4).mono ?_
      rintro e w5 ⟨rfl, hg5⟩
      have HG5 := Lib.hid (HG4.out.trans hg5)
      clear hg5
      go_wp2_with fail
      go_ret
      exact ⟨rfl, HG5.out⟩
theorem decodes_fit (a : Option Addr) (len cap : Nat) (zs : List Int) (w : World) (hr : Rd .i8 w a len zs) (_hc : len ≤ cap) (_hL : len ≤ 140737488351232) :
    Calls Try.prog 3 #[.slice a len cap] w fun e w' => e = .returned (.bool true) ∧ Below w.heap.size w w' :=
  (decodes_walk a len cap zs w hr).mono fun _ _ ⟨he, hg⟩ => ⟨he, Below.of_none hg⟩
end Go.Proofs.Ytbdbllagbifkgaa
