/- Layer 29 (harq): agrees. -/
import Derived.Test.YtcleegibdcphiaaDoorHarW
import Derived.Test.YtcleegibdcphiaaDoorRawE
namespace Go.Proofs.YtcleegibdcphiaaDoor
open Go.ChangeShapes Go.WideShapes Go.ChangeAt Go.RowKit
open Cod

set_option maxRecDepth 20000 in
set_option maxHeartbeats 1000000 in
theorem agrees_yes (a : Option Addr) (n cap : Nat) (xs : List Int) (b : Option Addr) (m c : Nat) (S : List Int) (w : World) (hr : Rd .u8 w a n xs) (h1 : 1 ≤ n) (h2 : n ≤ 256) (hs : Rd .i64 w b m S) (hm : totN n = m)
    (hag : ∀ p, p < (enc (wordL xs)).length → (0 < S[p]?.getD 0 → (enc (wordL xs))[p]?.getD 0 = 0) ∧ (S[p]?.getD 0 < 0 → (enc (wordL xs))[p]?.getD 0 = 1)) :
    Calls Tryd.prog 34 #[.slice a n cap, .slice b m c] w fun e w' => e = .returned (.bool true) ∧ Gr w w' := by
  have hxl := hr.1
  have HR := Lib.hid hr
  have HS := Lib.hid hs
  have HM := Lib.hid hm
  have HAG := Lib.hid hag
  have HXL := Lib.hid hxl
  clear hr hs hag hxl hm
  go_enter Tryd.func34, Tryd.ntmps34
  go_wp2_with fail
  refine (rhword_any a n cap xs w HR.out (by omega)).mono ?_
  rintro e w1 ⟨a1, c1, rfl, ho1, hg1⟩
  have HO1 := Lib.hid ho1
  have HG1 := Lib.hid hg1
  clear ho1 hg1
  go_wp2_with fail
  refine (rencode_any a1 (8 * n + 16) c1 (wordL xs) w1 HO1.out.rd (by omega) (by omega)).mono ?_
  rintro e w2 ⟨hy, -⟩
  obtain ⟨a2, n2, c2, rfl, hr2, hg2⟩ := hy (wordL_bits xs)
  obtain ⟨C, hC⟩ : ∃ C, enc (wordL xs) = C := ⟨_, rfl⟩
  have hCb : isBits C := by rw [← hC]; exact encW_bits xs
  have hCl : C.length = m := by rw [← hC, encW_len, HXL.out, HM.out]
  rw [hC] at hr2
  have hn2 : n2 = m := by rw [← hr2.1, hCl]
  subst hn2
  have hag := HAG.out
  rw [hC] at hag
  have HAG2 := Lib.hid hag
  have HC2 := Lib.hid hr2
  have HCB := Lib.hid hCb
  have HCL := Lib.hid hCl
  have HG2 := Lib.hid (HG1.out.trans hg2)
  have HS2 := Lib.hid (rd_gr HS.out (HG1.out.trans hg2))
  have hmm : n2 ≤ 5000 := by have := HM.out; unfold totN at this; omega
  clear hr2 hg2 hC hCb hCl hag hy HAG
  go_wp2_with fail
  go_loop [7] (fun i => ∃ k : Nat, k ≤ n2 ∧ i = .int .i64 k) (fun i => n2 - (intOf i).toNat)
  case atStart => exact ⟨0, by omega, rfl⟩
  case round =>
    obtain ⟨k, hk, rfl⟩ := hrel
    by_cases hlt : k < n2
    · obtain ⟨b1, o1, e1, _, hc1⟩ := HS2.out.some (by omega)
      obtain ⟨b2, o2, e2, _, hc2⟩ := HC2.out.some (by omega)
      subst e1 e2
      have d1 := hc1 k hlt
      have d2 := hc2 k hlt
      obtain ⟨g1, g2⟩ := HAG2.out k (by rw [HCL.out]; exact hlt)
      obtain ⟨s, hs⟩ : ∃ s, S[k]?.getD 0 = s := ⟨_, rfl⟩
      obtain ⟨x, hx⟩ : ∃ x, C[k]?.getD 0 = x := ⟨_, rfl⟩
      rw [hs] at d1 g1 g2
      rw [hx] at d2 g1 g2
      clear hs hx hc1 hc2
      by_cases hp : 0 < s
      · obtain rfl : x = 0 := g1 hp
        clear g1 g2
        go_wp2_with fail
        go_round
        case rel => exact ⟨k + 1, by omega, by go_num⟩
        case measure => (simp [intOf] <;> omega)
      · by_cases hn : s < 0
        · obtain rfl : x = 1 := g2 hn
          clear g1 g2
          go_wp2_with fail
          go_round
          case rel => exact ⟨k + 1, by omega, by go_num⟩
          case measure => (simp [intOf] <;> omega)
        · obtain rfl : s = 0 := by omega
          clear g1 g2 hp hn
          go_wp2_with fail
          go_round
          case rel => exact ⟨k + 1, by omega, by go_num⟩
          case measure => (simp [intOf] <;> omega)
    · obtain rfl : k = n2 := by omega
      go_wp2_with fail
      go_ret
      exact ⟨rfl, HG2.out⟩
end Go.Proofs.YtcleegibdcphiaaDoor
