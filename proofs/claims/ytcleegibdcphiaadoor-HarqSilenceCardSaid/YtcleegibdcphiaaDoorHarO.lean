/- Layer 29 (harq): soft bits in their range, announcements, equality of lists. -/
import Derived.Test.YtcleegibdcphiaaDoorHarM
import Derived.Test.YtcleegibdcphiaaDoorHarF
namespace Go.Proofs.YtcleegibdcphiaaDoor
open Go.ChangeShapes Go.WideShapes Go.ChangeAt Go.RowKit
open Cod

theorem clip_lo {n : Int} (h : n < -127) : clipI n = -127 := by unfold clipI; rw [if_pos h]
theorem clip_hi {n : Int} (h : 127 < n) : clipI n = 127 := by unfold clipI; rw [if_neg (by omega), if_pos h]
theorem clip_any (n : Int) (w : World) : Calls Tryd.prog 51 #[.int .i64 n] w fun e w' => e = .returned (.int .i64 (clipI n)) ∧ w = w' := by
  obtain ⟨R, hR⟩ : ∃ R, clipI n = R := ⟨_, rfl⟩
  rw [hR]
  have HR := Lib.hid hR
  clear hR
  go_enter Tryd.func51, Tryd.ntmps51
  by_cases h1 : n < -127
  · have hv := HR.out
    rw [clip_lo h1] at hv
    subst hv
    go_wp2_with fail
    go_ret
    exact ⟨rfl, rfl⟩
  · by_cases h2 : 127 < n
    · have hv := HR.out
      rw [clip_hi h2] at hv
      subst hv
      go_wp2_with fail
      go_ret
      exact ⟨rfl, rfl⟩
    · have hv := HR.out
      rw [clipI_in (by omega)] at hv
      subst hv
      by_cases h3 : n = 127
      · subst h3
        go_wp2_with fail
        go_ret
        exact ⟨rfl, rfl⟩
      by_cases h4 : n = -127
      · subst h4
        go_wp2_with fail
        go_ret
        exact ⟨rfl, rfl⟩
      go_wp2_with fail
      go_ret
      exact ⟨rfl, rfl⟩
theorem rclip_any (n : Int) (w : World) : Calls Tryd.prog 57 #[.int .i64 n] w fun e w' => e = .returned (.int .i64 (clipI n)) ∧ w = w' := by
  obtain ⟨R, hR⟩ : ∃ R, clipI n = R := ⟨_, rfl⟩
  rw [hR]
  have HR := Lib.hid hR
  clear hR
  go_enter Tryd.func57, Tryd.ntmps57
  by_cases h1 : n < -127
  · have hv := HR.out
    rw [clip_lo h1] at hv
    subst hv
    go_wp2_with fail
    go_ret
    exact ⟨rfl, rfl⟩
  · by_cases h2 : 127 < n
    · have hv := HR.out
      rw [clip_hi h2] at hv
      subst hv
      go_wp2_with fail
      go_ret
      exact ⟨rfl, rfl⟩
    · have hv := HR.out
      rw [clipI_in (by omega)] at hv
      subst hv
      by_cases h3 : n = 127
      · subst h3
        go_wp2_with fail
        go_ret
        exact ⟨rfl, rfl⟩
      by_cases h4 : n = -127
      · subst h4
        go_wp2_with fail
        go_ret
        exact ⟨rfl, rfl⟩
      go_wp2_with fail
      go_ret
      exact ⟨rfl, rfl⟩
def okB (x : Int) : Bool := decide (clipI x = x)
def softB (xs : List Int) : Bool := xs.all okB
theorem okB_iff (x : Int) : okB x = true ↔ -127 ≤ x ∧ x ≤ 127 := by
  unfold okB
  rw [decide_eq_true_iff]
  constructor
  · intro h; rw [← h]; exact clipI_rng x
  · exact clipI_in
theorem softB_iff (xs : List Int) : softB xs = true ↔ softOk xs := by
  unfold softB softOk
  rw [List.all_eq_true]
  exact forall_congr' fun x => imp_congr_right fun _ => okB_iff x
theorem softB_take {xs : List Int} {k : Nat} (h : k < xs.length) : softB (xs.take (k + 1)) = (softB (xs.take k) && okB (xs[k]?.getD 0)) := by
  unfold softB
  rw [take_one xs k h, List.all_append]
  simp
theorem softB_no {xs : List Int} {k : Nat} (h : k < xs.length) (hx : okB (xs[k]?.getD 0) = false) : softB xs = false := by
  unfold softB
  rw [List.all_eq_false]
  refine ⟨xs[k]?.getD 0, ?_, by simp [hx]⟩
  rw [List.getElem?_eq_getElem h]
  exact List.getElem_mem h
theorem within1_any (n : Int) (w : World) : Calls Tryd.prog 66 #[.int .i64 n] w fun e w' => e = .returned (.bool (! okB n)) ∧ w = w' := by
  obtain ⟨c, hc⟩ : ∃ c, clipI n = c := ⟨_, rfl⟩
  unfold okB
  rw [hc]
  have HC := Lib.hid hc
  clear hc
  go_enter Tryd.func66, Tryd.ntmps66
  go_wp2_with fail
  refine (clip_any n w).mono ?_
  rw [HC.out]
  rintro e w' ⟨rfl, rfl⟩
  by_cases h : c = n
  · subst h
    go_wp2_with fail
    go_ret
    exact ⟨by simp, rfl⟩
  · have hb : (c != n) = true := by simpa using h
    go_wp2_with fail
    go_ret
    exact ⟨by simp [h], rfl⟩
theorem indexf_any (a : Option Addr) (len cap : Nat) (xs : List Int) (w : World) (hr : Rd .i64 w a len xs) :
    Calls Tryd.prog 74 #[.slice a len cap, .func (Fn.func 66) #[] #[]] w fun e w' => (∃ i : Int, e = .returned (.int .i64 i) ∧ (decide (0 ≤ i) = ! softB xs)) ∧ w = w' := by
  have HR := Lib.hid hr
  have HL := Lib.hid hr.1
  have hm := hr.2.2.1
  simp only [maxLen] at hm
  clear hr
  go_enter Tryd.func74, Tryd.ntmps74
  go_wp2_with fail
  go_loop [8] (fun i => ∃ k : Nat, k ≤ len ∧ i = .int .i64 k ∧ softB (xs.take k) = true) (fun i => len - (intOf i).toNat)
  case atStart => exact ⟨0, by omega, rfl, rfl⟩
  case round =>
    obtain ⟨k, hk, rfl, hs⟩ := hrel
    have HS := Lib.hid hs
    clear hs
    by_cases hlt : k < len
    · obtain ⟨b, off, ea, _, hc⟩ := HR.out.some (by omega)
      subst ea
      have ck := hc k hlt
      have htk := softB_take (xs := xs) (k := k) (by rw [HL.out]; exact hlt)
      have hno := softB_no (xs := xs) (k := k) (by rw [HL.out]; exact hlt)
      obtain ⟨x, hx⟩ : ∃ x, xs[k]?.getD 0 = x := ⟨_, rfl⟩
      rw [hx] at ck htk hno
      obtain ⟨B, hB⟩ : ∃ B, okB x = B := ⟨_, rfl⟩
      rw [hB] at htk hno
      have HB := Lib.hid hB
      have HTK := Lib.hid htk
      have HNO := Lib.hid hno
      clear hc hx hB htk hno
      go_wp2_with fail
      refine (within1_any x w).mono ?_
      rw [HB.out]
      rintro e w' ⟨rfl, rfl⟩
      cases B
      · go_wp2_with fail
        go_ret
        exact ⟨⟨_, rfl, by rw [show softB xs = false by simpa using HNO.out]; simp⟩, rfl⟩
      · go_wp2_with fail
        go_round
        case rel => exact ⟨k + 1, by omega, by go_num, by rw [HTK.out, HS.out]; rfl⟩
        case measure => (simp [intOf] <;> omega)
    · obtain rfl : k = len := by omega
      have hs := HS.out
      rw [List.take_of_length_le (by rw [HL.out]; exact Nat.le_refl _)] at hs
      have HS2 := Lib.hid hs
      clear hs
      go_wp2_with fail
      go_ret
      exact ⟨⟨_, rfl, by rw [HS2.out]; rfl⟩, rfl⟩
theorem containsf_any (a : Option Addr) (len cap : Nat) (xs : List Int) (w : World) (hr : Rd .i64 w a len xs) :
    Calls Tryd.prog 65 #[.slice a len cap, .func (Fn.func 66) #[] #[]] w fun e w' => e = .returned (.bool (! softB xs)) ∧ w = w' := by
  have HR := Lib.hid hr
  clear hr
  obtain ⟨B, hB⟩ : ∃ B, softB xs = B := ⟨_, rfl⟩
  rw [hB]
  have HB := Lib.hid hB
  clear hB
  go_enter Tryd.func65, Tryd.ntmps65
  go_wp2_with fail
  refine (indexf_any a len cap xs w HR.out).mono ?_
  rintro e w' ⟨⟨i, rfl, hi⟩, rfl⟩
  rw [HB.out] at hi
  cases B
  · have hi' : 0 ≤ i := by simpa using hi
    go_wp2_with fail
    go_ret
    exact ⟨by simp, rfl⟩
  · have hi' : i < 0 := by simpa using hi
    go_wp2_with fail
    go_ret
    exact ⟨by simp, rfl⟩
theorem within_any (a : Option Addr) (len cap : Nat) (xs : List Int) (w : World) (hr : Rd .i64 w a len xs) :
    Calls Tryd.prog 50 #[.slice a len cap] w fun e w' => e = .returned (.bool (softB xs)) ∧ w = w' := by
  have HR := Lib.hid hr
  clear hr
  obtain ⟨B, hB⟩ : ∃ B, softB xs = B := ⟨_, rfl⟩
  rw [hB]
  have HB := Lib.hid hB
  clear hB
  go_enter Tryd.func50, Tryd.ntmps50
  go_wp2_with fail
  refine (containsf_any a len cap xs w HR.out).mono ?_
  rw [HB.out]
  rintro e w' ⟨rfl, rfl⟩
  go_wp2_with fail
  go_ret
  exact ⟨by simp, rfl⟩
theorem length29_any (n : Int) (h : 0 ≤ n ∧ n ≤ 100000) (w : World) : Calls Tryd.prog 49 #[.int .i64 n] w fun e w' => e = .returned (.int .i64 (8 * n + 16)) ∧ w = w' := by
  go_enter Tryd.func49, Tryd.ntmps49
  go_wp2_with fail
  go_ret
  exact ⟨rfl, rfl⟩
def anB (a : An) : Bool := decide (0 ≤ a.proc ∧ a.proc < 4 ∧ 0 ≤ a.fresh ∧ a.fresh ≤ 1 ∧ 0 ≤ a.ver ∧ a.ver < 4) && (sizedB a.size && codedB a.coded)
theorem anB_no {a : An} (h : ¬ (0 ≤ a.proc ∧ a.proc < 4 ∧ 0 ≤ a.fresh ∧ a.fresh ≤ 1 ∧ 0 ≤ a.ver ∧ a.ver < 4)) : anB a = false := by
  unfold anB; rw [decide_eq_false h]; rfl
theorem anB_yes {a : An} (h : 0 ≤ a.proc ∧ a.proc < 4 ∧ 0 ≤ a.fresh ∧ a.fresh ≤ 1 ∧ 0 ≤ a.ver ∧ a.ver < 4) : anB a = (sizedB a.size && codedB a.coded) := by
  unfold anB; rw [decide_eq_true h]; rfl
set_option maxRecDepth 20000 in
set_option maxHeartbeats 2000000 in
theorem right_any (a : An) (l : Option Addr) (len cap : Nat) (xs : List Int) (w : World) (hr : Rd .i64 w l len xs) :
    Calls Tryd.prog 47 #[AVal a, .slice l len cap] w fun e w' => e = .returned (.bool (anB a && softB xs)) ∧ Gr w w' := by
  have HR := Lib.hid hr
  clear hr
  obtain ⟨R, hR⟩ : ∃ R, (anB a && softB xs) = R := ⟨_, rfl⟩
  rw [hR]
  have HVR := Lib.hid hR
  clear hR
  unfold AVal
  go_enter Tryd.func47, Tryd.ntmps47
  go_upto_region 1 with (fail)
  obtain ⟨w1, hw1⟩ : ∃ y, y = w.alloc (.cells #[.int .i64 a.proc, .int .i64 a.fresh, .int .i64 a.ver, .int .i64 a.size, .int .i64 a.coded] 29) := ⟨_, rfl⟩
  have hb : ABlk w.heap.size a w1 := by rw [hw1]; exact heap_alloc_new _ _
  rw [← hw1]
  have HG1 := Lib.hid (show Gr w w1 by rw [hw1]; exact Gr.alloc _ _)
  have c0 := ablk_at hb 0 (v := .int .i64 a.proc) rfl
  have c1 := ablk_at hb 1 (v := .int .i64 a.fresh) rfl
  have c2 := ablk_at hb 2 (v := .int .i64 a.ver) rfl
  have c3 := ablk_at hb 3 (v := .int .i64 a.size) rfl
  have c4 := ablk_at hb 4 (v := .int .i64 a.coded) rfl
  clear hw1 hb
  by_cases h1 : 0 ≤ a.proc
  case neg =>
    go_wp2_with fail
    go_ret
    exact ⟨by rw [← HVR.out, anB_no (by intro h; omega)]; rfl, HG1.out⟩
  by_cases h2 : a.proc < 4
  case neg =>
    go_wp2_with fail
    go_ret
    exact ⟨by rw [← HVR.out, anB_no (by intro h; omega)]; rfl, HG1.out⟩
  by_cases h3 : 0 ≤ a.fresh
  case neg =>
    go_wp2_with fail
    go_ret
    exact ⟨by rw [← HVR.out, anB_no (by intro h; omega)]; rfl, HG1.out⟩
  by_cases h4 : a.fresh ≤ 1
  case neg =>
    go_wp2_with fail
    go_ret
    exact ⟨by rw [← HVR.out, anB_no (by intro h; omega)]; rfl, HG1.out⟩
  by_cases h5 : 0 ≤ a.ver
  case neg =>
    go_wp2_with fail
    go_ret
    exact ⟨by rw [← HVR.out, anB_no (by intro h; omega)]; rfl, HG1.out⟩
  by_cases h6 : a.ver < 4
  case neg =>
    go_wp2_with fail
    go_ret
    exact ⟨by rw [← HVR.out, anB_no (by intro h; omega)]; rfl, HG1.out⟩
  have hv := anB_yes (a := a) (by omega)
  have HV := Lib.hid hv
  clear hv
  obtain ⟨B, hB⟩ : ∃ B, sizedB a.size = B := ⟨_, rfl⟩
  obtain ⟨C, hC⟩ : ∃ C, codedB a.coded = C := ⟨_, rfl⟩
  obtain ⟨S, hS⟩ : ∃ S, softB xs = S := ⟨_, rfl⟩
  have HB := Lib.hid hB
  have HC := Lib.hid hC
  have HS := Lib.hid hS
  clear hB hC hS
  go_wp2_with fail
  refine (sized_is HB.out w1).mono ?_
  rintro e w' ⟨rfl, rfl⟩
  cases B with
  | false =>
    go_wp2_with fail
    go_ret
    exact ⟨by rw [← HVR.out, HV.out, HB.out]; rfl, HG1.out⟩
  | true =>
    go_wp2_with fail
    refine (coded_is HC.out w1).mono ?_
    rintro e w' ⟨rfl, rfl⟩
    cases C with
    | false =>
      go_wp2_with fail
      go_ret
      exact ⟨by rw [← HVR.out, HV.out, HB.out, HC.out]; rfl, HG1.out⟩
    | true =>
      go_wp2_with fail
      refine (within_any l len cap xs w1 (rd_gr HR.out HG1.out)).mono ?_
      rw [HS.out]
      rintro e w' ⟨rfl, rfl⟩
      go_wp2_with fail
      go_ret
      exact ⟨by rw [← HVR.out, HV.out, HB.out, HC.out, HS.out]; rfl, HG1.out⟩
end Go.Proofs.YtcleegibdcphiaaDoor
