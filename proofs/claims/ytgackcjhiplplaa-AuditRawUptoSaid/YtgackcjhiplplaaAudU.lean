/- Layer 44 (audit): agree: all functions do what the reference does. -/
import Derived.Test.YtgackcjhiplplaaAudQ
import Derived.Test.YtgackcjhiplplaaAudT
namespace Go.Proofs.Ytgackcjhiplplaa
open Go.ChangeShapes Go.WideShapes Go.ChangeAt Go.RowKit

theorem rdelay_is {a : Option Addr} {len cap : Nat} {L : List Rec} {t b d : Int} {D : Int × Bool} (hd : delF L (idxF (sel 1 t b d) 0 L) (idxF (sel 2 t b d) 0 L) = D) (w : World) (hr : RdL w a len L) (ht : Ticks L) :
    Calls Try.prog 19 #[.slice a len cap, .int .i64 t, .int .i64 b, .int .i64 d] w fun e w' => e = .returned (.tuple #[.int .i64 D.1, .bool D.2]) ∧ Gr w w' := hd ▸ rdelay_any a len cap L t b d w hr ht
theorem same_ints_yes (a b : Option Addr) (l c l' c' : Nat) (xs : List Int) (w : World) (hx : Rd .i64 w a l xs) (hy : Rd .i64 w b l' xs) :
    Calls Try.prog 22 #[.slice a l c, .slice b l' c'] w fun e w' => e = .returned (.bool true) ∧ Gr w w' := by
  have := same_ints a b l c l' c' xs xs w hx hy
  rw [decide_eq_true rfl] at this
  exact this
def AgrPost (w : World) (e : Ending) (w' : World) : Prop := e = .returned (.bool true) ∧ Gr w w'
set_option maxRecDepth 100000 in
set_option maxHeartbeats 4000000 in
theorem agree_any (a : Option Addr) (len cap : Nat) (L : List Rec) (t b d lo hi : Int) (w : World) (hr : RdL w a len L) (hL : ∀ r ∈ L, r.n ≤ 100000) (ht : Ticks L) (hcw : ∀ r ∈ L, i64 r.cell) (hlo : i64 lo) (hhi : i64 hi) :
    Calls Try.prog 13 #[.slice a len cap, .int .i64 t, .int .i64 b, .int .i64 d, .int .i64 lo, .int .i64 hi] w (AgrPost w) := by
  have HR := Lib.hid hr
  have HNL := Lib.hid hL
  have HSZ := Lib.hid (show ∀ r ∈ L, r.n ≤ 140737488351232 from fun r h => by have := hL r h; omega)
  have HT := Lib.hid ht
  have HCW := Lib.hid hcw
  have HLO := Lib.hid hlo
  have HHI := Lib.hid hhi
  obtain ⟨D, hD⟩ : ∃ D, delF L (idxF (sel 1 t b d) 0 L) (idxF (sel 2 t b d) 0 L) = D := ⟨_, rfl⟩
  obtain ⟨D1, D2⟩ := D
  obtain ⟨V, hV⟩ : ∃ V, ordB L (idxF (sel 1 t b d) 0 L) (idxF (sel 2 t b d) 0 L) = V := ⟨_, rfl⟩
  obtain ⟨U, hU⟩ : ∃ U, decide (amo L (idxF (sel 2 t b d) 0 L) 0 (idxF (sel 1 t b d) 0 L) = (idxF (sel 2 t b d) 0 L).length) = U := ⟨_, rfl⟩
  obtain ⟨C, hC⟩ : ∃ C, decide ((idxF selC 0 L).length = 0) = C := ⟨_, rfl⟩
  obtain ⟨Z, hZ⟩ : ∃ Z, rt L lo hi (idxF (sel 2 t b 0) 0 L) = Z := ⟨_, rfl⟩
  obtain ⟨N, hN⟩ : ∃ N, ((idxF (selK 6 t) 0 L).length : Int) = N := ⟨_, rfl⟩
  have HD := Lib.hid hD
  have HV := Lib.hid hV
  have HU := Lib.hid hU
  have HC := Lib.hid hC
  have HZ := Lib.hid hZ
  have HN := Lib.hid hN
  clear hr hL ht hcw hD hV hU hC hZ hN hlo hhi
  go_enter Try.func13, Try.ntmps13
  go_wp2_with fail
  refine (delay_is HD.out w HR.out HT.out).mono ?_
  rintro e w1 ⟨rfl, hg⟩
  have HG1 := Lib.hid hg
  clear hg
  go_wp2_with fail
  refine (rdelay_is HD.out w1 (HR.out.kept HG1.out) HT.out).mono ?_
  rintro e w2 ⟨rfl, hg⟩
  have HG2 := Lib.hid (HG1.out.trans hg)
  clear hg HG1
  go_wp2_with fail
  refine (moves_any a len cap L t w2 (HR.out.kept HG2.out) HCW.out).mono ?_
  rintro e w3 ⟨a1, n1, c1, rfl, hr1, hg⟩
  have HG3 := Lib.hid (HG2.out.trans hg)
  have HR1 := Lib.hid hr1
  rw [HN.out]
  clear hg HG2 hr1
  go_wp2_with fail
  refine (rmoves_any a len cap L t w3 (HR.out.kept HG3.out) HCW.out).mono ?_
  rintro e w4 ⟨a2, n2, c2, rfl, hr2, hg⟩
  have HG4 := Lib.hid (HG3.out.trans hg)
  have HR1b := Lib.hid (HR1.out.kept hg)
  have HR2 := Lib.hid hr2
  rw [HN.out]
  clear hg HG3 hr2 HR1
  go_wp2_with fail
  refine (same_ints_yes a1 a2 n1 c1 n2 c2 _ w4 HR1b.out HR2.out).mono ?_
  rintro e w5 ⟨rfl, hg⟩
  have HG5 := Lib.hid (HG4.out.trans hg)
  clear hg HG4
  go_wp2_with fail
  refine (entered_any a len cap L t b d w5 (HR.out.kept HG5.out) HSZ.out).mono ?_
  rintro e w6 ⟨a3, n3, c3, rfl, hc3, hx3, hg⟩
  have HG6 := Lib.hid (HG5.out.trans hg)
  have HX3 := Lib.hid hx3
  clear hg HG5 hx3
  go_wp2_with fail
  refine (rentered_any a len cap L t b d w6 (HR.out.kept HG6.out) HSZ.out).mono ?_
  rintro e w7 ⟨a4, n4, c4, rfl, hc4, hx4, hg⟩
  have HG7 := Lib.hid (HG6.out.trans hg)
  have HX3b := Lib.hid (HX3.out.kept hg)
  obtain rfl : n3 = n4 := by rw [← HX3.out.1, ← hx4.1]
  have HX4 := Lib.hid hx4
  clear hg HG6 hx4 HX3
  go_wp2_with fail
  refine (sameall_yes a3 a4 n3 c3 c4 _ w7 HX3b.out HX4.out).mono ?_
  rintro e w8 ⟨rfl, hg⟩
  have HG8 := Lib.hid (HG7.out.trans hg)
  clear hg HG7
  go_wp2_with fail
  refine (delivered_any a len cap L t b d w8 (HR.out.kept HG8.out) HSZ.out).mono ?_
  rintro e w9 ⟨a5, n5, c5, rfl, hc5, hx5, hg⟩
  have HG9 := Lib.hid (HG8.out.trans hg)
  have HX5 := Lib.hid hx5
  clear hg HG8 hx5
  go_wp2_with fail
  refine (rdelivered_any a len cap L t b d w9 (HR.out.kept HG9.out) HSZ.out).mono ?_
  rintro e w10 ⟨a6, n6, c6, rfl, hc6, hx6, hg⟩
  have HG10 := Lib.hid (HG9.out.trans hg)
  have HX5b := Lib.hid (HX5.out.kept hg)
  obtain rfl : n5 = n6 := by rw [← HX5.out.1, ← hx6.1]
  have HX6 := Lib.hid hx6
  clear hg HG9 hx6 HX5
  go_wp2_with fail
  refine (sameall_yes a5 a6 n5 c5 c6 _ w10 HX5b.out HX6.out).mono ?_
  rintro e w11 ⟨rfl, hg⟩
  have HG11 := Lib.hid (HG10.out.trans hg)
  clear hg HG10
  go_wp2_with fail
  refine (inorder_is HV.out w11 (HR.out.kept HG11.out)).mono ?_
  rintro e w12 ⟨rfl, hg⟩
  have HG12 := Lib.hid (HG11.out.trans hg)
  clear hg HG11
  go_wp2_with fail
  refine (rorder_is HV.out w12 (HR.out.kept HG12.out)).mono ?_
  rintro e w13 ⟨rfl, hg⟩
  have HG13 := Lib.hid (HG12.out.trans hg)
  clear hg HG12
  go_wp2_with fail
  refine (HU.out ▸ among_any a len cap L t b d w13 (HR.out.kept HG13.out) : Calls Try.prog 10 #[.slice a len cap, .int .i64 t, .int .i64 b, .int .i64 d] w13 fun e w' => e = .returned (.bool U) ∧ Gr w13 w').mono ?_
  rintro e w14 ⟨rfl, hg⟩
  have HG14 := Lib.hid (HG13.out.trans hg)
  clear hg HG13
  go_wp2_with fail
  refine (HU.out ▸ ramong_any a len cap L t b d w14 (HR.out.kept HG14.out) : Calls Try.prog 26 #[.slice a len cap, .int .i64 t, .int .i64 b, .int .i64 d] w14 fun e w' => e = .returned (.bool U) ∧ Gr w14 w').mono ?_
  rintro e w15 ⟨rfl, hg⟩
  have HG15 := Lib.hid (HG14.out.trans hg)
  clear hg HG14
  go_wp2_with fail
  refine (HC.out ▸ clean_any a len cap L w15 (HR.out.kept HG15.out) : Calls Try.prog 27 #[.slice a len cap] w15 fun e w' => e = .returned (.bool C) ∧ Gr w15 w').mono ?_
  rintro e w16 ⟨rfl, hg⟩
  have HG16 := Lib.hid (HG15.out.trans hg)
  clear hg HG15
  go_wp2_with fail
  refine (HC.out ▸ rclean_any a len cap L w16 (HR.out.kept HG16.out) : Calls Try.prog 28 #[.slice a len cap] w16 fun e w' => e = .returned (.bool C) ∧ Gr w16 w').mono ?_
  rintro e w17 ⟨rfl, hg⟩
  have HG17 := Lib.hid (HG16.out.trans hg)
  clear hg HG16
  go_wp2_with fail
  refine (HZ.out ▸ rate_any a len cap L t b lo hi w17 (HR.out.kept HG17.out) HNL.out HLO.out HHI.out : Calls Try.prog 12 #[.slice a len cap, .int .i64 t, .int .i64 b, .int .i64 lo, .int .i64 hi] w17 fun e w' => e = .returned (.int .i64 Z) ∧ Gr w17 w').mono ?_
  rintro e w18 ⟨rfl, hg⟩
  have HG18 := Lib.hid (HG17.out.trans hg)
  clear hg HG17
  go_wp2_with fail
  refine (HZ.out ▸ rrate_any a len cap L t b lo hi w18 (HR.out.kept HG18.out) HNL.out HLO.out HHI.out : Calls Try.prog 29 #[.slice a len cap, .int .i64 t, .int .i64 b, .int .i64 lo, .int .i64 hi] w18 fun e w' => e = .returned (.int .i64 Z) ∧ Gr w18 w').mono ?_
  rintro e w19 ⟨rfl, hg⟩
  have HG19 := Lib.hid (HG18.out.trans hg)
  clear hg HG18
  go_wp2_with fail
  go_ret
  exact ⟨rfl, HG19.out⟩
end Go.Proofs.Ytgackcjhiplplaa
