/- CodeRaw (layer 28): all functions for any numbers. -/
import Derived.Test.YtbdbllagbifkgaaRawB
import Derived.Test.YtbdbllagbifkgaaCodeLaws
namespace Go.Proofs.Ytbdbllagbifkgaa
open Go.ChangeShapes Go.WideShapes Go.ChangeAt Go.RowKit
open Cod

theorem enc_both (a : Option Addr) (len cap : Nat) (xs : List Int) (h : len ≤ 300) : ∃ er ys, (∀ w, Rd .i64 w a len xs → Calls Try.prog 16 #[.slice a len cap] w (TwoPost er ys w)) ∧ (∀ w, Rd .i64 w a len xs → Calls Try.prog 20 #[.slice a len cap] w (TwoPost er ys w)) := by
  by_cases h0 : len = 0
  · have hl : lenS len = 0 := by rw [h0]; decide +kernel
    exact ⟨2, [], fun w _ => encode_len a len cap w hl, fun w _ => rencode_len a len cap w hl⟩
  · by_cases hb : isBits xs
    · exact ⟨0, enc xs, fun w hr => (encode_yes a len cap xs w hr hb (by omega) (by omega)).mono fun e w' ⟨a', c', h1, h2, h3⟩ => ⟨a', _, c', h1, h2.rd, h3⟩,
        fun w hr => (rencode_any a len cap xs w hr (by omega) (by omega)).mono fun e w' ⟨h1, _⟩ => h1 hb⟩
    · exact ⟨4, [], fun w hr => encode_no a len cap xs w hr hb (by omega) (by omega), fun w hr => (rencode_any a len cap xs w hr (by omega) (by omega)).mono fun e w' ⟨_, h1⟩ => h1 hb⟩
theorem dec_both (a : Option Addr) (len cap : Nat) (ss : List Int) (n : Int) (h : len ≤ 200) (hc : len ≤ cap) : ∃ er ys, (∀ w, Rd .i64 w a len ss → Calls Try.prog 12 #[.slice a len cap, .int .i64 n] w (TwoPost er ys w)) ∧ (∀ w, Rd .i64 w a len ss → Calls Try.prog 13 #[.slice a len cap, .int .i64 n] w (TwoPost er ys w)) := by
  by_cases hl : lenS n = 0 ∨ lenS n ≠ len
  · exact ⟨61, [], fun w _ => decode_len a len cap n w hl (by omega), fun w _ => rdecode_len a len cap n w hl (by omega)⟩
  · have h0 : lenS n ≠ 0 := fun h => hl (.inl h)
    have h1 : lenS n = len := Decidable.byContradiction fun h => hl (.inr h)
    by_cases hs : softOk ss
    · have hn : 1 ≤ n ∧ n ≤ 2064 ∧ 2 * (n + 2) = len := by
        unfold lenS at h0 h1
        split at h1
        · rename_i hq; exact ⟨hq.1, hq.2, h1⟩
        · rename_i hq; rw [if_neg hq] at h0; exact absurd rfl h0
      obtain ⟨N, rfl⟩ : ∃ N : Nat, n = N := ⟨n.toNat, by omega⟩
      obtain rfl : len = 2 * (N + 2) := by omega
      exact ⟨0, dec N ss 0, fun w hr => (decode_yes a N cap ss w hr hs (by omega) (by omega) hc).mono fun e w' ⟨a', c', q1, q2, q3⟩ => ⟨a', _, c', q1, q2, q3⟩,
        fun w hr => (rdecode_yes a N cap ss w hr hs (by omega) (by omega)).mono fun e w' ⟨a', c', q1, q2, q3⟩ => ⟨a', _, c', q1, q2, q3⟩⟩
    · exact ⟨3, [], fun w hr => decode_soft a len cap ss n w hr h1 h0 hs (by omega), fun w hr => rdecode_soft a len cap ss n w hr h1 h0 hs⟩
theorem pos_both (t v c : Int) : ∃ er ys, (∀ w, Calls Try.prog 21 #[.int .i64 t, .int .i64 v, .int .i64 c] w (TwoPost er ys w)) ∧ (∀ w, Calls Try.prog 22 #[.int .i64 t, .int .i64 v, .int .i64 c] w (TwoPost er ys w)) := by
  by_cases h : 1 ≤ t ∧ t ≤ 4132 ∧ 0 ≤ v ∧ v < 4 ∧ 1 ≤ c ∧ c ≤ 1152
  · obtain ⟨T, rfl⟩ : ∃ N : Nat, t = N := ⟨t.toNat, by omega⟩
    obtain ⟨V, rfl⟩ : ∃ N : Nat, v = N := ⟨v.toNat, by omega⟩
    obtain ⟨C, rfl⟩ : ∃ N : Nat, c = N := ⟨c.toNat, by omega⟩
    exact ⟨0, posL T V C, fun w => (positions_yes T V C w (by omega) (by omega) (by omega) (by omega) (by omega)).mono fun e w' ⟨g, q1, q2, q3⟩ => ⟨_, _, _, q1, q2.rd, q3⟩,
      fun w => rpositions_yes T V C w (by omega) (by omega) (by omega) (by omega) (by omega)⟩
  · exact ⟨3, [], fun w => positions_no t v c w h, fun w => rpositions_no t v c w h⟩
theorem ints_yes {a b : Option Addr} {l c l' c' : Nat} {xs : List Int} (u : World) (hx : Rd .i64 u a l xs) (hy : Rd .i64 u b l' xs) : Calls Try.prog 14 #[.slice a l c, .slice b l' c'] u fun e w' => e = .returned (.bool true) ∧ Gr u w' := by
  have := same_ints a b l c l' c' xs xs u hx hy
  rwa [decide_eq_true rfl] at this
set_option maxRecDepth 100000 in
set_option maxHeartbeats 2000000 in
theorem raw_walk (n : Int) (a : Option Addr) (len cap : Nat) (xs : List Int) (b : Option Addr) (lb cb : Nat) (ss : List Int) (t v c : Int) (w : World) (hr : Rd .i64 w a len xs) (hs : Rd .i64 w b lb ss) (h1 : len ≤ 300) (h2 : lb ≤ 200) (hcb : lb ≤ cb) :
    Calls Try.prog 9 #[.int .i64 n, .slice a len cap, .slice b lb cb, .int .i64 t, .int .i64 v, .int .i64 c] w fun e w' => e = .returned (.bool true) ∧ Gr w w' := by
  obtain ⟨eE, yE, hE1, hE2⟩ := enc_both a len cap xs h1
  obtain ⟨eD, yD, hD1, hD2⟩ := dec_both b lb cb ss n h2 hcb
  obtain ⟨eP, yP, hP1, hP2⟩ := pos_both t v c
  have HE1 := Lib.hid hE1
  have HE2 := Lib.hid hE2
  have HD1 := Lib.hid hD1
  have HD2 := Lib.hid hD2
  have HP1 := Lib.hid hP1
  have HP2 := Lib.hid hP2
  have HR := Lib.hid hr
  have HS := Lib.hid hs
  have HGW := Lib.hid (Gr.refl w)
  clear hE1 hE2 hD1 hD2 hP1 hP2 hr hs
  go_enter Try.func9, Try.ntmps9
  go_wp2_with fail
  refine (HE1.out w HR.out).mono ?_
  rintro e w1 ⟨a1, n1, c1, rfl, hr, hg⟩
  have G1 := Lib.hid ((HGW).out.trans hg)
  have R1 := Lib.hid hr
  have HTR := Lib.hid hg
  clear hr hg
  go_wp2_with fail
  refine (HE2.out w1 (HR.out.kept G1.out)).mono ?_
  rintro e w2 ⟨a2, n2, c2, rfl, hr, hg⟩
  have G2 := Lib.hid ((G1).out.trans hg)
  have R2 := Lib.hid hr
  have HTR := Lib.hid hg
  clear hr hg
  have R1b := Lib.hid (R1.out.kept HTR.out)
  clear R1 HTR
  go_wp2_with fail
  refine (HD1.out w2 (HS.out.kept G2.out)).mono ?_
  rintro e w3 ⟨a3, n3, c3, rfl, hr, hg⟩
  have G3 := Lib.hid ((G2).out.trans hg)
  have R3 := Lib.hid hr
  have HTR := Lib.hid hg
  clear hr hg
  have R1c := Lib.hid (R1b.out.kept HTR.out)
  have R2c := Lib.hid (R2.out.kept HTR.out)
  clear R1b R2 HTR
  go_wp2_with fail
  refine (HD2.out w3 (HS.out.kept G3.out)).mono ?_
  rintro e w4 ⟨a4, n4, c4, rfl, hr, hg⟩
  have G4 := Lib.hid ((G3).out.trans hg)
  have R4 := Lib.hid hr
  have HTR := Lib.hid hg
  clear hr hg
  have R1d := Lib.hid (R1c.out.kept HTR.out)
  have R2d := Lib.hid (R2c.out.kept HTR.out)
  have R3d := Lib.hid (R3.out.kept HTR.out)
  clear R1c R2c R3 HTR
  go_wp2_with fail
  refine (HP1.out w4).mono ?_
  rintro e w5 ⟨a5, n5, c5, rfl, hr, hg⟩
  have G5 := Lib.hid ((G4).out.trans hg)
  have R5 := Lib.hid hr
  have HTR := Lib.hid hg
  clear hr hg
  have R1e := Lib.hid (R1d.out.kept HTR.out)
  have R2e := Lib.hid (R2d.out.kept HTR.out)
  have R3e := Lib.hid (R3d.out.kept HTR.out)
  have R4e := Lib.hid (R4.out.kept HTR.out)
  clear R1d R2d R3d R4 HTR
  go_wp2_with fail
  refine (HP2.out w5).mono ?_
  rintro e w6 ⟨a6, n6, c6, rfl, hr, hg⟩
  have G6 := Lib.hid ((G5).out.trans hg)
  have R6 := Lib.hid hr
  have HTR := Lib.hid hg
  clear hr hg
  have R1f := Lib.hid (R1e.out.kept HTR.out)
  have R2f := Lib.hid (R2e.out.kept HTR.out)
  have R3f := Lib.hid (R3e.out.kept HTR.out)
  have R4f := Lib.hid (R4e.out.kept HTR.out)
  have R5f := Lib.hid (R5.out.kept HTR.out)
  clear R1e R2e R3e R4e R5 HTR G1 G2 G3 G4 G5
  obtain ⟨r, hrl⟩ : ∃ r, lenS n = r := ⟨_, rfl⟩
  have HL := Lib.hid hrl
  clear hrl
  go_wp2_with fail
  refine (ints_yes w6 R1f.out R2f.out).mono ?_
  rintro e w7 ⟨rfl, hg7⟩
  have R3g := Lib.hid (R3f.out.kept hg7)
  have R4g := Lib.hid (R4f.out.kept hg7)
  have R5g := Lib.hid (R5f.out.kept hg7)
  have R6g := Lib.hid (R6.out.kept hg7)
  have G7 := Lib.hid (G6.out.trans hg7)
  clear hg7 R1f R2f R3f R4f R5f R6 G6
  go_wp2_with fail
  refine (ints_yes w7 R3g.out R4g.out).mono ?_
  rintro e w8 ⟨rfl, hg8⟩
  have R5h := Lib.hid (R5g.out.kept hg8)
  have R6h := Lib.hid (R6g.out.kept hg8)
  have G8 := Lib.hid (G7.out.trans hg8)
  clear hg8 R3g R4g R5g R6g G7
  go_wp2_with fail
  refine (ints_yes w8 R5h.out R6h.out).mono ?_
  rintro e w9 ⟨rfl, hg9⟩
  have G9 := Lib.hid (G8.out.trans hg9)
  clear hg9 R5h R6h G8
  go_wp2_with fail
  refine (length_is2 HL.out _).mono ?_
  rintro e w' ⟨rfl, rfl⟩
  go_wp2_with fail
  refine (rlength_is HL.out _).mono ?_
  rintro e w' ⟨rfl, rfl⟩
  go_wp2_with fail
  refine (awake28 _).mono ?_
  rintro e w10 ⟨rfl, hg10⟩
  have G10 := Lib.hid (G9.out.trans hg10)
  clear hg10
  go_wp2_with fail
  go_ret
  exact ⟨rfl, G10.out⟩
set_option maxRecDepth 100000 in
theorem raw_far (n : Int) (a : Option Addr) (len cap : Nat) (b : Option Addr) (lb cb : Nat) (t v c : Int) (w : World) (h : 300 < len ∨ 200 < lb) (hm : len ≤ 9223372036854775807) (hm2 : lb ≤ 9223372036854775807) :
    Calls Try.prog 9 #[.int .i64 n, .slice a len cap, .slice b lb cb, .int .i64 t, .int .i64 v, .int .i64 c] w fun e w' => e = .returned (.bool true) ∧ Gr w w' := by
  by_cases h1 : 300 < len
  · go_enter Try.func9, Try.ntmps9
    go_wp2_with fail
    refine (awake28 _).mono ?_
    rintro e w1 ⟨rfl, hg1⟩
    have HG := Lib.hid hg1
    clear hg1
    go_wp2_with fail
    go_ret
    exact ⟨rfl, HG.out⟩
  · have h2 : 200 < lb := by omega
    go_enter Try.func9, Try.ntmps9
    go_wp2_with fail
    refine (awake28 _).mono ?_
    rintro e w1 ⟨rfl, hg1⟩
    have HG := Lib.hid hg1
    clear hg1
    go_wp2_with fail
    go_ret
    exact ⟨rfl, HG.out⟩
theorem raw_fit (n : Int) (a : Option Addr) (len cap : Nat) (xs : List Int) (b : Option Addr) (lb cb : Nat) (ss : List Int) (t v c : Int) (w : World) (_hn : i64 n) (hr : Rd .i64 w a len xs) (_hc : len ≤ cap) (hL : len * 8 ≤ 140737488351232) (hs : Rd .i64 w b lb ss) (hcb : lb ≤ cb) (hL2 : lb * 8 ≤ 140737488351232) (_ht : i64 t) (_hv : i64 v) (_hcc : i64 c) :
    Calls Try.prog 9 #[.int .i64 n, .slice a len cap, .slice b lb cb, .int .i64 t, .int .i64 v, .int .i64 c] w fun e w' => e = .returned (.bool true) ∧ Below w.heap.size w w' := by
  by_cases h : 300 < len ∨ 200 < lb
  · exact (raw_far n a len cap b lb cb t v c w h (by omega) (by omega)).mono fun _ _ ⟨h, hg⟩ => ⟨h, Below.of_none hg⟩
  · exact (raw_walk n a len cap xs b lb cb ss t v c w hr hs (by omega) (by omega) hcb).mono fun _ _ ⟨h, hg⟩ => ⟨h, Below.of_none hg⟩
end Go.Proofs.Ytbdbllagbifkgaa
