/- Layer 29 (harq): word, of the program and of the reference. -/
import Derived.Test.YtcleegibdcphiaaDoorHarA
import Derived.Test.YtcleegibdcphiaaDoorCheckR
namespace Go.Proofs.YtcleegibdcphiaaDoor
open Go.ChangeShapes Go.WideShapes Go.ChangeAt Go.RowKit
open Crc

theorem OwnI.weak29 {B B' : Nat} {e : TypeId} {k : IntKind} {w : World} {a : Option Addr} {n cap : Nat} {xs : List Int} (h : OwnI B e k w a n cap xs) (hB : B' ≤ B) : OwnI B' e k w a n cap xs := by
  refine ⟨⟨h.row.1, ?_⟩, h.wf⟩
  rcases h.row.2 with ⟨hv, h0⟩ | ⟨g, cap', cur, hv, hb, hr⟩
  · exact .inl ⟨hv, h0⟩
  · exact .inr ⟨g, cap', cur, hv, by omega, hr⟩
def sum16 (xs : List Int) : Int := sumV 16 xs
theorem sum16_rng (xs : List Int) : 0 ≤ sum16 xs ∧ sum16 xs < 65536 := by
  have hk : isKind 16 := by decide
  have e : sum16 xs = (regN 16 (Crc.top 16) xs : Nat) := by unfold sum16 sumV; rw [if_pos hk]
  have h : regN 16 (Crc.top 16) xs < 2 ^ (16 : Int).toNat := feed_lt (kind_of hk).lt (bitsI xs) (Crc.top 16) (by decide)
  obtain ⟨N, hN⟩ : ∃ N, regN 16 (Crc.top 16) xs = N := ⟨_, rfl⟩
  rw [hN] at h e
  have h3 : (2 : Nat) ^ (16 : Int).toNat = 65536 := by decide
  rw [h3] at h
  rw [e]
  exact ⟨Int.natCast_nonneg _, Int.ofNat_lt.2 h⟩
def wordL (xs : List Int) : List Int := bitsL xs ++ bitsL [sum16 xs / 256, sum16 xs % 256]
theorem wordL_len (xs : List Int) : (wordL xs).length = 8 * xs.length + 16 := by unfold wordL; rw [List.length_append, bitsL_len, bitsL_len]; rfl
def WordPost (xs : List Int) (len : Nat) (w : World) (e : Ending) (w' : World) : Prop := ∃ (a : Option Addr) (cap : Nat), e = .returned (.slice a (8 * len + 16) cap) ∧ OwnI w.heap.size 3 .i64 w' a (8 * len + 16) cap (wordL xs) ∧ Gr w w'
set_option maxRecDepth 20000 in
set_option maxHeartbeats 2000000 in
theorem hword_any (a : Option Addr) (len cap : Nat) (xs : List Int) (w : World) (hl : LaidIn w) (hr : Rd .u8 w a len xs) (hlen : len ≤ 10000) :
    Calls Tryd.prog 40 #[.slice a len cap] w (WordPost xs len w) := by
  have HLA := Lib.hid hl
  clear hl
  have hs := sum16_rng xs
  obtain ⟨s, es⟩ : ∃ s, sum16 xs = s := ⟨_, rfl⟩
  rw [es] at hs
  obtain ⟨s1, s2⟩ := hs
  have HS := Lib.hid es
  have HR := Lib.hid hr
  clear hr es
  go_enter Tryd.func40, Tryd.ntmps40
  go_wp2_with fail
  refine (sum_any 16 a len cap xs w HLA.out (by constructor <;> omega) HR.out).mono ?_
  rw [show sumV 16 xs = s from HS.out, show sumE 16 = 0 by decide]
  rintro e w1 ⟨rfl, hg1⟩
  have HG1 := Lib.hid hg1
  clear hg1
  go_wp2_with fail
  refine (hbits_any a len cap xs w1 (rd_gr HR.out HG1.out) (by omega)).mono ?_
  rintro e w2 ⟨a2, c2, rfl, ho2, hg2⟩
  have HO2 := Lib.hid (ho2.weak29 HG1.out.size)
  have HG2 := Lib.hid (HG1.out.trans hg2)
  clear ho2 hg2
  go_wp2_with fail
  have hrd := rd_new (k := .u8) (w := w2) [s / 256, s % 256] 5 (0, 0) 2 rfl (by simp [maxLen]) (by intro z hz; simp only [List.mem_cons, List.not_mem_nil, or_false] at hz; rcases hz with rfl | rfl <;> (refine WalkArith.wf_u8 ?_; constructor <;> omega))
  simp only [List.map_cons, List.map_nil] at hrd
  obtain ⟨w3, hw3⟩ : ∃ y, y = w2.alloc (.cells #[.int .u8 (s / 256), .int .u8 (s % 256)] 5) := ⟨_, rfl⟩
  have hg3 : Gr w2 w3 := by rw [hw3]; exact Gr.alloc _ _
  rw [← hw3] at hrd
  rw [← hw3]
  clear hw3
  refine (hbits_any _ 2 2 _ w3 hrd (by omega)).mono ?_
  rintro e w4 ⟨a4, c4, rfl, ho4, hg4⟩
  have hg24 := hg3.trans hg4
  obtain ⟨a5, c5, w5, hrun5, ho5, hg5, _⟩ := app_i64 w.heap.size w4 a2 (8 * len) c2 _ (HO2.out.stay hg24) a4 (8 * 2) c4 _ ho4.rd (by omega) (Nat.le_trans HG2.out.size hg24.size)
  have HR5 := Lib.hid hrun5
  have hg5' := grown_own (HG2.out.trans hg24) (HO2.out.stay hg24) (Nat.le_refl _) hg5
  clear hrun5 hg5
  have HO5 := Lib.hid ho5
  have HG5 := Lib.hid hg5'
  clear ho5 hg5' ho4 hg4 hg3 hg24 hrd
  go_wp2_with (at_builtin; refine wpList_app rfl _ _ _ rfl rfl rfl HR5.out ?_)
  go_ret
  have ho := HO5.out
  have e : bitsL xs ++ bitsL [s / 256, s % 256] = wordL xs := by unfold wordL; rw [HS.out]
  rw [e] at ho
  exact ⟨_, _, rfl, ho, HG5.out⟩
theorem rsum29_any (a : Option Addr) (len cap : Nat) (xs : List Int) (w : World) (hr : Rd .u8 w a len xs) :
    Calls Tryd.prog 60 #[.slice a len cap] w fun e w' => e = .returned (.int .i64 (sum16 xs)) ∧ Gr w w' := by
  have HR := Lib.hid hr
  clear hr
  go_enter Tryd.func60, Tryd.ntmps60
  go_wp2_with fail
  refine (rsum_any 16 a len cap xs w HR.out).mono ?_
  rw [show sumE 16 = 0 by decide]
  rintro e w1 ⟨rfl, hg1⟩
  have HG1 := Lib.hid hg1
  clear hg1
  go_wp2_with fail
  go_ret
  exact ⟨rfl, HG1.out⟩
set_option maxRecDepth 20000 in
set_option maxHeartbeats 2000000 in
theorem rhword_any (a : Option Addr) (len cap : Nat) (xs : List Int) (w : World) (hr : Rd .u8 w a len xs) (hlen : len ≤ 10000) :
    Calls Tryd.prog 43 #[.slice a len cap] w (WordPost xs len w) := by
  have hs := sum16_rng xs
  obtain ⟨s, es⟩ : ∃ s, sum16 xs = s := ⟨_, rfl⟩
  rw [es] at hs
  obtain ⟨s1, s2⟩ := hs
  have HS := Lib.hid es
  have HR := Lib.hid hr
  clear hr es
  go_enter Tryd.func43, Tryd.ntmps43
  go_wp2_with fail
  refine (rsum29_any a len cap xs w HR.out).mono ?_
  rw [HS.out]
  rintro e w1 ⟨rfl, hg1⟩
  have HG1 := Lib.hid hg1
  clear hg1
  go_wp2_with fail
  refine (rhbits_any a len cap xs w1 (rd_gr HR.out HG1.out) (by omega)).mono ?_
  rintro e w2 ⟨a2, c2, rfl, ho2, hg2⟩
  have HO2 := Lib.hid (ho2.weak29 HG1.out.size)
  have HG2 := Lib.hid (HG1.out.trans hg2)
  clear ho2 hg2
  go_wp2_with fail
  have hrd := rd_new (k := .u8) (w := w2) [s / 256, s % 256] 5 (0, 0) 2 rfl (by simp [maxLen]) (by intro z hz; simp only [List.mem_cons, List.not_mem_nil, or_false] at hz; rcases hz with rfl | rfl <;> (refine WalkArith.wf_u8 ?_; constructor <;> omega))
  simp only [List.map_cons, List.map_nil] at hrd
  obtain ⟨w3, hw3⟩ : ∃ y, y = w2.alloc (.cells #[.int .u8 (s / 256), .int .u8 (s % 256)] 5) := ⟨_, rfl⟩
  have hg3 : Gr w2 w3 := by rw [hw3]; exact Gr.alloc _ _
  rw [← hw3] at hrd
  rw [← hw3]
  clear hw3
  refine (rhbits_any _ 2 2 _ w3 hrd (by omega)).mono ?_
  rintro e w4 ⟨a4, c4, rfl, ho4, hg4⟩
  have hg24 := hg3.trans hg4
  obtain ⟨a5, c5, w5, hrun5, ho5, hg5, _⟩ := app_i64 w.heap.size w4 a2 (8 * len) c2 _ (HO2.out.stay hg24) a4 (8 * 2) c4 _ ho4.rd (by omega) (Nat.le_trans HG2.out.size hg24.size)
  have HR5 := Lib.hid hrun5
  have hg5' := grown_own (HG2.out.trans hg24) (HO2.out.stay hg24) (Nat.le_refl _) hg5
  clear hrun5 hg5
  have HO5 := Lib.hid ho5
  have HG5 := Lib.hid hg5'
  clear ho5 hg5' ho4 hg4 hg3 hg24 hrd
  go_wp2_with (at_builtin; refine wpList_app rfl _ _ _ rfl rfl rfl HR5.out ?_)
  go_ret
  have ho := HO5.out
  have e : bitsL xs ++ bitsL [s / 256, s % 256] = wordL xs := by unfold wordL; rw [HS.out]
  rw [e] at ho
  exact ⟨_, _, rfl, ho, HG5.out⟩
end Go.Proofs.YtcleegibdcphiaaDoor
