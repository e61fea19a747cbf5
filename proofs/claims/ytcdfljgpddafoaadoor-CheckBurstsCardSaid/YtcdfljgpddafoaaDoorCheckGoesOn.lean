/- The laws CheckGoesOn and CheckLinear: their walks. -/
import Derived.Test.YtcdfljgpddafoaaDoorCheckExact
import Derived.Test.YtcdfljgpddafoaaDoorNews
namespace Go.Proofs.YtcdfljgpddafoaaDoor
open Go.ChangeShapes Go.WideShapes Go.ChangeAt Go.RowKit
open Crc

theorem Rd.take {k : IntKind} {w : World} {a : Option Addr} {len : Nat} {xs : List Int} (h : Rd k w a len xs) (n : Nat) (hn : n ≤ len) : Rd k w a n (xs.take n) := by
  obtain ⟨h1, h2, h3, h4⟩ := h
  refine ⟨by simp; omega, fun x hx => h2 x (List.mem_of_mem_take hx), by omega, ?_⟩
  rcases h4 with h0 | ⟨b, off, rfl, hb, hc⟩
  · exact .inl (by omega)
  · refine .inr ⟨b, off, rfl, hb, fun i hi => ?_⟩
    rw [hc i (by omega), List.getElem?_take_of_lt hi]
theorem sum_go {k : Int} {xs : List Int} {v : Nat} (hv : regN k (Crc.top k) xs = v) (hk : isKind k) (a : Option Addr) (len cap : Nat) (w : World) (hl : LaidIn w) (hr : Rd .u8 w a len xs) :
    Calls Tryd.prog 10 #[.int .i64 k, .slice a len cap] w fun e w' => e = .returned (.tuple #[.int .i64 (v : Nat), .int .i64 0]) ∧ Gr w w' :=
  sum_is (by unfold sumV; rw [if_pos hk, hv]) (by unfold sumE; rw [if_pos hk]) a len cap w hl (i64_kind hk) hr
theorem next_on {k reg : Int} {r v : Nat} {xs : List Int} (hv : regN k r xs = v) (hreg : reg = (r : Nat)) (hlt : r < 2 ^ k.toNat) (hk : isKind k) (a : Option Addr) (len cap : Nat) (w : World) (hl : LaidIn w) (hr : Rd .u8 w a len xs) :
    Calls Tryd.prog 12 #[.int .i64 k, .int .i64 reg, .slice a len cap] w fun e w' => e = .returned (.tuple #[.int .i64 (v : Nat), .int .i64 0]) ∧ Gr w w' := by
  subst hv
  exact next_go k reg r a len cap xs w hl hk hr hreg hlt
set_option maxHeartbeats 1000000 in
theorem goeson (kind : Int) (a : Option Addr) (la ca : Nat) (b : Option Addr) (lb cb : Nat) (xs ys : List Int) (w : World) (hl : LaidIn w) (ha : Rd .u8 w a la xs) (hb : Rd .u8 w b lb ys) (hL : la + lb ≤ 2000) :
    Calls Tryd.prog 4 #[.int .i64 kind, .slice a la ca, .slice b lb cb] w fun e w' => e = .returned (.bool true) ∧ Gr w w' := by
  have hw := width_kind kind
  obtain ⟨k, hkw⟩ : ∃ k, widthV kind = k := ⟨_, rfl⟩
  rw [hkw] at hw
  obtain ⟨v1, hv1⟩ : ∃ v, regN k (Crc.top k) xs = v := ⟨_, rfl⟩
  have hlt : v1 < 2 ^ k.toNat := by rw [← hv1]; exact regN_lt hw (top_lt k) xs
  obtain ⟨v2, hv2⟩ : ∃ v, regN k v1 ys = v := ⟨_, rfl⟩
  have hv3 : regN k (Crc.top k) (xs ++ ys) = v2 := by rw [regN_append, hv1, hv2]
  obtain ⟨a1, c1, w1, hrun1, ho1, hg1, hf1⟩ := app_u8_nil w.heap.size w a la ca xs ha (by omega) (Nat.le_refl _)
  obtain ⟨a2, c2, w2, hrun2, ho2, hg2, hf2⟩ := app_u8 w.heap.size w1 a1 la c1 xs ho1 b lb cb ys (hb.kept hg1) (by omega) hg1.size
  have hg12 : Gr w w2 := grown_own hg1 ho1 (Nat.le_refl _) hg2
  have HKW := Lib.hid hkw
  have HW := Lib.hid hw
  have HV1 := Lib.hid hv1
  have HV2 := Lib.hid hv2
  have HV3 := Lib.hid hv3
  have HLT := Lib.hid hlt
  have HR1 := Lib.hid hrun1
  have HR2 := Lib.hid hrun2
  have HO := Lib.hid ho2
  have HG := Lib.hid hg12
  have HA := Lib.hid ha
  have HB := Lib.hid hb
  have HLA := Lib.hid hl
  clear hkw hw hv1 hv2 hv3 hlt hrun1 hrun2 ho1 ho2 hg1 hg2 hg12 hf1 hf2 ha hb hl
  go_enter Tryd.func4, Tryd.ntmps4
  go_wp2_with fail
  refine (width_any kind w).mono ?_
  rw [HKW.out]
  rintro e w' ⟨rfl, rfl⟩
  have tok1 : True := trivial
  go_wp2_with (first | (at_builtin; have _t := tok1; refine wpList_app rfl _ _ _ rfl rfl rfl HR1.out ?_; clear _t tok1) | (at_builtin; refine wpList_app rfl _ _ _ rfl rfl rfl HR2.out ?_))
  refine (sum_go HV3.out HW.out a2 (la + lb) c2 w2 (HLA.out.kept HG.out) HO.out.rd).mono ?_
  rintro e w' ⟨rfl, hg⟩
  have HG2 := Lib.hid (HG.out.trans hg)
  clear HG hg
  have HG := Lib.hid HG2.out
  clear HG2
  go_wp2_with fail
  refine (sum_go HV1.out HW.out a la ca _ (HLA.out.kept HG.out) (HA.out.kept HG.out)).mono ?_
  rintro e w' ⟨rfl, hg⟩
  have HG2 := Lib.hid (HG.out.trans hg)
  clear HG hg
  have HG := Lib.hid HG2.out
  clear HG2
  go_wp2_with fail
  refine (next_on HV2.out rfl HLT.out HW.out b lb cb _ (HLA.out.kept HG.out) (HB.out.kept HG.out)).mono ?_
  rintro e w' ⟨rfl, hg⟩
  have HG2 := Lib.hid (HG.out.trans hg)
  clear HG hg
  have HG := Lib.hid HG2.out
  clear HG2
  go_wp2_with fail
  refine (awake03 _ (HLA.out.kept HG.out)).mono ?_
  rintro e w' ⟨rfl, hg⟩
  have HG2 := Lib.hid (HG.out.trans hg)
  clear HG hg
  have HG := Lib.hid HG2.out
  clear HG2
  go_wp2_with fail
  go_ret
  exact ⟨rfl, HG.out⟩
theorem goeson_no (kind : Int) (a : Option Addr) (la ca : Nat) (b : Option Addr) (lb cb : Nat) (w : World) (hl : LaidIn w) (hL : 2000 < la + lb) (h1 : la ≤ 140737488351232) (h2 : lb ≤ 140737488351232) :
    Calls Tryd.prog 4 #[.int .i64 kind, .slice a la ca, .slice b lb cb] w fun e w' => e = .returned (.bool true) ∧ Gr w w' := by
  have HLA := Lib.hid hl
  clear hl
  go_enter Tryd.func4, Tryd.ntmps4
  go_wp2_with fail
  refine (awake03 _ HLA.out).mono ?_
  rintro e w1 ⟨rfl, hg⟩
  have HG := Lib.hid hg
  clear hg
  go_wp2_with fail
  go_ret
  exact ⟨rfl, HG.out⟩
theorem goeson_fit (kind : Int) (a : Option Addr) (la ca : Nat) (xs : List Int) (b : Option Addr) (lb cb : Nat) (ys : List Int) (w : World) (hl : LaidIn w) (_hk : i64 kind) (ha : Rd .u8 w a la xs) (_hca : la ≤ ca) (hLa : la ≤ 140737488351232) (hb : Rd .u8 w b lb ys) (_hcb : lb ≤ cb) (hLb : lb ≤ 140737488351232) :
    Calls Tryd.prog 4 #[.int .i64 kind, .slice a la ca, .slice b lb cb] w fun e w' => e = .returned (.bool true) ∧ Below w.heap.size w w' := by
  have key : Calls Tryd.prog 4 #[.int .i64 kind, .slice a la ca, .slice b lb cb] w fun e w' => e = .returned (.bool true) ∧ Gr w w' := by
    by_cases h : la + lb ≤ 2000
    · exact goeson kind a la ca b lb cb xs ys w hl ha hb h
    · exact goeson_no kind a la ca b lb cb w hl (by omega) hLa hLb
  exact key.mono fun _ _ ⟨he, hg⟩ => ⟨he, Below.of_none hg⟩
end Go.Proofs.YtcdfljgpddafoaaDoor
