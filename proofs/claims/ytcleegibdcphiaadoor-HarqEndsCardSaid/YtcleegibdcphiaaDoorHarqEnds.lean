/- The law HarqEnds: its walk. -/
import Derived.Test.YtcleegibdcphiaaDoorHarT
namespace Go.Proofs.YtcleegibdcphiaaDoor
open Go.ChangeShapes Go.WideShapes Go.ChangeAt Go.RowKit
open Cod

/-- The process behind i of N transmissions that were not received. -/
def endP (len : Nat) (C : Int) (N i : Nat) : Pc := if i < N then ⟨true, none, len, 0, C, 1, ((i % 4 : Nat) : Int), i⟩ else ⟨false, none, 0, 0, 0, 1, 0, 0⟩
def endL (blk : List Int) (N i : Nat) : List Int := if i < N then blk else []
def EndRel (g8 len : Nat) (C : Int) (blk : List Int) (N : Nat) (w : World) (t : Value) (wr : World) : Prop :=
  ∃ (i : Nat) (p : Pc), i ≤ N ∧ t = .int .i64 i ∧ p.Like (endP len C N i) ∧ PBlk g8 p wr ∧ Rd .u8 wr p.a p.len (endL blk N i) ∧ Gr w wr
set_option maxRecDepth 20000 in
set_option maxHeartbeats 4000000 in
theorem ends_walk (a : Option Addr) (len cap : Nat) (blk : List Int) (m y : Int) (w : World) (hl : LaidIn w) (hr : Rd .u8 w a len blk) (h1 : 1 ≤ len) (h2 : len ≤ 50) (hm : 0 ≤ m ∧ m ≤ 255) (hy : 0 ≤ y ∧ y ≤ 255) :
    Calls Tryd.prog 8 #[.slice a len cap, .int .u8 m, .int .u8 y] w fun e w' => e = .returned (.bool true) ∧ Gr w w' := by
  have HL := Lib.hid hl
  have HR := Lib.hid hr
  clear hl hr
  obtain ⟨m1, m2⟩ := hm
  obtain ⟨y1, y2⟩ := hy
  go_enter Tryd.func8, Tryd.ntmps8
  go_wp2_with fail
  obtain ⟨N, hN⟩ : ∃ N : Nat, 1 + m % 32 = N := ⟨(1 + m % 32).toNat, by omega⟩
  rw [hN]
  have hN1 : 1 ≤ N ∧ N ≤ 32 := by omega
  clear hN
  obtain ⟨c, hc⟩ : ∃ c : Nat, 1 + y = c := ⟨(1 + y).toNat, by omega⟩
  have hcy : ((c : Int) != 1 + y) = false := by simp; omega
  have hc1 : 1 ≤ c ∧ c ≤ 256 := by omega
  rw [hc]
  clear hc
  refine (start_ok zeroP [] a len cap blk c w (by decide) rfl (by omega) (by omega) ⟨rfl, by simp, by simp [zeroP], .inl rfl⟩ (by simp [zeroP]) HR.out).mono ?_
  rintro e w2 ⟨p, hp, rfl, ho2, hg2⟩
  have HP := Lib.hid hp
  have HO2 := Lib.hid ho2
  have HG2 := Lib.hid hg2
  clear hp ho2 hg2
  obtain ⟨v1, hv⟩ : ∃ y, y = (w2).alloc (.cells #[.bool false, .slice none 0 0, .int .i64 0, .int .i64 0, .int .i64 0, .int .i64 0] 24) := ⟨_, rfl⟩
  obtain ⟨w3, hw⟩ : ∃ y, y = v1.setCells (w2).heap.size 0 (PList p) := ⟨_, rfl⟩
  obtain ⟨hf1, hf2, hf3⟩ := pnew_facts hv hw
  have HV1 := Lib.hid hv
  have HW1 := Lib.hid hw
  have HTH1 := Lib.hid hf1
  have HPB1 := Lib.hid hf2
  have HGR1 := Lib.hid hf3
  clear hv hw hf1 hf2 hf3
  obtain ⟨g8, hg8⟩ : ∃ g8, w2.heap.size = g8 := ⟨_, rfl⟩
  have HB3 := HPB1.out
  have hoo := HO2.out.stay HGR1.out
  have HG8 := Lib.hid hg8
  have h8w := HG2.out.size
  rw [hg8] at HB3 h8w
  have HPB3 := Lib.hid HB3
  have HO3 := Lib.hid (hoo)
  have HG3 := Lib.hid (HG2.out.trans HGR1.out)
  clear HB3 hoo hg8
  go_upto_region 5 with (rw [← HV1.out]; refine wpList_store_mid rfl 24 _ _ rfl w2.heap.size 0 (PList p).toArray rfl rfl HTH1.out (by kernel_rfl) (plist_one _) ?_; rw [← HW1.out])
  rw [HG8.out]
  clear HV1 HW1 HTH1 HPB1 HGR1 HG2 HO2
  go_wp2_with fail
  go_loopw [10] (fun t wr => EndRel g8 len c blk N w t wr) (fun t _ => N - (intOf t).toNat)
  case atStart =>
    refine ⟨0, p, by omega, rfl, ?_, HPB3.out, ?_, HG3.out⟩
    · have h := HP.out
      unfold endP
      rw [if_pos (by omega)]
      exact ⟨h.act, h.len, h.coded, h.fresh, h.ver, h.tries⟩
    · have h := HO3.out.rd
      unfold endL
      rw [if_pos (by omega)]
      exact h
  case round =>
    clear HPB3 HO3 HG3
    obtain ⟨i, q, hi, rfl, hq, hb, ho, hg⟩ := hrel
    by_cases hlt : i < N
    · unfold endP at hq
      unfold endL at ho
      rw [if_pos hlt] at hq ho
      have HQ := Lib.hid hq
      have HB := Lib.hid hb
      have HO := Lib.hid ho
      have HG := Lib.hid hg
      clear hq hb ho hg
      have hb' := (HB).out
      unfold PBlk PCells at hb'
      have HBU := Lib.hid hb'
      clear hb'
      go_wp2_with (refine wpList_load_w rfl 24 _ rfl g8 rfl 24 _ _ _ HBU.out Tryd.underlying24 rfl (by kernel_rfl) ?_)
      have e1 : q.fresh = 1 := HQ.out.fresh
      have e2 : q.ver = ((i % 4 : Nat) : Int) := HQ.out.ver
      have e3 : q.len = len := HQ.out.len
      have e4 : q.coded = c := HQ.out.coded
      have e5 : q.tries = i := HQ.out.tries
      have hqv : validPc q = true := valid_of (by omega) (by omega) (by omega) (fun _ => by omega)
      refine (send_ok q blk ((i : Int) % 4) (i % 4) c wr (HL.out.kept HG.out) hqv HQ.out.act (by constructor <;> omega) (by rw [HQ.out.tries]; show (i : Int) < 32; omega) HQ.out.ver HQ.out.coded HO.out).mono ?_
      rintro e w4 ⟨r, A, l4, c4, hrr, hA, rfl, ho4, hl4, hg4⟩
      have qa : r.act = true := hrr.act.trans HQ.out.act
      have ql : r.len = len := hrr.len.trans HQ.out.len
      have qc : r.coded = c := hrr.coded.trans HQ.out.coded
      have qf : r.fresh = 1 := hrr.fresh.trans HQ.out.fresh
      have qv : r.ver = (((i + 1) % 4 : Nat) : Int) := hrr.ver.trans (by show (q.ver + 1) % 4 = _; rw [HQ.out.ver]; show (((i % 4 : Nat) : Int) + 1) % 4 = _; omega)
      have qt : r.tries = ((i + 1 : Nat) : Int) := hrr.tries.trans (by show q.tries + 1 = _; rw [HQ.out.tries]; push_cast; rfl)
      have hrv : validPc r = true := valid_of (by rw [qf]; simp) (by rw [qv]; constructor <;> omega) (by rw [qt]; constructor <;> omega) (fun _ => by rw [ql, qc]; refine ⟨⟨?_, ?_⟩, ?_, ?_⟩ <;> omega)
      have hA2 : A = ⟨(i : Int) % 4, 1, (i : Int) % 4, len, c⟩ := by
        have e6 : q.ver = (i : Int) % 4 := by omega
        rw [hA, e1, e6, e3, e4]
      have HRA := Lib.hid (And.intro qa (And.intro ql (And.intro qc (And.intro qf (And.intro qv qt)))))
      have HRV := Lib.hid hrv
      have HA := Lib.hid hA2
      have HO4 := Lib.hid ho4
      have HG4 := Lib.hid (HG.out.trans hg4)
      have HB4 := Lib.hid (HB.out.kept hg4)
      clear e1 e2 e3 e4 e5 hrr hA hA2 ho4 hl4 hg4 qa ql qc qf qv qt hrv hqv HB HG HO HQ HBU
      obtain ⟨va2, hva⟩ : ∃ y, y = (w4).alloc (.cells #[.bool false, .slice none 0 0, .int .i64 0, .int .i64 0, .int .i64 0, .int .i64 0] 24) := ⟨_, rfl⟩
      obtain ⟨v2, hv⟩ : ∃ y, y = va2.alloc (.cells #[.int .i64 0, .int .i64 0, .int .i64 0, .int .i64 0, .int .i64 0] 29) := ⟨_, rfl⟩
      obtain ⟨wa2, hwa⟩ : ∃ y, y = v2.setCells (w4).heap.size 0 (PList r) := ⟨_, rfl⟩
      obtain ⟨w5, hw⟩ : ∃ y, y = wa2.setCells ((w4).heap.size + 1) 0 (AList A) := ⟨_, rfl⟩
      obtain ⟨hf1, hf2, hf3, hf4, hf5⟩ := snew_facts hva hv hwa hw
      have HVA2 := Lib.hid hva
      have HV2 := Lib.hid hv
      have HWA2 := Lib.hid hwa
      have HW2 := Lib.hid hw
      have HTH2 := Lib.hid hf1
      have HTA2 := Lib.hid hf2
      have HPB2 := Lib.hid hf3
      have HAB2 := Lib.hid hf4
      have HGR2 := Lib.hid hf5
      clear hva hv hwa hw hf1 hf2 hf3 hf4 hf5
      go_upto_region 9 with (first | (rw [← HVA2.out, ← HV2.out]; refine wpList_store_mid rfl 24 _ _ rfl w4.heap.size 0 (PList r).toArray rfl rfl HTH2.out (by kernel_rfl) (plist_one _) ?_; rw [← HWA2.out]) | (refine wpList_store_mid rfl 29 _ _ rfl (w4.heap.size + 1) 0 (AList A).toArray rfl rfl HTA2.out (by kernel_rfl) (alist_one _) ?_; rw [← HW2.out]))
      clear HV2 HVA2 HW2 HWA2 HTH2 HTA2
      have hb' := (HPB2).out
      unfold PBlk PCells at hb'
      have HBU := Lib.hid hb'
      clear hb'
      go_wp2_with (refine wpList_load_w rfl 24 _ rfl w4.heap.size rfl 24 _ _ _ HBU.out Tryd.underlying24 rfl (by kernel_rfl) ?_)
      obtain ⟨K, hK1⟩ : ∃ K, decide (i + 1 < N) = K := ⟨_, rfl⟩
      have HK := Lib.hid hK1
      clear hK1
      have hans : ansF r false N = (K, false, 0) := by
        unfold ansF
        rw [if_neg (by rw [HRV.out]; simp), if_neg (by rw [HRA.out.1, HRA.out.2.2.2.2.2]; simp; omega), if_neg (by omega), if_neg (by simp), HRA.out.2.2.2.2.2]
        cases K
        · have := of_decide_eq_false HK.out
          rw [if_neg (by omega)]
        · have := of_decide_eq_true HK.out
          rw [if_pos (by omega)]
      refine (answer_ok (p := r) (blk := blk) (right := false) (most := N) (k := K) (r := false) hans rfl rfl w5 (HO4.out.stay HGR2.out).rd (by rw [HRA.out.2.1]; omega)).mono ?_
      rintro e w6 ⟨s, hs, rfl, ho6, hg6⟩
      have hsE : s.Like (endP len c N (i + 1)) := by
        have h := HRA.out
        unfold endP
        cases K
        · have := of_decide_eq_false HK.out
          rw [if_neg (by omega)]
          exact ⟨hs.act, hs.len, hs.coded, hs.fresh.trans h.2.2.2.1, hs.ver, hs.tries⟩
        · have := of_decide_eq_true HK.out
          rw [if_pos (by omega)]
          exact ⟨hs.act.trans h.1, hs.len.trans h.2.1, hs.coded.trans h.2.2.1, hs.fresh.trans h.2.2.2.1, hs.ver.trans h.2.2.2.2.1, hs.tries.trans h.2.2.2.2.2⟩
      have hsL : OwnI w5.heap.size 5 .u8 w6 s.a s.len s.cap (endL blk N (i + 1)) := by
        have e : (if K then blk else []) = endL blk N (i + 1) := by
          unfold endL
          cases K
          · rw [if_neg (show ¬ i + 1 < N from of_decide_eq_false HK.out)]; rfl
          · rw [if_pos (show i + 1 < N from of_decide_eq_true HK.out)]; rfl
        rw [← e]; exact ho6
      have hsa : s.act = K := by
        rw [hsE.act]
        unfold endP
        cases K
        · rw [if_neg (show ¬ i + 1 < N from of_decide_eq_false HK.out)]
        · rw [if_pos (show i + 1 < N from of_decide_eq_true HK.out)]
      have HSE := Lib.hid hsE
      have HSL := Lib.hid hsL
      have HSA := Lib.hid hsa
      have HG6 := Lib.hid ((HG4.out.trans HGR2.out).trans hg6)
      have HA6 := Lib.hid (HAB2.out.kept hg6)
      have HB6 := Lib.hid ((HB4.out.kept HGR2.out).kept hg6)
      have h86 := heap_lt HB6.out
      have h85 := heap_lt (HB4.out.kept HGR2.out)
      clear hs ho6 hg6 hsE hsL hsa hans HBU HRV HRA HO4 HG4 HB4
      obtain ⟨v3, hv⟩ : ∃ y, y = (w6).alloc (.cells #[.bool false, .slice none 0 0, .int .i64 0, .int .i64 0, .int .i64 0, .int .i64 0] 24) := ⟨_, rfl⟩
      obtain ⟨w7, hw⟩ : ∃ y, y = v3.setCells (w6).heap.size 0 (PList s) := ⟨_, rfl⟩
      obtain ⟨hf1, hf2, hf3⟩ := pnew_facts hv hw
      have HV3 := Lib.hid hv
      have HW3 := Lib.hid hw
      have HTH3 := Lib.hid hf1
      have HPB3 := Lib.hid hf2
      have HGR3 := Lib.hid hf3
      clear hv hw hf1 hf2 hf3
      have HA7 := Lib.hid (HA6.out.kept HGR3.out)
      have HB7 := Lib.hid (HB6.out.kept HGR3.out)
      have HL7 := Lib.hid (HSL.out.stay HGR3.out)
      go_upto_region 10 with (rw [← HV3.out]; refine wpList_store_mid rfl 24 _ _ rfl w6.heap.size 0 (PList s).toArray rfl rfl HTH3.out (by kernel_rfl) (plist_one _) ?_; rw [← HW3.out])
      clear HV3 HW3 HTH3
      have k1 := ablk_at HA7.out 1 (v := .int .i64 1) (by rw [HA.out]; rfl)
      have k2 := ablk_at HA7.out 2 (v := .int .i64 ((i : Int) % 4)) (by rw [HA.out]; rfl)
      have k3 := ablk_at HA7.out 3 (v := .int .i64 len) (by rw [HA.out]; rfl)
      have ks := pblk_at HPB3.out 0 (v := .bool K) (by unfold PCells; rw [HSA.out]; rfl)
      have hKb : (!K == decide ((i : Int) < N - 1)) = false := by
        rw [← HK.out]
        by_cases hx : i + 1 < N
        · rw [decide_eq_true hx, decide_eq_true (show (i : Int) < N - 1 by omega)]; rfl
        · rw [decide_eq_false hx, decide_eq_false (show ¬ (i : Int) < N - 1 by omega)]; rfl
      go_upto_region 12 with (fail)
      clear k1 k2 k3 ks hKb
      have hb' := (HPB3).out
      unfold PBlk PCells at hb'
      have HBU := Lib.hid hb'
      clear hb'
      obtain ⟨w8, hw8⟩ : ∃ y, y = w7.setCells g8 0 (PList s) := ⟨_, rfl⟩
      have hb8 : PBlk g8 s w8 := by rw [hw8]; exact pblk_put HB7.out s
      have hg8' : Gr w w8 := by rw [hw8]; exact grown_setCells_new (HG6.out.trans HGR3.out) h8w _ _
      have hl8 : OwnI w5.heap.size 5 .u8 w8 s.a s.len s.cap (endL blk N (i + 1)) := by rw [hw8]; exact own_cells HL7.out h85 _
      have HTH := Lib.hid (pblk_there HB7.out)
      have HW8 := Lib.hid hw8
      have HB8 := Lib.hid hb8
      have HG8' := Lib.hid hg8'
      have HL8 := Lib.hid hl8
      clear hw8 hb8 hg8' hl8
      go_wp2_with (first | (refine wpList_load_w rfl 24 _ rfl w6.heap.size rfl 24 _ _ _ HBU.out Tryd.underlying24 rfl (by kernel_rfl) ?_) | (refine wpList_store_mid rfl 24 _ _ rfl g8 0 (PList s).toArray rfl rfl HTH.out (by kernel_rfl) (plist_one _) ?_; rw [← HW8.out]))
      go_roundw
      case rel => exact ⟨i + 1, s, by omega, by go_num, HSE.out, HB8.out, HL8.out.rd, HG8'.out⟩
      case measure => (simp [intOf] <;> omega)
    · obtain rfl : i = N := by omega
      unfold endP at hq
      unfold endL at ho
      rw [if_neg (by omega)] at hq ho
      have HQ := Lib.hid hq
      have HB := Lib.hid hb
      have HO := Lib.hid ho
      have HG := Lib.hid hg
      clear hq hb ho hg
      have e1 : q.fresh = 1 := HQ.out.fresh
      have e2 : q.ver = 0 := HQ.out.ver
      have e3 : q.len = 0 := HQ.out.len
      have e5 : q.tries = 0 := HQ.out.tries
      have e6 : q.act = false := HQ.out.act
      have hqv : validPc q = true := valid_of (by omega) (by omega) (by omega) (fun h => by rw [e6] at h; cases h)
      have E6 := Lib.hid e6
      have E1 := Lib.hid e1
      have E3 := Lib.hid e3
      clear e1 e6 e2 e3 e5
      have hb' := (HB).out
      unfold PBlk PCells at hb'
      have HBU := Lib.hid hb'
      clear hb'
      go_wp2_with (refine wpList_load_w rfl 24 _ rfl g8 rfl 24 _ _ _ HBU.out Tryd.underlying24 rfl (by kernel_rfl) ?_)
      refine (start_ok q [] a len cap blk 9 wr hqv E6.out (by omega) (by omega) HO.out (by rw [E3.out]; decide) (rd_gr HR.out HG.out)).mono ?_
      rintro e w2' ⟨r, hrr, rfl, -, hg2⟩
      have HRF := Lib.hid (show r.fresh = 0 from hrr.fresh.trans (by show 1 - q.fresh = 0; rw [E1.out]; rfl))
      have HG2 := Lib.hid (HG.out.trans hg2)
      clear hrr hg2 hqv
      obtain ⟨v4, hv⟩ : ∃ y, y = (w2').alloc (.cells #[.bool false, .slice none 0 0, .int .i64 0, .int .i64 0, .int .i64 0, .int .i64 0] 24) := ⟨_, rfl⟩
      obtain ⟨w3', hw⟩ : ∃ y, y = v4.setCells (w2').heap.size 0 (PList r) := ⟨_, rfl⟩
      obtain ⟨hf1, hf2, hf3⟩ := pnew_facts hv hw
      have HV4 := Lib.hid hv
      have HW4 := Lib.hid hw
      have HTH4 := Lib.hid hf1
      have HPB4 := Lib.hid hf2
      have HGR4 := Lib.hid hf3
      clear hv hw hf1 hf2 hf3
      go_upto_region 14 with (rw [← HV4.out]; refine wpList_store_mid rfl 24 _ _ rfl w2'.heap.size 0 (PList r).toArray rfl rfl HTH4.out (by kernel_rfl) (plist_one _) ?_; rw [← HW4.out])
      clear HV4 HW4 HTH4
      have kf := pblk_at HPB4.out 3 (v := .int .i64 0) (by unfold PCells; rw [HRF.out]; rfl)
      go_wp2_with fail
      refine (awake29 w3' (HL.out.kept (HG2.out.trans HGR4.out))).mono ?_
      rintro e w4 ⟨rfl, hg4⟩
      have HG4 := Lib.hid ((HG2.out.trans HGR4.out).trans hg4)
      clear hg4
      go_wp2_with fail
      go_ret
      exact ⟨rfl, HG4.out⟩
theorem ends_no (a : Option Addr) (len cap : Nat) (m y : Int) (w : World) (hl : LaidIn w) (hL : len = 0 ∨ 50 < len) (h1 : len ≤ 140737488351232) :
    Calls Tryd.prog 8 #[.slice a len cap, .int .u8 m, .int .u8 y] w fun e w' => e = .returned (.bool true) ∧ Gr w w' := by
  have HL := Lib.hid hl
  clear hl
  go_enter Tryd.func8, Tryd.ntmps8
  by_cases h0 : len = 0
  · subst h0
    go_wp2_with fail
    refine (awake29 w HL.out).mono ?_
    rintro e w4 ⟨rfl, hg4⟩
    have HG4 := Lib.hid hg4
    clear hg4
    go_wp2_with fail
    go_ret
    exact ⟨rfl, HG4.out⟩
  · have h3 : ¬ (len : Int) < 1 := by omega
    have h4 : (50 : Int) < len := by omega
    go_wp2_with fail
    refine (awake29 w HL.out).mono ?_
    rintro e w4 ⟨rfl, hg4⟩
    have HG4 := Lib.hid hg4
    clear hg4
    go_wp2_with fail
    go_ret
    exact ⟨rfl, HG4.out⟩
theorem ends_fit (a : Option Addr) (len cap : Nat) (xs : List Int) (m y : Int) (w : World) (hl : LaidIn w) (hr : Rd .u8 w a len xs) (_hc : len ≤ cap) (hL : len ≤ 140737488351232) (hm : 0 ≤ m ∧ m ≤ 255) (hy : 0 ≤ y ∧ y ≤ 255) :
    Calls Tryd.prog 8 #[.slice a len cap, .int .u8 m, .int .u8 y] w fun e w' => e = .returned (.bool true) ∧ Below w.heap.size w w' := by
  have key : Calls Tryd.prog 8 #[.slice a len cap, .int .u8 m, .int .u8 y] w fun e w' => e = .returned (.bool true) ∧ Gr w w' := by
    by_cases h : len = 0 ∨ 50 < len
    · exact ends_no a len cap m y w hl h hL
    · exact ends_walk a len cap xs m y w hl hr (by omega) (by omega) hm hy
  exact key.mono fun _ _ ⟨he, hg⟩ => ⟨he, Below.of_none hg⟩
end Go.Proofs.YtcleegibdcphiaaDoor
