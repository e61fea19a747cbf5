/- The law HarqArrives: its walk. -/
import Derived.Test.YtcleegibdcphiaaDoorHarU
import Derived.Test.YtcleegibdcphiaaDoorHarP
namespace Go.Proofs.YtcleegibdcphiaaDoor
open Go.ChangeShapes Go.WideShapes Go.ChangeAt Go.RowKit
open Cod
theorem rlen29 {n T : Nat} (h1 : 1 ≤ n) (h2 : n ≤ 256) (hT : totN n = T) (w : World) : Calls Tryd.prog 31 #[.int .i64 (8 * (n : Int) + 16)] w fun e w' => e = .returned (.int .i64 (T : Int)) ∧ w = w' := by
  have e : 2 * (8 * (n : Int) + 16 + 2) = (T : Int) := by rw [← hT]; unfold totN; push_cast; omega
  have HE := Lib.hid e
  clear e hT
  go_enter Tryd.func31, Tryd.ntmps31
  go_wp2_with fail
  go_ret
  exact ⟨by rw [← HE.out]; rfl, rfl⟩
theorem rd_bytes29 {w : World} {a : Option Addr} {len : Nat} {xs : List Int} (h : Rd .u8 w a len xs) : ∀ x ∈ xs, 0 ≤ x ∧ x ≤ 255 := fun x hx => bounds_u8 (h.2.1 x hx)
theorem mod29 {x m r : Int} (h : modF x m = r) (w : World) (hm : m ≤ 4611686018427387904) : Calls Tryd.prog 33 #[.int .i64 x, .int .i64 m] w fun e w' => e = .returned (.int .i64 r) ∧ w = w' := h ▸ rollmod_any x m w hm
theorem samey {xs ys : List Int} {B : Bool} (h : decide (xs = ys) = B) (a b : Option Addr) (l c l' c' : Nat) (w : World) (hx : Rd .u8 w a l xs) (hy : Rd .u8 w b l' ys) :
    Calls Tryd.prog 24 #[.slice a l c, .slice b l' c'] w fun e w' => e = .returned (.bool B) ∧ Gr w w' := h ▸ same_bytes24 a b l c l' c' xs ys w hx hy
def ArrRel (b T g12 g13 : Nat) (C : List Int) (q : Pc) (A : An) (blk : List Int) (w wc : World) : Prop :=
  ∃ S, Near C S ∧ Rd .i64 wc (some ⟨b, 0, none⟩) T S ∧ PBlk g12 q wc ∧ ABlk g13 A wc ∧ Rd .u8 wc q.a q.len blk ∧ Gr w wc
theorem PBlk.keptBut {g k : Nat} {c : Pc} {w w' : World} (h : PBlk g c w) (hg : w.grownBy w' (some k)) (hk : g ≠ k) : PBlk g c w' := (hg.block g (heap_lt h) (by simpa using hk)).trans h
set_option maxRecDepth 20000 in
set_option maxHeartbeats 4000000 in
theorem arrives_walk (a : Option Addr) (len cap : Nat) (blk : List Int) (x z y : Int) (w : World) (hl : LaidIn w) (hr : Rd .u8 w a len blk) (h1 : 1 ≤ len) (h2 : len ≤ 25) (hy : 0 ≤ y ∧ y ≤ 255) :
    Calls Tryd.prog 5 #[.slice a len cap, .int .i64 x, .int .i64 z, .int .u8 y] w fun e w' => e = .returned (.bool true) ∧ Gr w w' := by
  have HL := Lib.hid hl
  have HR := Lib.hid hr
  have hby := rd_bytes29 hr
  have hbl := hr.1
  clear hr hl
  obtain ⟨y1, y2⟩ := hy
  obtain ⟨T, hT⟩ : ∃ T, totN len = T := ⟨_, rfl⟩
  have hT1 : 1 ≤ T ∧ T ≤ 436 := by unfold totN at hT; omega
  have HT := Lib.hid hT
  have HBY := Lib.hid hby
  have HBL := Lib.hid hbl
  clear hT hby hbl
  go_enter Tryd.func5, Tryd.ntmps5
  go_wp2_with fail
  refine (rlen29 h1 (by omega) HT.out w).mono ?_
  rintro e w' ⟨rfl, rfl⟩
  go_wp2_with fail
  refine (start_ok ⟨false, none, 0, 0, 0, 0, y % 4, 0⟩ [] a len cap blk T w (valid_of (by simp) (by dsimp only; omega) (by simp) (fun h => by cases h)) rfl (by omega) (by omega) ⟨rfl, by simp, by simp, .inl rfl⟩ (by simp) HR.out).mono ?_
  rintro e w2 ⟨p, hp, rfl, ho2, hg2⟩
  have HP := Lib.hid hp
  have HO2 := Lib.hid ho2
  have HG2 := Lib.hid hg2
  clear hp ho2 hg2
  obtain ⟨v1, hv⟩ : ∃ y, y = (w2).alloc (.cells #[.bool false, .slice none 0 0, .int .i64 0, .int .i64 0, .int .i64 0, .int .i64 0] 24) := ⟨_, rfl⟩
  obtain ⟨w3, hw⟩ : ∃ y, y = v1.setCells (w2).heap.size 0 (PList p) := ⟨_, rfl⟩
  obtain ⟨hf1, hf2, hf3⟩ := pnew_facts hv hw
  have HV1 := Lib.hid hv
  have HW1 := Lib.hid hw
  have HTH1 := Lib.hid hf1
  have HPB1 := Lib.hid hf2
  have HGR1 := Lib.hid hf3
  clear hv hw hf1 hf2 hf3
  go_upto_region 5 with (rw [← HV1.out]; refine wpList_store_mid rfl 24 _ _ rfl w2.heap.size 0 (PList p).toArray rfl rfl HTH1.out (by kernel_rfl) (plist_one _) ?_; rw [← HW1.out])
  clear HV1 HW1 HTH1
  have hb' := (HPB1).out
  unfold PBlk PCells at hb'
  have HPU1 := Lib.hid hb'
  clear hb'
  have p1 : p.fresh = 1 := HP.out.fresh
  have p2 : p.ver = 0 := HP.out.ver
  have p3 : p.tries = 0 := HP.out.tries
  have p4 : p.len = len := HP.out.len
  have p5 : p.coded = T := HP.out.coded
  have p6 : p.act = true := HP.out.act
  have hpv : validPc p = true := valid_of (by omega) (by omega) (by omega) (fun _ => by omega)
  have HPF := Lib.hid (And.intro p1 (And.intro p2 (And.intro p3 (And.intro p4 (And.intro p5 p6)))))
  have HPV := Lib.hid hpv
  clear p1 p2 p3 p4 p5 p6 hpv
  go_wp2_with (refine wpList_load_w rfl 24 _ rfl w2.heap.size rfl 24 _ _ _ HPU1.out Tryd.underlying24 rfl (by kernel_rfl) ?_)
  refine (send_ok p blk 0 0 T w3 (HL.out.kept (HG2.out.trans HGR1.out)) HPV.out HPF.out.2.2.2.2.2 (by omega) (by rw [HPF.out.2.2.1]; decide) HPF.out.2.1 HPF.out.2.2.2.2.1 (HO2.out.stay HGR1.out).rd).mono ?_
  rintro e w4 ⟨q, A, l4, c4, hq, hA, rfl, ho4, hl4, hg4⟩
  have q1 : q.fresh = 1 := hq.fresh.trans HPF.out.1
  have q2 : q.ver = 1 := hq.ver.trans (by show (p.ver + 1) % 4 = 1; rw [HPF.out.2.1]; rfl)
  have q3 : q.tries = 1 := hq.tries.trans (by show p.tries + 1 = 1; rw [HPF.out.2.2.1]; rfl)
  have q4 : q.len = len := hq.len.trans HPF.out.2.2.2.1
  have q5 : q.coded = T := hq.coded.trans HPF.out.2.2.2.2.1
  have q6 : q.act = true := hq.act.trans HPF.out.2.2.2.2.2
  have hqv : validPc q = true := valid_of (by omega) (by omega) (by omega) (fun _ => by omega)
  have HQF := Lib.hid (And.intro q1 (And.intro q2 (And.intro q3 (And.intro q4 (And.intro q5 q6)))))
  have HQV := Lib.hid hqv
  have hA2 : A = ⟨0, 1, 0, len, T⟩ := by
    have h := HPF.out
    rw [hA, h.1, h.2.1, h.2.2.2.1, h.2.2.2.2.1]
  have HA := Lib.hid hA2
  have HO4 := Lib.hid ho4
  have HL4 := Lib.hid hl4
  have HG4 := Lib.hid ((HG2.out.trans HGR1.out).trans hg4)
  clear hq hA hA2 ho4 hl4 hg4 q1 q2 q3 q4 q5 q6 hqv HPU1
  obtain ⟨va2, hva⟩ : ∃ y, y = (w4).alloc (.cells #[.bool false, .slice none 0 0, .int .i64 0, .int .i64 0, .int .i64 0, .int .i64 0] 24) := ⟨_, rfl⟩
  obtain ⟨v2, hv⟩ : ∃ y, y = va2.alloc (.cells #[.int .i64 0, .int .i64 0, .int .i64 0, .int .i64 0, .int .i64 0] 29) := ⟨_, rfl⟩
  obtain ⟨wa2, hwa⟩ : ∃ y, y = v2.setCells (w4).heap.size 0 (PList q) := ⟨_, rfl⟩
  obtain ⟨w5, hw⟩ : ∃ y, y = wa2.setCells ((w4).heap.size + 1) 0 (AList A) := ⟨_, rfl⟩
  obtain ⟨hf1, hf2, hf3, hf4, hf5⟩ := snew_facts hva hv hwa hw
  have HVA2 := Lib.hid hva
  have HV2 := Lib.hid hv
  have HWA2 := Lib.hid hwa
  have HW2 := Lib.hid hw
  have HTH2 := Lib.hid hf1
  have HTA2 := Lib.hid hf2
  have HPB2 := Lib.hid hf3
  have HAB2 := Lib.hid hf4
  have HGR2 := Lib.hid hf5
  clear hva hv hwa hw hf1 hf2 hf3 hf4 hf5
  go_upto_region 6 with (first | (rw [← HVA2.out, ← HV2.out]; refine wpList_store_mid rfl 24 _ _ rfl w4.heap.size 0 (PList q).toArray rfl rfl HTH2.out (by kernel_rfl) (plist_one _) ?_; rw [← HWA2.out]) | (refine wpList_store_mid rfl 29 _ _ rfl (w4.heap.size + 1) 0 (AList A).toArray rfl rfl HTA2.out (by kernel_rfl) (alist_one _) ?_; rw [← HW2.out]))
  clear HV2 HVA2 HW2 HWA2 HTH2 HTA2
  go_wp2_with fail
  refine (rof_any l4 T c4 (sentL blk 0 T) 30 none 0 0 [] w5 (HL4.out.stay HGR2.out).rd (sentL_bits _ _ _) (by omega) ⟨rfl, by simp, by simp, .inl rfl⟩ (by simp) (by omega) (by omega)).mono ?_
  rintro e w6 ⟨s6, c6, rfl, ho6, hg6⟩
  obtain ⟨C, hC⟩ : ∃ C, enc (wordL blk) = C := ⟨_, rfl⟩
  have hsc : sentL blk 0 T = C := by rw [← hC, ← sent_all, HBL.out, HT.out]
  rw [hsc] at ho6
  have hCb : isBits C := by rw [← hC]; exact encW_bits blk
  have hCl : C.length = T := by rw [← hC, encW_len, HBL.out, HT.out]
  obtain ⟨bs, ebs, hbs1, hbs2⟩ := own_some ho6 (by omega)
  subst ebs
  have HO6 := Lib.hid ho6
  have HG56 := Lib.hid hg6
  have HAB6 := Lib.hid (HAB2.out.kept hg6)
  have HPB6 := Lib.hid (HPB2.out.kept hg6)
  have HG6 := Lib.hid ((HG4.out.trans HGR2.out).trans hg6)
  have HB6 := Lib.hid ((HO4.out.stay (HGR2.out.trans hg6)).rd)
  have HBW := Lib.hid (show w5.heap.size ≤ bs from hbs1)
  have h65 := heap_lt HPB2.out
  have h66 := heap_lt HAB2.out
  have hw5s : w.heap.size ≤ w5.heap.size := (HG4.out.trans HGR2.out).size
  have HCC := Lib.hid hC
  have HCB := Lib.hid hCb
  have HCL := Lib.hid hCl
  clear ho6 hg6 hC hsc hCb hCl hbs1 hbs2 HPB2 HAB2
  obtain ⟨i, hi⟩ : ∃ i : Nat, modF x T = i := ⟨(modF x T).toNat, by have := modF_lo x T; omega⟩
  obtain ⟨k, hk⟩ : ∃ k : Nat, modF z T = k := ⟨(modF z T).toNat, by have := modF_lo z T; omega⟩
  have hiT : i < T := by have := modF_hi x T (by omega); omega
  have hkT : k < T := by have := modF_hi z T (by omega); omega
  have HI := Lib.hid hi
  have HK := Lib.hid hk
  clear hi hk
  go_wp2_with fail
  refine (mod29 HI.out w6 (by omega)).mono ?_
  rintro e w' ⟨rfl, rfl⟩
  go_wp2_with fail
  refine (mod29 HK.out w6 (by omega)).mono ?_
  rintro e w' ⟨rfl, rfl⟩
  obtain ⟨hn2, hn1⟩ := near_two HCB.out i k (by rw [HCL.out]; exact hiT) (by rw [HCL.out]; exact hkT)
  have hr1 := softOk_at (ofL_ok C [] 30) i
  obtain ⟨ci, fi⟩ := HO6.out.at i hiT
  obtain ⟨u, hu⟩ : ∃ u, (ofL C [] 30)[i]?.getD 0 = u := ⟨_, rfl⟩
  have hset1 : flipL (ofL C [] 30) i = (ofL C [] 30).set i (-u) := by unfold flipL; rw [hu]
  rw [hu] at ci hr1
  obtain ⟨r1, r2⟩ := hr1
  go_upto_region 13 with (fail)
  obtain ⟨w7, hw7⟩ : ∃ w7, w7 = w6.setCell ⟨bs, i, none⟩ (.int .i64 (-u)) := ⟨_, rfl⟩
  rw [← hw7]
  have hgs7 : w6.grownBy w7 (some bs) := by rw [hw7]; exact grown_setAt _ _ _ _
  have ho7 : OwnI w5.heap.size 3 .i64 w7 (some ⟨bs, 0, none⟩) T c6 (flipL (ofL C [] 30) i) := by
    rw [hset1, hw7]; exact HO6.out.set i (-u) (WalkArith.wf_i64 (by constructor <;> omega))
  have hbw := HBW.out
  have HO7 := Lib.hid ho7
  have HAB7 := Lib.hid (HAB6.out.keptBut hgs7 (by omega))
  have HPB7 := Lib.hid (HPB6.out.keptBut hgs7 (by omega))
  have HG7 := Lib.hid (show Gr w w7 by rw [hw7]; exact grown_set HG6.out (a := ⟨bs, i, none⟩) (by show w.heap.size ≤ bs; omega) _)
  have HOQ7 := Lib.hid ((HO4.out.stay (HGR2.out.trans HG56.out)).kept hgs7 (by
    cases hv : (Value.slice q.a q.len q.cap).ownBlock with
    | none => exact .inl rfl
    | some b => exact .inr (by intro h3; have := (HO4.out.below b hv).2; have := HGR2.out.size; cases h3; omega)))
  have HB7 := Lib.hid HOQ7.out.rd
  have HN1 := Lib.hid hn1
  have HN2 := Lib.hid hn2
  clear hw7 hgs7 ho7 hn1 hn2 hset1 hu ci fi r1 r2 HO6 HAB6 HPB6 HG6 HB6 HG56
  have hne : (if k = i then flipL (ofL C [] 30) i else flipL (flipL (ofL C [] 30) i) k) = (if k = i then flipL (ofL C [] 30) i else flipL (flipL (ofL C [] 30) i) k) := rfl
  clear hne
  obtain ⟨D, hD⟩ : ∃ D, ((k : Int) != (i : Int)) = D := ⟨_, rfl⟩
  have HD := Lib.hid hD
  go_upto_if 98 with (fail)
  clear hD
  go_cut [] from 99 to 106 (fun wc => ArrRel bs T w4.heap.size (w4.heap.size + 1) C q A blk w wc)
  case first =>
    cases D
    · go_wp2_with fail
      go_meet
      exact ⟨_, HN1.out, HO7.out.rd, HPB7.out, HAB7.out, HB7.out, HG7.out⟩
    · have hr2 := softOk_at (show softOk (flipL (ofL C [] 30) i) from near_soft HCB.out HN1.out) k
      obtain ⟨ck, fk⟩ := HO7.out.at k hkT
      obtain ⟨v, hv⟩ : ∃ v, (flipL (ofL C [] 30) i)[k]?.getD 0 = v := ⟨_, rfl⟩
      have hset2 : flipL (flipL (ofL C [] 30) i) k = (flipL (ofL C [] 30) i).set k (-v) := by
        have h0 : ∀ L : List Int, flipL L k = L.set k (-(L[k]?.getD 0)) := fun L => rfl
        rw [h0, hv]
      rw [hv] at ck hr2
      obtain ⟨r1, r2⟩ := hr2
      obtain ⟨w8, hw8⟩ : ∃ w8, w8 = w7.setCell ⟨bs, k, none⟩ (.int .i64 (-v)) := ⟨_, rfl⟩
      have hgs8 : w7.grownBy w8 (some bs) := by rw [hw8]; exact grown_setAt _ _ _ _
      have ho8 : OwnI w5.heap.size 3 .i64 w8 (some ⟨bs, 0, none⟩) T c6 (flipL (flipL (ofL C [] 30) i) k) := by
        rw [hset2, hw8]; exact HO7.out.set k (-v) (WalkArith.wf_i64 (by constructor <;> omega))
      have hg8 : Gr w w8 := by rw [hw8]; exact grown_set HG7.out (a := ⟨bs, k, none⟩) (by show w.heap.size ≤ bs; omega) _
      have hb8 := HOQ7.out.kept hgs8 (by
        cases hv : (Value.slice q.a q.len q.cap).ownBlock with
        | none => exact .inl rfl
        | some b => exact .inr (by intro h3; have := (HO4.out.below b hv).2; have := HGR2.out.size; cases h3; omega))
      have HREL := Lib.hid (show ArrRel bs T w4.heap.size (w4.heap.size + 1) C q A blk w w8 from ⟨_, HN2.out, ho8.rd, HPB7.out.keptBut hgs8 (by omega), HAB7.out.keptBut hgs8 (by omega), hb8.rd, hg8⟩)
      have HW8 := Lib.hid hw8
      clear hw8 hgs8 ho8 hg8 hb8 hset2 hv
      go_wp2_with fail
      rw [← HW8.out]
      go_meet
      exact HREL.out
  case rest =>
    obtain ⟨S, hS, hrs, hpb, hab, hrb, hgw⟩ := hcut
    have HS := Lib.hid hS
    have HRS := Lib.hid hrs
    have HPBc := Lib.hid hpb
    have HABc := Lib.hid hab
    have HRBc := Lib.hid hrb
    have HGc := Lib.hid hgw
    have HLS := Lib.hid (show S.length = T by rw [hS.1, HCL.out])
    have HSO := Lib.hid (near_soft HCB.out hS)
    have HDEC := Lib.hid (show dec (8 * blk.length + 16) S 0 = wordL blk from near_dec (by rw [HBL.out]; omega) (by rw [HCC.out]; exact hS))
    clear hS hrs hpb hab hrb hgw HO7 HAB7 HPB7 HG7 HB7 HN1 HN2 HO4
    have hb' := (HABc).out
    unfold ABlk ACells at hb'
    have HABU := Lib.hid hb'
    clear hb'
    go_wp2_with (refine wpList_load_w rfl 29 _ rfl (w4.heap.size + 1) rfl 29 _ _ _ HABU.out Tryd.underlying29 rfl (by kernel_rfl) ?_)
    have hfr : recF zeroC [] A S = ⟨0, ⟨1, len, none, T, 0, true, true⟩, S, true, blk⟩ := by
      have h := first_rec (num := 0) (T := T) (S := S) HBY.out (by rw [HBL.out]; omega) (by rw [HBL.out]; exact HT.out) (by omega) HLS.out HSO.out HDEC.out
      rw [HBL.out] at h
      rw [HA.out]; exact h
    refine (receive_ok (c := zeroC) (ss := []) (a := A) hfr (some ⟨bs, 0, none⟩) T c6 wc (HL.out.kept HGc.out) ⟨rfl, by simp, by simp [zeroC], .inl rfl⟩ (by simp [zeroC]) HRS.out).mono ?_
    rintro e w9 ⟨r, ab, nb, cb, hrl, hnb, rfl, hor, hob, hg9⟩
    have HRL := Lib.hid hrl
    have HNB := Lib.hid hnb
    have HOR := Lib.hid hor
    have HOB := Lib.hid hob
    have HG9 := Lib.hid (HGc.out.trans hg9)
    have HAB9 := Lib.hid (HABc.out.kept hg9)
    have HPB9 := Lib.hid (HPBc.out.kept hg9)
    have HRB9 := Lib.hid (rd_gr HRBc.out hg9)
    clear hrl hnb hor hob hg9 HABU hfr
    obtain ⟨v3, hv⟩ : ∃ y, y = (w9).alloc (.cells #[.int .i64 0, .int .i64 0, .slice none 0 0, .bool false, .bool false] 27) := ⟨_, rfl⟩
    obtain ⟨w10, hw⟩ : ∃ y, y = v3.setCells (w9).heap.size 0 (CList r) := ⟨_, rfl⟩
    obtain ⟨hf1, hf2, hf3⟩ := cnew_facts hv hw
    have HV3 := Lib.hid hv
    have HW3 := Lib.hid hw
    have HTH3 := Lib.hid hf1
    have HPB3 := Lib.hid hf2
    have HGR3 := Lib.hid hf3
    clear hv hw hf1 hf2 hf3
    have HAB10 := Lib.hid (HAB9.out.kept HGR3.out)
    have HPB10 := Lib.hid (HPB9.out.kept HGR3.out)
    have HRB10 := Lib.hid (rd_gr HRB9.out HGR3.out)
    have HOR10 := Lib.hid (HOR.out.stay HGR3.out)
    have HOB10 := Lib.hid (HOB.out.stay HGR3.out)
    have HG10 := Lib.hid (HG9.out.trans HGR3.out)
    have HW49 := Lib.hid (show w4.heap.size + 1 < w9.heap.size from heap_lt HAB9.out)
    go_upto_region 16 with (rw [← HV3.out]; refine wpList_store_mid rfl 27 _ _ rfl w9.heap.size 0 (CList r).toArray rfl rfl HTH3.out (by kernel_rfl) (clist_one _) ?_; rw [← HW3.out])
    clear HV3 HW3 HTH3 HAB9 HPB9 HRB9 HOR HOB HG9
    have hb' := (HPB10).out
    unfold PBlk PCells at hb'
    have HPU := Lib.hid hb'
    clear hb'
    go_wp2_with (refine wpList_load_w rfl 24 _ rfl w4.heap.size rfl 24 _ _ _ HPU.out Tryd.underlying24 rfl (by kernel_rfl) ?_)
    refine (send_ok q blk 0 1 T w10 (HL.out.kept HG10.out) HQV.out HQF.out.2.2.2.2.2 (by omega) (by rw [HQF.out.2.2.1]; decide) HQF.out.2.1 HQF.out.2.2.2.2.1 HRB10.out).mono ?_
    rintro e u1 ⟨r2, A2, l5, c5, -, hA, rfl, -, hl5, hgu1⟩
    have hA2 : A2 = ⟨0, 1, 1, len, T⟩ := by
      have h := HQF.out
      rw [hA, h.1, h.2.1, h.2.2.2.1, h.2.2.2.2.1]
    obtain ⟨v2, hv2⟩ : ∃ y, y = u1.alloc (.cells #[.bool false, .slice none 0 0, .int .i64 0, .int .i64 0, .int .i64 0, .int .i64 0] 24) := ⟨_, rfl⟩
    obtain ⟨u2, hu2⟩ : ∃ y, y = v2.setCells u1.heap.size 0 (PList r2) := ⟨_, rfl⟩
    obtain ⟨u3, hu3⟩ : ∃ y, y = u2.setCells (w4.heap.size + 1) 0 (AList A2) := ⟨_, rfl⟩
    obtain ⟨hf1, -, hf3⟩ := pnew_facts hv2 hu2
    have hab2 := (HAB10.out.kept hgu1).kept hf3
    have hab3 : ABlk (w4.heap.size + 1) A2 u3 := by rw [hu3]; exact ablk_put hab2 A2
    have h4w := (HG4.out).size
    have hg3 : Gr w u3 := by rw [hu3]; exact grown_setCells_new ((HG10.out.trans hgu1).trans hf3) (by omega) _ _
    have hgs3 : u2.grownBy u3 (some (w4.heap.size + 1)) := by rw [hu3]; exact grown_setCells _ _ _ _
    have hg10u2 := hgu1.trans hf3
    have hcb3 : CBlk w9.heap.size r u3 := (HPB3.out.kept hg10u2).keptBut hgs3 (by have := HW49.out; omega)
    have hls : OwnI w10.heap.size 3 .i64 u3 l5 T c5 (sentL blk 1 T) := (hl5.stay hf3).kept hgs3 (by
      cases hv : (Value.slice l5 T c5).ownBlock with
      | none => exact .inl rfl
      | some b => exact .inr (by intro h3; have := (hl5.below b hv).1; have := heap_lt HAB10.out; cases h3; omega))
    have hor3 : OwnI wc.heap.size 3 .i64 u3 r.a r.len r.cap S := (HOR10.out.stay hg10u2).kept hgs3 (by
      cases hv : (Value.slice r.a r.len r.cap).ownBlock with
      | none => exact .inl rfl
      | some b => exact .inr (by intro h3; have := (HOR10.out.below b hv).1; have := heap_lt HABc.out; cases h3; omega))
    have hob3 : OwnI wc.heap.size 5 .u8 u3 ab nb cb blk := (HOB10.out.stay hg10u2).kept hgs3 (by
      cases hv : (Value.slice ab nb cb).ownBlock with
      | none => exact .inl rfl
      | some b => exact .inr (by intro h3; have := (HOB10.out.below b hv).1; have := heap_lt HABc.out; cases h3; omega))
    have HTP := Lib.hid hf1
    have HTA := Lib.hid (ablk_there hab2)
    have HV2 := Lib.hid hv2
    have HU2 := Lib.hid hu2
    have HU3 := Lib.hid hu3
    have HAB3 := Lib.hid hab3
    have HG3' := Lib.hid hg3
    have HCB3 := Lib.hid hcb3
    have HLS3 := Lib.hid hls
    have HOR3 := Lib.hid hor3
    have HOB3 := Lib.hid hob3
    have HA2 := Lib.hid hA2
    clear hA hA2 hl5 hgu1 hv2 hu2 hu3 hf1 hf3 hab2 hab3 hg3 hgs3 hg10u2 hcb3 hls hor3 hob3 HPU
    go_upto_region 17 with (first | (rw [← HV2.out]; refine wpList_store_mid rfl 24 _ _ rfl u1.heap.size 0 (PList r2).toArray rfl rfl HTP.out (by kernel_rfl) (plist_one _) ?_; rw [← HU2.out]) | (refine wpList_store_mid rfl 29 _ _ rfl (w4.heap.size + 1) 0 (AList A2).toArray rfl rfl HTA.out (by kernel_rfl) (alist_one _) ?_; rw [← HU3.out]))
    clear HV2 HU2 HU3 HTP HTA
    go_wp2_with fail
    refine (rof_any l5 T c5 (sentL blk 1 T) 30 none 0 0 [] u3 HLS3.out.rd (sentL_bits _ _ _) (by omega) ⟨rfl, by simp, by simp, .inl rfl⟩ (by simp) (by omega) (by omega)).mono ?_
    rintro e u4 ⟨s4, c4', rfl, ho4, hg4⟩
    have HO4 := Lib.hid ho4
    have HG4' := Lib.hid (HG3'.out.trans hg4)
    have HAB4 := Lib.hid (HAB3.out.kept hg4)
    have HCB4 := Lib.hid (HCB3.out.kept hg4)
    have HOR4 := Lib.hid (HOR3.out.stay hg4)
    have HOB4 := Lib.hid (HOB3.out.stay hg4)
    clear ho4 hg4
    have hb' := (HAB4).out
    unfold ABlk ACells at hb'
    have HABU := Lib.hid hb'
    clear hb'
    have hb' := (HCB4).out
    unfold CBlk CCells at hb'
    have HCBU := Lib.hid hb'
    clear hb'
    go_wp2_with (first | (refine wpList_load_w rfl 27 _ rfl w9.heap.size rfl 27 _ _ _ HCBU.out Tryd.underlying27 rfl (by kernel_rfl) ?_) | (refine wpList_load_w rfl 29 _ rfl (w4.heap.size + 1) rfl 29 _ _ _ HABU.out Tryd.underlying29 rfl (by kernel_rfl) ?_))
    have hfr2 : recF r S A2 (ofL (sentL blk 1 T) [] 30) = ⟨0, r, S, true, []⟩ :=
      again_rec (n := len) (T := T) HT.out (by rw [HA2.out]; unfold anB sizedB codedB; rw [decide_eq_true (by dsimp only; omega), decide_eq_true (by dsimp only; omega), decide_eq_true (by dsimp only; omega)]; rfl) HRL.out.some (by rw [HA2.out]; exact HRL.out.fresh) (by rw [HA2.out]; exact HRL.out.size) (by rw [HA2.out]) HRL.out.len HRL.out.done HSO.out (by rw [ofL_len, sentL_len, HA2.out]) (ofL_ok _ _ _)
    refine (receive_ok (c := r) (ss := S) (a := A2) hfr2 s4 T c4' u4 (HL.out.kept HG4'.out) HOR4.out.rd (by rw [HRL.out.len]; dsimp only; omega) HO4.out.rd).mono ?_
    rintro e u5 ⟨r3, ab3, nb3, cb3, hrl3, hnb3, rfl, -, -, hg5⟩
    obtain rfl : nb3 = 0 := hnb3
    have HG5 := Lib.hid (HG4'.out.trans hg5)
    have HOB5 := Lib.hid (HOB4.out.stay hg5)
    clear hrl3 hg5 hfr2 HABU HCBU
    obtain ⟨v6, hv⟩ : ∃ y, y = (u5).alloc (.cells #[.int .i64 0, .int .i64 0, .slice none 0 0, .bool false, .bool false] 27) := ⟨_, rfl⟩
    obtain ⟨u6, hw⟩ : ∃ y, y = v6.setCells (u5).heap.size 0 (CList r3) := ⟨_, rfl⟩
    obtain ⟨hf1, hf2, hf3⟩ := cnew_facts hv hw
    have HV6 := Lib.hid hv
    have HW6 := Lib.hid hw
    have HTH6 := Lib.hid hf1
    have HPB6 := Lib.hid hf2
    have HGR6 := Lib.hid hf3
    clear hv hw hf1 hf2 hf3
    go_upto_region 19 with (rw [← HV6.out]; refine wpList_store_mid rfl 27 _ _ rfl u5.heap.size 0 (CList r3).toArray rfl rfl HTH6.out (by kernel_rfl) (clist_one _) ?_; rw [← HW6.out])
    go_wp2_with fail
    refine (samey (decide_eq_true (rfl : blk = blk)) ab a nb cb len cap u6 (HOB5.out.stay HGR6.out).rd (rd_gr HR.out (HG5.out.trans HGR6.out))).mono ?_
    rintro e u7 ⟨rfl, hg7⟩
    have HG7 := Lib.hid ((HG5.out.trans HGR6.out).trans hg7)
    clear hg7
    go_wp2_with fail
    refine (awake29 u7 (HL.out.kept HG7.out)).mono ?_
    rintro e u8 ⟨rfl, hg8⟩
    have HG8 := Lib.hid (HG7.out.trans hg8)
    clear hg8
    go_wp2_with fail
    go_ret
    exact ⟨rfl, HG8.out⟩
theorem arrives_no (a : Option Addr) (len cap : Nat) (x z y : Int) (w : World) (hl : LaidIn w) (hL : len = 0 ∨ 25 < len) (h1 : len ≤ 140737488351232) :
    Calls Tryd.prog 5 #[.slice a len cap, .int .i64 x, .int .i64 z, .int .u8 y] w fun e w' => e = .returned (.bool true) ∧ Gr w w' := by
  have HL := Lib.hid hl
  clear hl
  go_enter Tryd.func5, Tryd.ntmps5
  by_cases h0 : len = 0
  · subst h0
    go_wp2_with fail
    refine (awake29 w HL.out).mono ?_
    rintro e w4 ⟨rfl, hg4⟩
    have HG4 := Lib.hid hg4
    clear hg4
    go_wp2_with fail
    go_ret
    exact ⟨rfl, HG4.out⟩
  · have h3 : ¬ (len : Int) < 1 := by omega
    have h4 : (25 : Int) < len := by omega
    go_wp2_with fail
    refine (awake29 w HL.out).mono ?_
    rintro e w4 ⟨rfl, hg4⟩
    have HG4 := Lib.hid hg4
    clear hg4
    go_wp2_with fail
    go_ret
    exact ⟨rfl, HG4.out⟩
theorem arrives_fit (a : Option Addr) (len cap : Nat) (xs : List Int) (x z y : Int) (w : World) (hl : LaidIn w) (hr : Rd .u8 w a len xs) (_hc : len ≤ cap) (hL : len ≤ 140737488351232) (_hx : i64 x) (_hz : i64 z) (hy : 0 ≤ y ∧ y ≤ 255) :
    Calls Tryd.prog 5 #[.slice a len cap, .int .i64 x, .int .i64 z, .int .u8 y] w fun e w' => e = .returned (.bool true) ∧ Below w.heap.size w w' := by
  have key : Calls Tryd.prog 5 #[.slice a len cap, .int .i64 x, .int .i64 z, .int .u8 y] w fun e w' => e = .returned (.bool true) ∧ Gr w w' := by
    by_cases h : len = 0 ∨ 25 < len
    · exact arrives_no a len cap x z y w hl h hL
    · exact arrives_walk a len cap xs x z y w hl hr (by omega) (by omega) hy
  exact key.mono fun _ _ ⟨he, hg⟩ => ⟨he, Below.of_none hg⟩
end Go.Proofs.YtcleegibdcphiaaDoor
