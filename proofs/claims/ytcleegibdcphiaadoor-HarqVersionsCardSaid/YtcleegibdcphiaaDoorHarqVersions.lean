/- The law HarqVersions: its walk. -/
import Derived.Test.YtcleegibdcphiaaDoorHarV
import Derived.Test.YtcleegibdcphiaaDoorHarX
import Derived.Test.YtcleegibdcphiaaDoorHarP
namespace Go.Proofs.YtcleegibdcphiaaDoor
open Go.ChangeShapes Go.WideShapes Go.ChangeAt Go.RowKit
open Cod
theorem mod29v {x m r : Int} (h : modF x m = r) (w : World) (hm : m ≤ 4611686018427387904) : Calls Tryd.prog 33 #[.int .i64 x, .int .i64 m] w fun e w' => e = .returned (.int .i64 r) ∧ w = w' := h ▸ rollmod_any x m w hm
theorem ints29 {xs ys : List Int} {B : Bool} (h : decide (xs = ys) = B) (a b : Option Addr) (l c l' c' : Nat) (w : World) (hx : Rd .i64 w a l xs) (hy : Rd .i64 w b l' ys) :
    Calls Tryd.prog 19 #[.slice a l c, .slice b l' c'] w fun e w' => e = .returned (.bool B) ∧ Gr w w' := h ▸ same_ints a b l c l' c' xs ys w hx hy
def verP (len T i : Nat) : Pc := ⟨true, none, len, 0, T, 1, ((i % 4 : Nat) : Int), i⟩
def verX (blk : List Int) (T i : Nat) : List (List Int) := (List.range i).map fun j => sentL blk (j % 4) T
theorem verX_at (blk : List Int) (T i j : Nat) (h : j < i) : (verX blk T i)[j]? = some (sentL blk (j % 4) T) := by
  unfold verX
  rw [List.getElem?_map, List.getElem?_range h]; rfl
theorem verX_snoc (blk : List Int) (T i : Nat) : verX blk T (i + 1) = verX blk T i ++ [sentL blk (i % 4) T] := by
  unfold verX
  rw [List.range_succ, List.map_append]; rfl
def VRel (B g9 g11 len T : Nat) (blk blk2 : List Int) (w : World) (f t : Value) (wr : World) : Prop :=
  ∃ (i : Nat) (p q : Pc) (af : Option Addr) (cf : Nat), i ≤ 8 ∧ t = .int .i64 i ∧ f = .slice af i cf ∧ p.Like (verP len T i) ∧ q.Like (verP len T i) ∧ PBlk g9 p wr ∧ PBlk g11 q wr ∧ Rd .u8 wr p.a p.len blk ∧ Rd .u8 wr q.a q.len blk2 ∧ OwnSI B wr af i cf (verX blk T i) ∧ Gr w wr
theorem verP_next (len T i : Nat) {r p : Pc} (hp : p.Like (verP len T i)) (hr : r.Like { p with tries := p.tries + 1, ver := (p.ver + 1) % 4 }) : r.Like (verP len T (i + 1)) := by
  refine ⟨hr.act.trans hp.act, hr.len.trans hp.len, hr.coded.trans hp.coded, hr.fresh.trans hp.fresh, hr.ver.trans ?_, hr.tries.trans ?_⟩
  · show (p.ver + 1) % 4 = (((i + 1) % 4 : Nat) : Int)
    rw [hp.ver]; show (((i % 4 : Nat) : Int) + 1) % 4 = _; omega
  · show p.tries + 1 = ((i + 1 : Nat) : Int)
    rw [hp.tries]; show (i : Int) + 1 = _; omega
set_option maxRecDepth 20000 in
set_option maxHeartbeats 1000000 in
theorem versions_walk (a : Option Addr) (len cap : Nat) (blk : List Int) (x y : Int) (w : World) (hl : LaidIn w) (hr : Rd .u8 w a len blk) (h1 : 1 ≤ len) (h2 : len ≤ 20) (hy : 0 ≤ y ∧ y ≤ 255) :
    Calls Tryd.prog 9 #[.slice a len cap, .int .i64 x, .int .u8 y] w fun e w' => e = .returned (.bool true) ∧ Gr w w' := by
  have HL := Lib.hid hl
  have hby : ∀ x ∈ blk, 0 ≤ x ∧ x ≤ 255 := fun x hx => bounds_u8 (hr.2.1 x hx)
  have hbl := hr.1
  obtain ⟨T, hT⟩ : ∃ T, totN len = T := ⟨_, rfl⟩
  have hT1 : 1 ≤ T ∧ T ≤ 356 := by unfold totN at hT; omega
  have HTI := Lib.hid (show 2 * (8 * (len : Int) + 18) = (T : Int) by rw [← hT]; unfold totN; push_cast; omega)
  obtain ⟨w1, hw1⟩ : ∃ y, y = w.alloc (.cells #[] 5) := ⟨_, rfl⟩
  have ho := lit_nilB29 w.heap.size w (Nat.le_refl _)
  rw [← hw1] at ho
  have hg1 : Gr w w1 := by rw [hw1]; exact Gr.alloc _ _
  obtain ⟨a3, cap3, w3, hrun, ho3, hg3, _⟩ := app_u8 w.heap.size w1 (some ⟨w.heap.size, 0, none⟩) 0 0 [] ho a len cap blk (hr.kept hg1) (by omega) hg1.size
  rw [Nat.zero_add] at hrun ho3
  rw [List.nil_append] at ho3
  have HRUN := Lib.hid hrun
  have HO3 := Lib.hid ho3
  have HG3 := Lib.hid (grown_own hg1 ho (Nat.le_refl _) hg3)
  have HW1 := Lib.hid hw1
  have HR := Lib.hid hr
  have HBY := Lib.hid hby
  have HBL := Lib.hid hbl
  have HT := Lib.hid hT
  obtain ⟨y1, y2⟩ := hy
  obtain ⟨j, hj⟩ : ∃ j : Nat, modF x len = j := ⟨(modF x len).toNat, by have := modF_lo x len; omega⟩
  have hjl : j < len := by have := modF_hi x len (by omega); omega
  have HJ := Lib.hid hj
  clear ho3 hrun hg1 ho hw1 hr hg3 hl hby hbl hT hj
  go_enter Tryd.func9, Tryd.ntmps9
  go_upto_region 5 with (at_builtin; (have hw1 := HW1.out; rw [← hw1]; clear hw1); refine wpList_app rfl _ _ _ rfl rfl rfl HRUN.out ?_)
  rw [HTI.out]
  clear HRUN HW1
  go_wp2_with fail
  refine (mod29v HJ.out w3 (by omega)).mono ?_
  rintro e w' ⟨rfl, rfl⟩
  obtain ⟨b3, e3, -, -⟩ := own_some HO3.out (by omega)
  subst e3
  obtain ⟨cj, fj⟩ := HO3.out.at j hjl
  have hxj := HBY.out (blk[j]?.getD 0) (by rw [List.getElem?_eq_getElem (by rw [HBL.out]; exact hjl)]; exact List.getElem_mem _)
  obtain ⟨u, hu⟩ : ∃ u, blk[j]?.getD 0 = u := ⟨_, rfl⟩
  rw [hu] at cj hxj
  have hxx := xor29 (x := u) (k := 1 + y % 255) hxj (by omega)
  obtain ⟨k, hk⟩ : ∃ k, bits .xor .u8 u (1 + y % 255) = k := ⟨_, rfl⟩
  rw [hk] at hxx
  have HU := Lib.hid hu
  have HKK := Lib.hid hk
  clear hu hk
  obtain ⟨u1, u2⟩ := hxj
  go_upto_region 6 with (fail)
  obtain ⟨w4, hw4⟩ : ∃ w4, w4 = w3.setCell ⟨b3, j, none⟩ (.int .u8 (bits .xor .u8 u (1 + y % 255))) := ⟨_, rfl⟩
  rw [← hw4]
  obtain ⟨blk2, hb2⟩ : ∃ blk2, blk2 = blk.set j k := ⟨_, rfl⟩
  have ho4 : OwnI w.heap.size 5 .u8 w4 (some ⟨b3, 0, none⟩) len cap3 blk2 := by
    rw [hw4, hb2, HKK.out]; exact HO3.out.set j k (WalkArith.wf_u8 hxx.1)
  have hbne : blk ≠ blk2 := by
    intro h
    have h2 := congrArg (fun l : List Int => l[j]?.getD 0) h
    simp only [hb2] at h2
    rw [List.getElem?_set_self (by rw [HBL.out]; exact hjl), HU.out] at h2
    exact hxx.2 h2.symm
  have hbl2 : blk2.length = blk.length := by rw [hb2, List.length_set]
  have hby2 : ∀ x ∈ blk2, 0 ≤ x ∧ x ≤ 255 := fun x hx => bounds_u8 (ho4.rd.2.1 x hx)
  have hg4 : Gr w w4 := by rw [hw4]; exact grown_set HG3.out (a := ⟨b3, j, none⟩) (HO3.out.below b3 rfl).1 _
  have HO4 := Lib.hid ho4
  have HNE := Lib.hid (fun (v : Nat) (hv : v < 4) => show decide (sentL blk v T = sentL blk2 v T) = false from decide_eq_false (fun h => hbne (sent_inj HBY.out hby2 hbl2.symm hv (by rw [HBL.out, HT.out]; exact h))))
  have HG4 := Lib.hid hg4
  clear hw4 hb2 ho4 hbne hbl2 hby2 hg4 cj fj hxx u1 u2 HO3 HG3 HU HKK
  go_wp2_with fail
  refine (start_ok zeroP [] a len cap blk T w4 (by decide) rfl (by omega) (by omega) ⟨rfl, by simp, by simp [zeroP], .inl rfl⟩ (by simp [zeroP]) (rd_gr HR.out HG4.out)).mono ?_
  rintro e w5 ⟨p, hp, rfl, ho5, hg5⟩
  have HP := Lib.hid hp
  have HO5 := Lib.hid ho5
  have HG5 := Lib.hid (HG4.out.trans hg5)
  have HO45 := Lib.hid (HO4.out.stay hg5)
  clear hp ho5 hg5
  obtain ⟨v1, hv⟩ : ∃ y, y = (w5).alloc (.cells #[.bool false, .slice none 0 0, .int .i64 0, .int .i64 0, .int .i64 0, .int .i64 0] 24) := ⟨_, rfl⟩
  obtain ⟨w6, hw⟩ : ∃ y, y = v1.setCells (w5).heap.size 0 (PList p) := ⟨_, rfl⟩
  obtain ⟨hf1, hf2, hf3⟩ := pnew_facts hv hw
  have HV1 := Lib.hid hv
  have HW1 := Lib.hid hw
  have HTH1 := Lib.hid hf1
  have HPB1 := Lib.hid hf2
  have HGR1 := Lib.hid hf3
  clear hv hw hf1 hf2 hf3
  go_upto_region 7 with (rw [← HV1.out]; refine wpList_store_mid rfl 24 _ _ rfl w5.heap.size 0 (PList p).toArray rfl rfl HTH1.out (by kernel_rfl) (plist_one _) ?_; rw [← HW1.out])
  clear HV1 HW1 HTH1
  go_wp2_with fail
  refine (start_ok zeroP [] (some ⟨b3, 0, none⟩) len cap3 blk2 T w6 (by decide) rfl (by omega) (by omega) ⟨rfl, by simp, by simp [zeroP], .inl rfl⟩ (by simp [zeroP]) (HO45.out.stay HGR1.out).rd).mono ?_
  rintro e w7 ⟨q, hq, rfl, ho7, hg7⟩
  have HQ := Lib.hid hq
  have HO7 := Lib.hid ho7
  have HG7 := Lib.hid ((HG5.out.trans HGR1.out).trans hg7)
  have HPB7 := Lib.hid (HPB1.out.kept hg7)
  have HB7 := Lib.hid ((HO5.out.stay HGR1.out).stay hg7)
  clear hq ho7 hg7
  obtain ⟨v2, hv⟩ : ∃ y, y = (w7).alloc (.cells #[.bool false, .slice none 0 0, .int .i64 0, .int .i64 0, .int .i64 0, .int .i64 0] 24) := ⟨_, rfl⟩
  obtain ⟨w8, hw⟩ : ∃ y, y = v2.setCells (w7).heap.size 0 (PList q) := ⟨_, rfl⟩
  obtain ⟨hf1, hf2, hf3⟩ := pnew_facts hv hw
  have HV2 := Lib.hid hv
  have HW2 := Lib.hid hw
  have HTH2 := Lib.hid hf1
  have HPB2 := Lib.hid hf2
  have HGR2 := Lib.hid hf3
  clear hv hw hf1 hf2 hf3
  obtain ⟨g9, hg9⟩ : ∃ g9, w5.heap.size = g9 := ⟨_, rfl⟩
  obtain ⟨g11, hg11⟩ : ∃ g11, w7.heap.size = g11 := ⟨_, rfl⟩
  have h911 : g9 < g11 := by have := heap_lt HPB7.out; omega
  have hwg9 : w.heap.size ≤ g9 := by have := HG5.out.size; omega
  have hb9 := HPB7.out.kept HGR2.out
  have hb11 := HPB2.out
  have h11s := heap_lt hb11
  rw [hg9] at hb9
  rw [hg11] at hb11 h11s
  have HG9 := Lib.hid hg9
  have HWG := Lib.hid hwg9
  have HG11 := Lib.hid hg11
  have HPB9 := Lib.hid hb9
  have HPB11 := Lib.hid hb11
  have HG8 := Lib.hid (HG7.out.trans HGR2.out)
  have HB8 := Lib.hid (HB7.out.stay HGR2.out).rd
  have HQ8 := Lib.hid (HO7.out.stay HGR2.out).rd
  clear hg9 hg11 hb9 hb11
  go_upto_region 8 with (rw [← HV2.out]; refine wpList_store_mid rfl 24 _ _ rfl w7.heap.size 0 (PList q).toArray rfl rfl HTH2.out (by kernel_rfl) (plist_one _) ?_; rw [← HW2.out])
  rw [HG9.out, HG11.out]
  clear HV2 HW2 HTH2 HPB2 HGR2 HPB7 HPB1 HGR1 HO45 HO4 HB7 HO7 HO5
  go_wp2_with fail
  go_loopw [13, 14] (fun f t wr => VRel (g11 + 1) g9 g11 len T blk blk2 w f t wr) (fun _ t _ => 8 - (intOf t).toNat)
  case atStart =>
    refine ⟨0, p, q, none, 0, by omega, rfl, rfl, ?_, ?_, HPB9.out, HPB11.out, HB8.out, HQ8.out, OwnSI.nil _ _, HG8.out⟩
    · have h := HP.out
      exact ⟨h.act, h.len, h.coded, h.fresh, h.ver, h.tries⟩
    · have h := HQ.out
      exact ⟨h.act, h.len, h.coded, h.fresh, h.ver, h.tries⟩
  case round =>
    clear HPB9 HPB11 HB8 HQ8 HG8 HP HQ
    obtain ⟨i, p1, q1, af, cf, hi, rfl, rfl, hp, hq, hb9, hb11, hrp, hrq, hof, hg⟩ := hrel
    by_cases hlt : i < 8
    · have e1 : p1.fresh = 1 := hp.fresh
      have e2 : p1.ver = ((i % 4 : Nat) : Int) := hp.ver
      have e3 : p1.len = len := hp.len
      have e4 : p1.coded = T := hp.coded
      have e5 : p1.tries = i := hp.tries
      have e6 : p1.act = true := hp.act
      have hpv : validPc p1 = true := valid_of (by omega) (by omega) (by omega) (fun _ => by omega)
      have k1 : q1.fresh = 1 := hq.fresh
      have k2 : q1.ver = ((i % 4 : Nat) : Int) := hq.ver
      have k3 : q1.len = len := hq.len
      have k4 : q1.coded = T := hq.coded
      have k5 : q1.tries = i := hq.tries
      have k6 : q1.act = true := hq.act
      have hqv : validPc q1 = true := valid_of (by omega) (by omega) (by omega) (fun _ => by omega)
      have HPF := Lib.hid (And.intro hpv (And.intro e6 (And.intro e5 (And.intro e2 e4))))
      have HQF := Lib.hid (And.intro hqv (And.intro k6 (And.intro k5 (And.intro k2 k4))))
      have HPL := Lib.hid hp
      have HQL := Lib.hid hq
      have HB9 := Lib.hid hb9
      have HB11 := Lib.hid hb11
      have HRP := Lib.hid hrp
      have HRQ := Lib.hid hrq
      have HOF := Lib.hid hof
      have HG := Lib.hid hg
      clear e1 e2 e3 e4 e5 e6 k1 k2 k3 k4 k5 k6 hpv hqv hp hq hb9 hb11 hrp hrq hof hg
      have hb' := (HB9).out
      unfold PBlk PCells at hb'
      have HBU := Lib.hid hb'
      clear hb'
      go_wp2_with (refine wpList_load_w rfl 24 _ rfl g9 rfl 24 _ _ _ HBU.out Tryd.underlying24 rfl (by kernel_rfl) ?_)
      refine (send_ok p1 blk 0 (i % 4) T wr (HL.out.kept HG.out) HPF.out.1 HPF.out.2.1 (by omega) (by rw [HPF.out.2.2.1]; omega) HPF.out.2.2.2.1 HPF.out.2.2.2.2 HRP.out).mono ?_
      rintro e w9 ⟨r1, A1, l1, c1, hr1, -, rfl, hor1, hol1, hg9'⟩
      have HR1 := Lib.hid hr1
      have HOR1 := Lib.hid hor1
      have HOL1 := Lib.hid hol1
      have HB9a := Lib.hid (HB9.out.kept hg9')
      have HB11a := Lib.hid (HB11.out.kept hg9')
      have HRQa := Lib.hid (rd_gr HRQ.out hg9')
      have HOFa := Lib.hid (HOF.out.stay hg9')
      have HGa := Lib.hid (HG.out.trans hg9')
      have HS9 := Lib.hid (show wr.heap.size ≤ w9.heap.size from hg9'.size)
      have HOFB := Lib.hid (show ∀ b, (Value.slice af i cf).ownBlock = some b → b < wr.heap.size from fun b h => by obtain ⟨ss, h2, _⟩ := HOF.out; exact (h2.lt b h).2)
      have H11R := Lib.hid (heap_lt HB11.out)
      clear hr1 hor1 hol1 hg9' HBU HB9 HB11 HRQ HOF
      obtain ⟨va3, hva⟩ : ∃ y, y = (w9).alloc (.cells #[.bool false, .slice none 0 0, .int .i64 0, .int .i64 0, .int .i64 0, .int .i64 0] 24) := ⟨_, rfl⟩
      obtain ⟨v3, hv⟩ : ∃ y, y = va3.alloc (.cells #[.int .i64 0, .int .i64 0, .int .i64 0, .int .i64 0, .int .i64 0] 29) := ⟨_, rfl⟩
      obtain ⟨wa3, hwa⟩ : ∃ y, y = v3.setCells (w9).heap.size 0 (PList r1) := ⟨_, rfl⟩
      obtain ⟨w10, hw⟩ : ∃ y, y = wa3.setCells ((w9).heap.size + 1) 0 (AList A1) := ⟨_, rfl⟩
      obtain ⟨hf1, hf2, hf3, hf4, hf5⟩ := snew_facts hva hv hwa hw
      have HVA3 := Lib.hid hva
      have HV3 := Lib.hid hv
      have HWA3 := Lib.hid hwa
      have HW3 := Lib.hid hw
      have HTH3 := Lib.hid hf1
      have HTA3 := Lib.hid hf2
      have HPB3 := Lib.hid hf3
      have HAB3 := Lib.hid hf4
      have HGR3 := Lib.hid hf5
      clear hva hv hwa hw hf1 hf2 hf3 hf4 hf5
      go_upto_region 13 with (first | (rw [← HVA3.out, ← HV3.out]; refine wpList_store_mid rfl 24 _ _ rfl w9.heap.size 0 (PList r1).toArray rfl rfl HTH3.out (by kernel_rfl) (plist_one _) ?_; rw [← HWA3.out]) | (refine wpList_store_mid rfl 29 _ _ rfl (w9.heap.size + 1) 0 (AList A1).toArray rfl rfl HTA3.out (by kernel_rfl) (alist_one _) ?_; rw [← HW3.out]))
      clear HVA3 HV3 HWA3 HW3 HTH3 HTA3 HAB3
      have HB11b := Lib.hid (HB11a.out.kept HGR3.out)
      have hb' := (HB11b).out
      unfold PBlk PCells at hb'
      have HBU := Lib.hid hb'
      clear hb'
      go_wp2_with (refine wpList_load_w rfl 24 _ rfl g11 rfl 24 _ _ _ HBU.out Tryd.underlying24 rfl (by kernel_rfl) ?_)
      refine (send_ok q1 blk2 0 (i % 4) T w10 (HL.out.kept (HGa.out.trans HGR3.out)) HQF.out.1 HQF.out.2.1 (by omega) (by rw [HQF.out.2.2.1]; omega) HQF.out.2.2.2.1 HQF.out.2.2.2.2 (rd_gr HRQa.out HGR3.out)).mono ?_
      rintro e w11 ⟨r2, A2, l2, c2, hr2, -, rfl, hor2, hol2, hg11'⟩
      have hgx := HGR3.out.trans hg11'
      have HS10 := Lib.hid (show wr.heap.size ≤ w10.heap.size from Nat.le_trans HS9.out HGR3.out.size)
      have HS11 := Lib.hid (show wr.heap.size ≤ w11.heap.size from Nat.le_trans HS10.out hg11'.size)
      have HR2 := Lib.hid hr2
      have HOR2 := Lib.hid hor2
      have HOL2 := Lib.hid hol2
      have HB9c := Lib.hid (HB9a.out.kept hgx)
      have HB11c := Lib.hid (HB11b.out.kept hg11')
      have HOFc := Lib.hid (HOFa.out.stay hgx)
      have HGc := Lib.hid (HGa.out.trans hgx)
      have HOR1c := Lib.hid (HOR1.out.stay hgx)
      have HOL1c := Lib.hid (HOL1.out.stay hgx)
      have HPB3c := Lib.hid (HPB3.out.kept hg11')
      clear hr2 hor2 hol2 hg11' hgx HBU HB9a HB11a HB11b HRQa HOFa HGa HOR1 HOL1 HPB3 HGR3
      obtain ⟨va4, hva⟩ : ∃ y, y = (w11).alloc (.cells #[.bool false, .slice none 0 0, .int .i64 0, .int .i64 0, .int .i64 0, .int .i64 0] 24) := ⟨_, rfl⟩
      obtain ⟨v4, hv⟩ : ∃ y, y = va4.alloc (.cells #[.int .i64 0, .int .i64 0, .int .i64 0, .int .i64 0, .int .i64 0] 29) := ⟨_, rfl⟩
      obtain ⟨wa4, hwa⟩ : ∃ y, y = v4.setCells (w11).heap.size 0 (PList r2) := ⟨_, rfl⟩
      obtain ⟨w12, hw⟩ : ∃ y, y = wa4.setCells ((w11).heap.size + 1) 0 (AList A2) := ⟨_, rfl⟩
      obtain ⟨hf1, hf2, hf3, hf4, hf5⟩ := snew_facts hva hv hwa hw
      have HVA4 := Lib.hid hva
      have HV4 := Lib.hid hv
      have HWA4 := Lib.hid hwa
      have HW4 := Lib.hid hw
      have HTH4 := Lib.hid hf1
      have HTA4 := Lib.hid hf2
      have HPB4 := Lib.hid hf3
      have HAB4 := Lib.hid hf4
      have HGR4 := Lib.hid hf5
      clear hva hv hwa hw hf1 hf2 hf3 hf4 hf5
      go_upto_region 14 with (first | (rw [← HVA4.out, ← HV4.out]; refine wpList_store_mid rfl 24 _ _ rfl w11.heap.size 0 (PList r2).toArray rfl rfl HTH4.out (by kernel_rfl) (plist_one _) ?_; rw [← HWA4.out]) | (refine wpList_store_mid rfl 29 _ _ rfl (w11.heap.size + 1) 0 (AList A2).toArray rfl rfl HTA4.out (by kernel_rfl) (alist_one _) ?_; rw [← HW4.out]))
      clear HVA4 HV4 HWA4 HW4 HTH4 HTA4 HAB4
      go_wp2_with fail
      refine (ints29 (HNE.out (i % 4) (by omega)) l1 l2 T c1 T c2 w12 (HOL1c.out.stay HGR4.out).rd (HOL2.out.stay HGR4.out).rd).mono ?_
      rintro e w13 ⟨rfl, hg13⟩
      have hgy := HGR4.out.trans hg13
      have HB9d := Lib.hid (HB9c.out.kept hgy)
      have HB11d := Lib.hid (HB11c.out.kept hgy)
      have HOFd := Lib.hid (HOFc.out.stay hgy)
      have HGd := Lib.hid (HGc.out.trans hgy)
      have HOR1d := Lib.hid (HOR1c.out.stay hgy)
      have HOL1d := Lib.hid (HOL1c.out.stay hgy)
      have HOR2d := Lib.hid (HOR2.out.stay hgy)
      have HPB3d := Lib.hid (HPB3c.out.kept hgy)
      have HPB4d := Lib.hid (HPB4.out.kept hg13)
      clear hgy hg13 HB9c HB11c HOFc HGc HOR1c HOL1c HOR2 HPB3c HPB4 HOL2 HGR4
      by_cases h4 : i < 4
      · have hq4 : ¬ (4 : Int) ≤ i := by omega
        go_upto_region 16 with (fail)
        clear hq4
        have hg16 : Gr (w13) ((w13).alloc (.cells #[slv ⟨l1, T, c1⟩] 25)) := Gr.alloc _ _
        have h11 := H11R.out
        obtain ⟨a5, c5, w15, hrun, ho5, hg5⟩ := (HOFd.out.stay hg16).app ⟨l1, T, c1⟩ (sentL blk ((i) % 4) T) (HOL1d.out.rd.kept hg16) (fun b off h0 he => by
          have hb1 := (HOL1d.out.below b (by rw [show l1 = some ⟨b, off, none⟩ from he]; rfl)).1
          refine ⟨fun h => ?_, by omega⟩
          have := HOFB.out b h
          omega) ⟨(w13).heap.size, 0, none⟩ (.inr ⟨(w13).heap.size, 0, rfl, by simp, fun i hi => by rw [Nat.zero_add, cell_new]; simp⟩) (by omega) (by have := heap_lt (HB11d.out.kept hg16); omega)
        have hown : ∀ g, g < g11 + 1 → some g ≠ (Value.slice af (i) cf).ownBlock := by
          intro g hg h
          obtain ⟨ss, h2, _⟩ := HOFd.out
          have := (h2.lt g h.symm).1
          omega
        have hnew : ∀ g, (w13).heap.size ≤ g → True := fun _ _ => trivial
        have hownr : ∀ g, wr.heap.size ≤ g → some g ≠ (Value.slice af (i) cf).ownBlock := by
          intro g hg h
          have := HOFB.out g h.symm
          omega
        have hp9 : PBlk g9 p1 w15 := (hg5.block g9 (heap_lt (HB9d.out.kept hg16)) (hown g9 (by omega))).trans (HB9d.out.kept hg16)
        have hp11 : PBlk g11 q1 w15 := (hg5.block g11 (heap_lt (HB11d.out.kept hg16)) (hown g11 (by omega))).trans (HB11d.out.kept hg16)
        have hp3 : PBlk w9.heap.size r1 w15 := (hg5.block _ (heap_lt (HPB3d.out.kept hg16)) (hownr _ HS9.out)).trans (HPB3d.out.kept hg16)
        have hp4 : PBlk w11.heap.size r2 w15 := (hg5.block _ (heap_lt (HPB4d.out.kept hg16)) (hownr _ HS11.out)).trans (HPB4d.out.kept hg16)
        have hgg : Gr w w15 := grownBy_trans (HGd.out.trans hg16) hg5 (by
          cases hv : (Value.slice af (i) cf).ownBlock with
          | none => exact .inr (.inl rfl)
          | some g => exact .inr (.inr ⟨g, rfl, by
            obtain ⟨ss, h2, _⟩ := HOFd.out
            have := (h2.lt g hv).1
            have := HWG.out
            omega⟩))
        have hrest : ∀ {a : Option Addr} {n cap : Nat} {e : TypeId} {kk : IntKind} {xs : List Int}, OwnI wr.heap.size e kk (w13) a n cap xs → OwnI wr.heap.size e kk w15 a n cap xs := by
          intro a n cap e kk xs h
          refine (h.stay hg16).kept hg5 ?_
          cases hv : (Value.slice a n cap).ownBlock with
          | none => exact .inl rfl
          | some b => exact .inr (hownr b (h.below b hv).1)
        have hr1 := hrest HOR1d.out
        have hr2 := hrest (HOR2d.out.weak29 HS10.out)
        rw [← verX_snoc] at ho5
        have HRUN := Lib.hid hrun
        have HO5 := Lib.hid ho5
        have HG5 := Lib.hid hgg
        have HP9 := Lib.hid hp9
        have HP11 := Lib.hid hp11
        have HP3 := Lib.hid hp3
        have HP4 := Lib.hid hp4
        have HR1O := Lib.hid hr1
        have HR2O := Lib.hid hr2
        clear hrun ho5 hgg hg5 hg16 hp9 hp11 hp3 hp4 hr1 hr2 hrest hown hownr hnew h11 HB9d HB11d HOFd HGd HOR1d HOL1d HOR2d HPB3d HPB4d
        go_upto_region 17 with (at_builtin; refine wpList_app rfl _ _ _ rfl rfl rfl HRUN.out ?_)
        have hI : ∀ u, Gr w15 u → PBlk w11.heap.size r2 u := fun u hu => HP4.out.kept hu
        refine Sched2.wp_region_sched (fun u => PBlk w11.heap.size r2 u) [1] [] [2, 3] true hI (by kernel_rfl) (by kernel_rfl) ?_
        refine Sched2.walk1_gr rfl rfl rfl rfl (fun K hK => ?_)
        refine ⟨PVal r1, fun w1 hw1 => Sched2.pq_load_row 24 _ rfl w9.heap.size rfl _ _ _ _ (HP3.out.kept hw1) Tryd.underlying24 rfl (by kernel_rfl), ?_⟩
        simp only [Act.put, List.setIfInBounds_toArray, List.set_cons_zero, List.set_cons_succ]
        refine hK _ ?_
        clear hK K
        refine Sched2.walk1_late rfl rfl rfl rfl (fun K hK => ?_)
        refine ⟨PVal r2, fun w1 hw1 => Sched2.pq_load_row 24 _ rfl w11.heap.size rfl _ _ _ _ hw1 Tryd.underlying24 rfl (by kernel_rfl), ?_⟩
        simp only [Act.put, List.setIfInBounds_toArray, List.set_cons_zero, List.set_cons_succ]
        refine hK _ ?_
        clear hK K
        repeat (first | (refine Sched2.walk1_ord rfl ?_) | (refine Sched2.walk1_no rfl rfl rfl (fun K hK => ?_); simp only [Act.put, List.setIfInBounds_toArray, List.set_cons_zero, List.set_cons_succ]; refine hK _ ?_; clear hK K) | (refine Sched2.walk1_gr rfl rfl rfl rfl (fun K hK => ?_); apply Exists.intro; refine ⟨fun w1 hw1 => ?_, ?_⟩; (focus (go_simp; (try go_ints); (try (simp only [IntWalk.iteOmega]; go_simp)); first | done | fail | (with_reducible rfl) | (with_reducible exact ⟨rfl, rfl⟩))); simp only [Act.put, List.setIfInBounds_toArray, List.set_cons_zero, List.set_cons_succ]; refine hK _ ?_; clear hK K) | (refine Sched2.walk1_late rfl rfl rfl rfl (fun K hK => ?_); apply Exists.intro; refine ⟨fun w1 hw1 => ?_, ?_⟩; (focus (go_simp; (try go_ints); (try (simp only [IntWalk.iteOmega]; go_simp)); first | done | fail | (with_reducible rfl) | (with_reducible exact ⟨rfl, rfl⟩))); simp only [Act.put, List.setIfInBounds_toArray, List.set_cons_zero, List.set_cons_succ]; refine hK _ ?_; clear hK K) | (refine Sched2.walk1_box rfl rfl rfl ?_; apply Exists.intro; refine ⟨fun w1 hw1 => ?_, ?_⟩; (focus (go_simp; exact ⟨Gr.alloc _ _, rfl, by simp, heap_alloc_new _ _⟩))))
        refine Sched2.walk1_nil ?_
        intro wq hwq
        dsimp only [Sched.EndN, List.nil_append, List.cons_append, Act.put]
        (try simp only [List.setIfInBounds_toArray, List.set_cons_zero, List.set_cons_succ])
        simp only [Sched2.lasts, List.filterMap_cons, List.filterMap_nil, List.getElem?_toArray, List.getElem?_cons_succ, List.getElem?_cons_zero]
        obtain ⟨x1, hx1⟩ : ∃ y, y = wq.setCells g9 0 (PList r1) := ⟨_, rfl⟩
        obtain ⟨x2, hx2⟩ : ∃ y, y = x1.setCells g11 0 (PList r2) := ⟨_, rfl⟩
        have ha9 := HP9.out.kept hwq
        have ha11 := pblk_other (HP11.out.kept hwq) (k := g9) (PList r1) (by omega)
        have ha4 := pblk_other (HP4.out.kept hwq) (k := g9) (PList r1) (by have := HS11.out; have := H11R.out; omega)
        have hb9 : PBlk g9 r1 x1 := by rw [hx1]; exact pblk_put ha9 r1
        rw [← hx1] at ha11 ha4
        have hb11 : PBlk g11 r2 x2 := by rw [hx2]; exact pblk_put ha11 r2
        have hc9 : PBlk g9 r1 x2 := by rw [hx2]; exact pblk_other hb9 _ (by omega)
        have hwg := HWG.out
        have hgx : Gr w x2 := by
          rw [hx2, hx1]
          exact grown_setCells_new (grown_setCells_new (HG5.out.trans hwq) hwg _ _) (by omega) _ _
        have h11 := H11R.out
        have hoX : OwnSI (g11 + 1) x2 a5 ((i) + 1) c5 (verX blk T ((i) + 1)) := by
          have h1 := (HO5.out.stay hwq).cells (show g9 < g11 + 1 by omega) (PList r1)
          rw [← hx1] at h1
          have h2 := h1.cells (show g11 < g11 + 1 by omega) (PList r2)
          rw [← hx2] at h2
          exact h2
        have hkp : ∀ {a : Option Addr} {n cap : Nat} {e : TypeId} {kk : IntKind} {xs : List Int}, OwnI wr.heap.size e kk w15 a n cap xs → OwnI wr.heap.size e kk x2 a n cap xs := by
          intro a n cap e kk xs h
          have h1 := own_cells (h.stay hwq) (show g9 < wr.heap.size by omega) (PList r1)
          rw [← hx1] at h1
          have h2 := own_cells h1 (show g11 < wr.heap.size by omega) (PList r2)
          rw [← hx2] at h2
          exact h2
        have HT1 := Lib.hid (pblk_there ha9)
        have HT2 := Lib.hid (pblk_there ha11)
        have HA4 := Lib.hid ha4
        have HX1 := Lib.hid hx1
        have HX2 := Lib.hid hx2
        have HE9 := Lib.hid hc9
        have HE11 := Lib.hid hb11
        have HEG := Lib.hid hgx
        have HEO := Lib.hid hoX
        have HER1 := Lib.hid (hkp HR1O.out)
        have HER2 := Lib.hid (hkp HR2O.out)
        clear ha9 ha11 ha4 hb9 hb11 hc9 hwg hgx hoX hkp hx1 hx2 hwq hI h11
        refine Sched2.walk2_go rfl (fun K hK => ?_)
        refine tq_storeH 24 _ _ rfl g9 0 (PList r1).toArray rfl rfl HT1.out (by kernel_rfl) (plist_one _) ?_
        rw [← HX1.out]
        dsimp only [Act.put]
        try simp only [List.setIfInBounds_toArray, List.set_cons_zero, List.set_cons_succ]
        refine hK _ _ (.inr HA4.out) ?_
        clear hK K
        refine Sched2.walk2_go rfl (fun K hK => ?_)
        refine tq_storeH 24 _ _ rfl g11 0 (PList r2).toArray rfl rfl HT2.out (by kernel_rfl) (plist_one _) ?_
        rw [← HX2.out]
        dsimp only [Act.put]
        try simp only [List.setIfInBounds_toArray, List.set_cons_zero, List.set_cons_succ]
        refine hK _ _ (.inl ⟨rfl, rfl⟩) ?_
        clear hK K
        refine Sched2.walk2_nil ?_
        go_wp2_with fail
        go_roundw
        case rel => exact ⟨(i) + 1, r1, r2, a5, c5, by omega, by go_num, rfl, verP_next _ _ _ HPL.out HR1.out, verP_next _ _ _ HQL.out HR2.out, HE9.out, HE11.out, HER1.out.rd, HER2.out.rd, HEO.out, HEG.out⟩
        case measure => (simp [intOf] <;> omega)
      · obtain ⟨m, rfl⟩ : ∃ m, i = m + 4 := ⟨i - 4, by omega⟩
        have hq4 : (4 : Int) ≤ ((m + 4 : Nat) : Int) := by omega
        obtain ⟨gf, sf, xf, eaf, cgf, hxf, hrf⟩ := HOFd.out.get (i := m) (by omega)
        rw [verX_at blk T (m + 4) m (by omega)] at hxf
        injection hxf with hxf
        subst eaf
        have hrf2 : Rd .i64 w13 sf.a sf.n (sentL blk ((m + 4) % 4) T) := by
          rw [show (m + 4) % 4 = m % 4 by omega, hxf]; exact hrf
        have HRF := Lib.hid hrf2
        clear hxf hrf hrf2
        go_wp2_with fail
        refine (ints29 (decide_eq_true rfl) l1 sf.a T c1 sf.n sf.c w13 HOL1d.out.rd HRF.out).mono ?_
        rintro e w14 ⟨rfl, hg14⟩
        have HB9e := Lib.hid (HB9d.out.kept hg14)
        have HB11e := Lib.hid (HB11d.out.kept hg14)
        have HOFe := Lib.hid (HOFd.out.stay hg14)
        have HGe := Lib.hid (HGd.out.trans hg14)
        have HOR1e := Lib.hid (HOR1d.out.stay hg14)
        have HOL1e := Lib.hid (HOL1d.out.stay hg14)
        have HOR2e := Lib.hid (HOR2d.out.stay hg14)
        have HPB3e := Lib.hid (HPB3d.out.kept hg14)
        have HPB4e := Lib.hid (HPB4d.out.kept hg14)
        clear hg14 HB9d HB11d HOFd HGd HOR1d HOL1d HOR2d HPB3d HPB4d cgf
        go_upto_region 16 with (fail)
        have hg16 : Gr (w14) ((w14).alloc (.cells #[slv ⟨l1, T, c1⟩] 25)) := Gr.alloc _ _
        have h11 := H11R.out
        obtain ⟨a5, c5, w15, hrun, ho5, hg5⟩ := (HOFe.out.stay hg16).app ⟨l1, T, c1⟩ (sentL blk (((m + 4)) % 4) T) (HOL1e.out.rd.kept hg16) (fun b off h0 he => by
          have hb1 := (HOL1e.out.below b (by rw [show l1 = some ⟨b, off, none⟩ from he]; rfl)).1
          refine ⟨fun h => ?_, by omega⟩
          have := HOFB.out b h
          omega) ⟨(w14).heap.size, 0, none⟩ (.inr ⟨(w14).heap.size, 0, rfl, by simp, fun i hi => by rw [Nat.zero_add, cell_new]; simp⟩) (by omega) (by have := heap_lt (HB11e.out.kept hg16); omega)
        have hown : ∀ g, g < g11 + 1 → some g ≠ (Value.slice (some ⟨gf, 0, none⟩) ((m + 4)) cf).ownBlock := by
          intro g hg h
          obtain ⟨ss, h2, _⟩ := HOFe.out
          have := (h2.lt g h.symm).1
          omega
        have hnew : ∀ g, (w14).heap.size ≤ g → True := fun _ _ => trivial
        have hownr : ∀ g, wr.heap.size ≤ g → some g ≠ (Value.slice (some ⟨gf, 0, none⟩) ((m + 4)) cf).ownBlock := by
          intro g hg h
          have := HOFB.out g h.symm
          omega
        have hp9 : PBlk g9 p1 w15 := (hg5.block g9 (heap_lt (HB9e.out.kept hg16)) (hown g9 (by omega))).trans (HB9e.out.kept hg16)
        have hp11 : PBlk g11 q1 w15 := (hg5.block g11 (heap_lt (HB11e.out.kept hg16)) (hown g11 (by omega))).trans (HB11e.out.kept hg16)
        have hp3 : PBlk w9.heap.size r1 w15 := (hg5.block _ (heap_lt (HPB3e.out.kept hg16)) (hownr _ HS9.out)).trans (HPB3e.out.kept hg16)
        have hp4 : PBlk w11.heap.size r2 w15 := (hg5.block _ (heap_lt (HPB4e.out.kept hg16)) (hownr _ HS11.out)).trans (HPB4e.out.kept hg16)
        have hgg : Gr w w15 := grownBy_trans (HGe.out.trans hg16) hg5 (by
          cases hv : (Value.slice (some ⟨gf, 0, none⟩) ((m + 4)) cf).ownBlock with
          | none => exact .inr (.inl rfl)
          | some g => exact .inr (.inr ⟨g, rfl, by
            obtain ⟨ss, h2, _⟩ := HOFe.out
            have := (h2.lt g hv).1
            have := HWG.out
            omega⟩))
        have hrest : ∀ {a : Option Addr} {n cap : Nat} {e : TypeId} {kk : IntKind} {xs : List Int}, OwnI wr.heap.size e kk (w14) a n cap xs → OwnI wr.heap.size e kk w15 a n cap xs := by
          intro a n cap e kk xs h
          refine (h.stay hg16).kept hg5 ?_
          cases hv : (Value.slice a n cap).ownBlock with
          | none => exact .inl rfl
          | some b => exact .inr (hownr b (h.below b hv).1)
        have hr1 := hrest HOR1e.out
        have hr2 := hrest (HOR2e.out.weak29 HS10.out)
        rw [← verX_snoc] at ho5
        have HRUN := Lib.hid hrun
        have HO5 := Lib.hid ho5
        have HG5 := Lib.hid hgg
        have HP9 := Lib.hid hp9
        have HP11 := Lib.hid hp11
        have HP3 := Lib.hid hp3
        have HP4 := Lib.hid hp4
        have HR1O := Lib.hid hr1
        have HR2O := Lib.hid hr2
        clear hrun ho5 hgg hg5 hg16 hp9 hp11 hp3 hp4 hr1 hr2 hrest hown hownr hnew h11 HB9e HB11e HOFe HGe HOR1e HOL1e HOR2e HPB3e HPB4e
        go_upto_region 17 with (at_builtin; refine wpList_app rfl _ _ _ rfl rfl rfl HRUN.out ?_)
        have hI : ∀ u, Gr w15 u → PBlk w11.heap.size r2 u := fun u hu => HP4.out.kept hu
        refine Sched2.wp_region_sched (fun u => PBlk w11.heap.size r2 u) [1] [] [2, 3] true hI (by kernel_rfl) (by kernel_rfl) ?_
        refine Sched2.walk1_gr rfl rfl rfl rfl (fun K hK => ?_)
        refine ⟨PVal r1, fun w1 hw1 => Sched2.pq_load_row 24 _ rfl w9.heap.size rfl _ _ _ _ (HP3.out.kept hw1) Tryd.underlying24 rfl (by kernel_rfl), ?_⟩
        simp only [Act.put, List.setIfInBounds_toArray, List.set_cons_zero, List.set_cons_succ]
        refine hK _ ?_
        clear hK K
        refine Sched2.walk1_late rfl rfl rfl rfl (fun K hK => ?_)
        refine ⟨PVal r2, fun w1 hw1 => Sched2.pq_load_row 24 _ rfl w11.heap.size rfl _ _ _ _ hw1 Tryd.underlying24 rfl (by kernel_rfl), ?_⟩
        simp only [Act.put, List.setIfInBounds_toArray, List.set_cons_zero, List.set_cons_succ]
        refine hK _ ?_
        clear hK K
        repeat (first | (refine Sched2.walk1_ord rfl ?_) | (refine Sched2.walk1_no rfl rfl rfl (fun K hK => ?_); simp only [Act.put, List.setIfInBounds_toArray, List.set_cons_zero, List.set_cons_succ]; refine hK _ ?_; clear hK K) | (refine Sched2.walk1_gr rfl rfl rfl rfl (fun K hK => ?_); apply Exists.intro; refine ⟨fun w1 hw1 => ?_, ?_⟩; (focus (go_simp; (try go_ints); (try (simp only [IntWalk.iteOmega]; go_simp)); first | done | fail | (with_reducible rfl) | (with_reducible exact ⟨rfl, rfl⟩))); simp only [Act.put, List.setIfInBounds_toArray, List.set_cons_zero, List.set_cons_succ]; refine hK _ ?_; clear hK K) | (refine Sched2.walk1_late rfl rfl rfl rfl (fun K hK => ?_); apply Exists.intro; refine ⟨fun w1 hw1 => ?_, ?_⟩; (focus (go_simp; (try go_ints); (try (simp only [IntWalk.iteOmega]; go_simp)); first | done | fail | (with_reducible rfl) | (with_reducible exact ⟨rfl, rfl⟩))); simp only [Act.put, List.setIfInBounds_toArray, List.set_cons_zero, List.set_cons_succ]; refine hK _ ?_; clear hK K) | (refine Sched2.walk1_box rfl rfl rfl ?_; apply Exists.intro; refine ⟨fun w1 hw1 => ?_, ?_⟩; (focus (go_simp; exact ⟨Gr.alloc _ _, rfl, by simp, heap_alloc_new _ _⟩))))
        refine Sched2.walk1_nil ?_
        intro wq hwq
        dsimp only [Sched.EndN, List.nil_append, List.cons_append, Act.put]
        (try simp only [List.setIfInBounds_toArray, List.set_cons_zero, List.set_cons_succ])
        simp only [Sched2.lasts, List.filterMap_cons, List.filterMap_nil, List.getElem?_toArray, List.getElem?_cons_succ, List.getElem?_cons_zero]
        obtain ⟨x1, hx1⟩ : ∃ y, y = wq.setCells g9 0 (PList r1) := ⟨_, rfl⟩
        obtain ⟨x2, hx2⟩ : ∃ y, y = x1.setCells g11 0 (PList r2) := ⟨_, rfl⟩
        have ha9 := HP9.out.kept hwq
        have ha11 := pblk_other (HP11.out.kept hwq) (k := g9) (PList r1) (by omega)
        have ha4 := pblk_other (HP4.out.kept hwq) (k := g9) (PList r1) (by have := HS11.out; have := H11R.out; omega)
        have hb9 : PBlk g9 r1 x1 := by rw [hx1]; exact pblk_put ha9 r1
        rw [← hx1] at ha11 ha4
        have hb11 : PBlk g11 r2 x2 := by rw [hx2]; exact pblk_put ha11 r2
        have hc9 : PBlk g9 r1 x2 := by rw [hx2]; exact pblk_other hb9 _ (by omega)
        have hwg := HWG.out
        have hgx : Gr w x2 := by
          rw [hx2, hx1]
          exact grown_setCells_new (grown_setCells_new (HG5.out.trans hwq) hwg _ _) (by omega) _ _
        have h11 := H11R.out
        have hoX : OwnSI (g11 + 1) x2 a5 (((m + 4)) + 1) c5 (verX blk T (((m + 4)) + 1)) := by
          have h1 := (HO5.out.stay hwq).cells (show g9 < g11 + 1 by omega) (PList r1)
          rw [← hx1] at h1
          have h2 := h1.cells (show g11 < g11 + 1 by omega) (PList r2)
          rw [← hx2] at h2
          exact h2
        have hkp : ∀ {a : Option Addr} {n cap : Nat} {e : TypeId} {kk : IntKind} {xs : List Int}, OwnI wr.heap.size e kk w15 a n cap xs → OwnI wr.heap.size e kk x2 a n cap xs := by
          intro a n cap e kk xs h
          have h1 := own_cells (h.stay hwq) (show g9 < wr.heap.size by omega) (PList r1)
          rw [← hx1] at h1
          have h2 := own_cells h1 (show g11 < wr.heap.size by omega) (PList r2)
          rw [← hx2] at h2
          exact h2
        have HT1 := Lib.hid (pblk_there ha9)
        have HT2 := Lib.hid (pblk_there ha11)
        have HA4 := Lib.hid ha4
        have HX1 := Lib.hid hx1
        have HX2 := Lib.hid hx2
        have HE9 := Lib.hid hc9
        have HE11 := Lib.hid hb11
        have HEG := Lib.hid hgx
        have HEO := Lib.hid hoX
        have HER1 := Lib.hid (hkp HR1O.out)
        have HER2 := Lib.hid (hkp HR2O.out)
        clear ha9 ha11 ha4 hb9 hb11 hc9 hwg hgx hoX hkp hx1 hx2 hwq hI h11
        refine Sched2.walk2_go rfl (fun K hK => ?_)
        refine tq_storeH 24 _ _ rfl g9 0 (PList r1).toArray rfl rfl HT1.out (by kernel_rfl) (plist_one _) ?_
        rw [← HX1.out]
        dsimp only [Act.put]
        try simp only [List.setIfInBounds_toArray, List.set_cons_zero, List.set_cons_succ]
        refine hK _ _ (.inr HA4.out) ?_
        clear hK K
        refine Sched2.walk2_go rfl (fun K hK => ?_)
        refine tq_storeH 24 _ _ rfl g11 0 (PList r2).toArray rfl rfl HT2.out (by kernel_rfl) (plist_one _) ?_
        rw [← HX2.out]
        dsimp only [Act.put]
        try simp only [List.setIfInBounds_toArray, List.set_cons_zero, List.set_cons_succ]
        refine hK _ _ (.inl ⟨rfl, rfl⟩) ?_
        clear hK K
        refine Sched2.walk2_nil ?_
        go_wp2_with fail
        go_roundw
        case rel => exact ⟨((m + 4)) + 1, r1, r2, a5, c5, by omega, by go_num, rfl, verP_next _ _ _ HPL.out HR1.out, verP_next _ _ _ HQL.out HR2.out, HE9.out, HE11.out, HER1.out.rd, HER2.out.rd, HEO.out, HEG.out⟩
        case measure => (simp [intOf] <;> omega)
    · obtain rfl : i = 8 := by omega
      have HG := Lib.hid hg
      clear hp hq hb9 hb11 hrp hrq hof hg
      go_wp2_with fail
      refine (awake29 wr (HL.out.kept HG.out)).mono ?_
      rintro e w9 ⟨rfl, hg9⟩
      have HG9 := Lib.hid (HG.out.trans hg9)
      clear hg9
      go_wp2_with fail
      go_ret
      exact ⟨rfl, HG9.out⟩
theorem versions_no (a : Option Addr) (len cap : Nat) (x y : Int) (w : World) (hl : LaidIn w) (hL : len = 0 ∨ 20 < len) (h1 : len ≤ 140737488351232) :
    Calls Tryd.prog 9 #[.slice a len cap, .int .i64 x, .int .u8 y] w fun e w' => e = .returned (.bool true) ∧ Gr w w' := by
  have HL := Lib.hid hl
  clear hl
  go_enter Tryd.func9, Tryd.ntmps9
  by_cases h0 : len = 0
  · subst h0
    go_wp2_with fail
    refine (awake29 w HL.out).mono ?_
    rintro e w4 ⟨rfl, hg4⟩
    have HG4 := Lib.hid hg4
    clear hg4
    go_wp2_with fail
    go_ret
    exact ⟨rfl, HG4.out⟩
  · have h3 : ¬ (len : Int) < 1 := by omega
    have h4 : (20 : Int) < len := by omega
    go_wp2_with fail
    refine (awake29 w HL.out).mono ?_
    rintro e w4 ⟨rfl, hg4⟩
    have HG4 := Lib.hid hg4
    clear hg4
    go_wp2_with fail
    go_ret
    exact ⟨rfl, HG4.out⟩
theorem versions_fit (a : Option Addr) (len cap : Nat) (xs : List Int) (x y : Int) (w : World) (hl : LaidIn w) (hr : Rd .u8 w a len xs) (_hc : len ≤ cap) (hL : len ≤ 140737488351232) (_hx : i64 x) (hy : 0 ≤ y ∧ y ≤ 255) :
    Calls Tryd.prog 9 #[.slice a len cap, .int .i64 x, .int .u8 y] w fun e w' => e = .returned (.bool true) ∧ Below w.heap.size w w' := by
  have key : Calls Tryd.prog 9 #[.slice a len cap, .int .i64 x, .int .u8 y] w fun e w' => e = .returned (.bool true) ∧ Gr w w' := by
    by_cases h : len = 0 ∨ 20 < len
    · exact versions_no a len cap x y w hl h hL
    · exact versions_walk a len cap xs x y w hl hr (by omega) (by omega) hy
  exact key.mono fun _ _ ⟨he, hg⟩ => ⟨he, Below.of_none hg⟩
end Go.Proofs.YtcleegibdcphiaaDoor
