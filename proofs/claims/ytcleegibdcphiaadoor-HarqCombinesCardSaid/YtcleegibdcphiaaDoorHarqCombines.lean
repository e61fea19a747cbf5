/- The law HarqCombines: its walk. -/
import Derived.Test.YtcleegibdcphiaaDoorHarY
import Derived.Test.YtcleegibdcphiaaDoorHarP
namespace Go.Proofs.YtcleegibdcphiaaDoor
open Go.ChangeShapes Go.WideShapes Go.ChangeAt Go.RowKit
open Cod
theorem totN_lenC {n T : Nat} (h1 : 1 ≤ n) (h2 : n ≤ 256) (hT : totN n = T) : lenS (8 * (n : Int) + 16) = (T : Int) := by
  rw [← hT]; unfold lenS totN; rw [if_pos (by omega)]; push_cast; omega
theorem sameC {xs ys : List Int} {B : Bool} (h : decide (xs = ys) = B) (a b : Option Addr) (l c l' c' : Nat) (w : World) (hx : Rd .u8 w a l xs) (hy : Rd .u8 w b l' ys) :
    Calls Tryd.prog 24 #[.slice a l c, .slice b l' c'] w fun e w' => e = .returned (.bool B) ∧ Gr w w' := h ▸ same_bytes24 a b l c l' c' xs ys w hx hy
/-- What is known of the collector: what it has is S0; D: it has the block. -/
def CS (c : Cl) (ss S0 : List Int) (n T : Nat) (D : Bool) : Prop :=
  (c.some = false ∧ D = false ∧ S0 = List.replicate T 0) ∨ (c.some = true ∧ c.fresh = 1 ∧ c.size = n ∧ c.len = T ∧ c.done = D ∧ ss = S0)
theorem comb_base {c : Cl} {ss S0 : List Int} {n T : Nat} {D : Bool} {A : An} (h : CS c ss S0 n T D) (h1 : A.fresh = 1) (h2 : A.size = n) (hT : totN n = T) :
    (baseC c A).fresh = 1 ∧ (baseC c A).size = n ∧ (baseC c A).len = T ∧ (baseC c A).some = true ∧ (baseC c A).done = D ∧ baseS c ss A = S0 := by
  rcases h with ⟨g1, g2, g3⟩ | ⟨g1, g2, g3, g4, g5, g6⟩
  · have hN : newB c A = true := by unfold newB; rw [g1]; rfl
    unfold baseC baseS
    rw [hN, if_pos rfl, if_pos rfl, h2, h1, Int.toNat_natCast, hT]
    exact ⟨rfl, rfl, rfl, rfl, g2.symm, g3.symm⟩
  · have hN : newB c A = false := by unfold newB; rw [g1, g2, g3, h1, h2]; simp
    unfold baseC baseS
    rw [hN]
    exact ⟨g2, g3, g4, g1, g5, g6⟩
theorem comb_no {c : Cl} {ss S0 : List Int} {n T : Nat} {A : An} {L : List Int} (h : CS c ss S0 n T false) (hA : anB A = true) (h1 : A.fresh = 1) (h2 : A.size = n) (hT : totN n = T) (hL : (L.length : Int) = A.coded) (hsL : softOk L) (hs0 : softOk S0) :
    recF c ss A L = if decOk (colL S0 L T A.ver.toNat A.coded.toNat) n = true then ⟨0, { baseC c A with done := true }, colL S0 L T A.ver.toNat A.coded.toNat, true, decB (colL S0 L T A.ver.toNat A.coded.toNat) n⟩ else ⟨0, baseC c A, colL S0 L T A.ver.toNat A.coded.toNat, false, []⟩ := by
  obtain ⟨b1, b2, b3, b4, b5, b6⟩ := comb_base h h1 h2 hT
  have hgo : goS c ss A L = colL S0 L T A.ver.toNat A.coded.toNat := by unfold goS; rw [b6, h2, Int.toNat_natCast, hT]
  unfold recF
  rw [if_neg (by rw [hA, (softB_iff L).2 hsL]; simp), if_neg (by rw [hL]; simp), if_neg (by rw [b6, b3, h2, Int.toNat_natCast, hT, (softB_iff S0).2 hs0]; simp), if_neg (by rw [b5]; simp), hgo, h2, Int.toNat_natCast]
theorem comb_yes {c : Cl} {ss S0 : List Int} {n T : Nat} {A : An} {L : List Int} (h : CS c ss S0 n T true) (hA : anB A = true) (h1 : A.fresh = 1) (h2 : A.size = n) (hT : totN n = T) (hL : (L.length : Int) = A.coded) (hsL : softOk L) (hs0 : softOk S0) :
    recF c ss A L = ⟨0, baseC c A, S0, true, []⟩ := by
  obtain ⟨b1, b2, b3, b4, b5, b6⟩ := comb_base h h1 h2 hT
  unfold recF
  rw [if_neg (by rw [hA, (softB_iff L).2 hsL]; simp), if_neg (by rw [hL]; simp), if_neg (by rw [b6, b3, h2, Int.toNat_natCast, hT, (softB_iff S0).2 hs0]; simp), if_pos b5, b6]
def combP (len cc i : Nat) : Pc := ⟨true, none, len, 0, cc, 1, ((i % 4 : Nat) : Int), i⟩
theorem combP_next (len cc i : Nat) {r p : Pc} (hp : p.Like (combP len cc i)) (hr : r.Like { p with tries := p.tries + 1, ver := (p.ver + 1) % 4 }) : r.Like (combP len cc (i + 1)) := by
  refine ⟨hr.act.trans hp.act, hr.len.trans hp.len, hr.coded.trans hp.coded, hr.fresh.trans hp.fresh, hr.ver.trans ?_, hr.tries.trans ?_⟩
  · show (p.ver + 1) % 4 = (((i + 1) % 4 : Nat) : Int)
    rw [hp.ver]; show (((i % 4 : Nat) : Int) + 1) % 4 = _; omega
  · show p.tries + 1 = ((i + 1 : Nat) : Int)
    rw [hp.tries]; show (i : Int) + 1 = _; omega
/-- The soft bits behind i parts. -/
structure Coll (blk : List Int) (T cc i : Nat) (D : Bool) (S : List Int) : Prop where
  good : Good (enc (wordL blk)) S
  soft : softOk S
  cov : D = false → Cov (enc (wordL blk)) T cc i S
  last : i = 4 → D = true
def CombRel (g4 g6 len T cc : Nat) (blk : List Int) (w : World) (o b t : Value) (wr : World) : Prop :=
  ∃ (i : Nat) (p : Pc) (c : Cl) (ss S : List Int) (D : Bool) (ab : Option Addr) (nb cb : Nat), i ≤ 4 ∧ t = .int .i64 i ∧ o = .bool D ∧ b = .slice ab nb cb ∧ p.Like (combP len cc i) ∧ PBlk g4 p wr ∧ CBlk g6 c wr ∧ CS c ss S len T D ∧ c.len ≤ 5000 ∧
    Rd .i64 wr c.a c.len ss ∧ Rd .u8 wr p.a p.len blk ∧ (D = true → Rd .u8 wr ab nb blk) ∧ Coll blk T cc i D S ∧ (∃ xb, Rd .u8 wr ab nb xb) ∧ (∀ b off, 0 < nb → ab = some ⟨b, off, none⟩ → b ≠ g4 ∧ b ≠ g6) ∧ Gr w wr
set_option maxRecDepth 20000 in
set_option maxHeartbeats 1000000 in
theorem combines_walk (a : Option Addr) (len cap : Nat) (blk : List Int) (w : World) (hl : LaidIn w) (hr : Rd .u8 w a len blk) (h1 : 1 ≤ len) (h2 : len ≤ 25) :
    Calls Tryd.prog 6 #[.slice a len cap] w fun e w' => e = .returned (.bool true) ∧ Gr w w' := by
  have HL := Lib.hid hl
  have HR := Lib.hid hr
  have hby : ∀ x ∈ blk, 0 ≤ x ∧ x ≤ 255 := fun x hx => bounds_u8 (hr.2.1 x hx)
  have hbl := hr.1
  obtain ⟨T, hT⟩ : ∃ T, totN len = T := ⟨_, rfl⟩
  have hT1 : 1 ≤ T ∧ T ≤ 436 := by unfold totN at hT; omega
  have HT := Lib.hid hT
  have HLT := Lib.hid (totN_lenC h1 (by omega) hT)
  have HBY := Lib.hid hby
  have HBL := Lib.hid hbl
  clear hr hl hT hby hbl
  go_enter Tryd.func6, Tryd.ntmps6
  go_wp2_with fail
  refine (rlength_is HLT.out w).mono ?_
  rintro e w' ⟨rfl, rfl⟩
  go_wp2_with fail
  obtain ⟨cc, hcc⟩ : ∃ cc : Nat, ((T : Int) + 3) / 4 + 1 = cc := ⟨(T + 3) / 4 + 1, by omega⟩
  have hcn : cc = (T + 3) / 4 + 1 := by omega
  have hc1 : 1 ≤ cc ∧ cc ≤ 1152 := by omega
  rw [hcc]
  have HCN := Lib.hid hcn
  clear hcc hcn
  refine (start_ok zeroP [] a len cap blk cc w (by decide) rfl (by omega) (by omega) ⟨rfl, by simp, by simp [zeroP], .inl rfl⟩ (by simp [zeroP]) HR.out).mono ?_
  rintro e w2 ⟨p, hp, rfl, ho2, hg2⟩
  have HP := Lib.hid hp
  have HO2 := Lib.hid ho2
  have HG2 := Lib.hid hg2
  clear hp ho2 hg2
  obtain ⟨v1, hv⟩ : ∃ y, y = (w2).alloc (.cells #[.bool false, .slice none 0 0, .int .i64 0, .int .i64 0, .int .i64 0, .int .i64 0] 24) := ⟨_, rfl⟩
  obtain ⟨w3, hw⟩ : ∃ y, y = v1.setCells (w2).heap.size 0 (PList p) := ⟨_, rfl⟩
  obtain ⟨hf1, hf2, hf3⟩ := pnew_facts hv hw
  have HV1 := Lib.hid hv
  have HW1 := Lib.hid hw
  have HTH1 := Lib.hid hf1
  have HPB1 := Lib.hid hf2
  have HGR1 := Lib.hid hf3
  clear hv hw hf1 hf2 hf3
  go_upto_region 5 with (rw [← HV1.out]; refine wpList_store_mid rfl 24 _ _ rfl w2.heap.size 0 (PList p).toArray rfl rfl HTH1.out (by kernel_rfl) (plist_one _) ?_; rw [← HW1.out])
  clear HV1 HW1 HTH1
  obtain ⟨v2, hv⟩ : ∃ y, y = (w3).alloc (.cells #[.int .i64 0, .int .i64 0, .slice none 0 0, .bool false, .bool false] 27) := ⟨_, rfl⟩
  obtain ⟨w4, hw⟩ : ∃ y, y = v2.setCells (w3).heap.size 0 (CList zeroC) := ⟨_, rfl⟩
  obtain ⟨hf1, hf2, hf3⟩ := cnew_facts hv hw
  have HV2 := Lib.hid hv
  have HW2 := Lib.hid hw
  have HTH2 := Lib.hid hf1
  have HPB2 := Lib.hid hf2
  have HGR2 := Lib.hid hf3
  clear hv hw hf1 hf2 hf3
  go_upto_region 6 with (rw [← HV2.out]; refine wpList_store_mid rfl 27 _ _ rfl w3.heap.size 0 (CList zeroC).toArray rfl rfl HTH2.out (by kernel_rfl) (clist_one _) ?_; rw [← HW2.out])
  clear HV2 HW2 HTH2
  obtain ⟨g4, hg4⟩ : ∃ g4, w2.heap.size = g4 := ⟨_, rfl⟩
  obtain ⟨g6, hg6⟩ : ∃ g6, w3.heap.size = g6 := ⟨_, rfl⟩
  have hpb := HPB1.out.kept HGR2.out
  have hcb := HPB2.out
  have h34 := heap_lt HPB1.out
  have hw4s := HG2.out.size
  rw [hg4] at hpb h34 hw4s
  rw [hg6] at hcb h34
  rw [hg4, hg6]
  have HPB := Lib.hid hpb
  have HCB := Lib.hid hcb
  have HB := Lib.hid ((HO2.out.stay HGR1.out).stay HGR2.out).rd
  have HG := Lib.hid ((HG2.out.trans HGR1.out).trans HGR2.out)
  clear hg4 hg6 hpb hcb HPB1 HPB2 HGR1 HGR2 HO2 HG2
  go_wp2_with fail
  go_loopw [7, 8, 9] (fun o b t wr => CombRel g4 g6 len T cc blk w o b t wr) (fun _ _ t _ => 4 - (intOf t).toNat)
  case atStart =>
    refine ⟨0, p, zeroC, [], List.replicate T 0, false, none, 0, 0, by omega, rfl, rfl, rfl, ?_, HPB.out, HCB.out, .inl ⟨rfl, rfl, rfl⟩, by simp [zeroC], ⟨rfl, by simp, by simp [zeroC], .inl rfl⟩, HB.out, (fun h => by cases h), ⟨?_, ?_, ?_, by omega⟩, ⟨[], ⟨rfl, by simp, by simp, .inl rfl⟩⟩, (fun b off h0 h => by cases h), HG.out⟩
    · have h := HP.out
      exact ⟨h.act, h.len, h.coded, h.fresh, h.ver, h.tries⟩
    · have h := good_zero (enc (wordL blk))
      rw [encW_len, HBL.out, HT.out] at h
      exact h
    · intro x hx; rw [List.eq_of_mem_replicate hx]; decide
    · intro _ v k hv; omega
  case round =>
    clear HPB HCB HB HG HP
    obtain ⟨i, p1, c, ss, S0, D, ab, nb, cb, hi, rfl, rfl, rfl, hp, hpb, hcb, hcs, hcl, hrc, hrp, hrb, hcoll, ⟨xb, hxb⟩, hnbb, hg⟩ := hrel
    by_cases hlt : i < 4
    · have e1 : p1.fresh = 1 := hp.fresh
      have e2 : p1.ver = ((i % 4 : Nat) : Int) := hp.ver
      have e3 : p1.len = len := hp.len
      have e4 : p1.coded = cc := hp.coded
      have e5 : p1.tries = i := hp.tries
      have e6 : p1.act = true := hp.act
      have hpv : validPc p1 = true := valid_of (by omega) (by omega) (by omega) (fun _ => by omega)
      have HPF := Lib.hid (And.intro hpv (And.intro e6 (And.intro e5 (And.intro e2 (And.intro e4 (And.intro e1 e3))))))
      have HPL := Lib.hid hp
      have HPB := Lib.hid hpb
      have HCB := Lib.hid hcb
      have HCS := Lib.hid hcs
      have HCLN := Lib.hid hcl
      have HRC := Lib.hid hrc
      have HRP := Lib.hid hrp
      have HRB := Lib.hid hrb
      have HXB := Lib.hid hxb
      have HNBB := Lib.hid hnbb
      have HCO := Lib.hid hcoll
      have HG := Lib.hid hg
      clear e1 e2 e3 e4 e5 e6 hpv hp hpb hcb hcs hcl hrc hrp hrb hxb hcoll hg hnbb
      have hb' := (HPB).out
      unfold PBlk PCells at hb'
      have HBU := Lib.hid hb'
      clear hb'
      go_wp2_with (refine wpList_load_w rfl 24 _ rfl g4 rfl 24 _ _ _ HBU.out Tryd.underlying24 rfl (by kernel_rfl) ?_)
      refine (send_ok p1 blk 3 (i % 4) cc wr (HL.out.kept HG.out) HPF.out.1 HPF.out.2.1 (by omega) (by rw [HPF.out.2.2.1]; omega) HPF.out.2.2.2.1 HPF.out.2.2.2.2.1 HRP.out).mono ?_
      rintro e w9 ⟨r, A, l1, c1, hr, hA, rfl, hor, hol, hg9⟩
      have hA2 : A = ⟨3, 1, ((i % 4 : Nat) : Int), len, cc⟩ := by
        have h := HPF.out
        rw [hA, h.2.2.2.2.2.1, h.2.2.2.1, h.2.2.2.2.2.2, h.2.2.2.2.1]
      have HR1 := Lib.hid hr
      have HA := Lib.hid hA2
      have HOR := Lib.hid hor
      have HOL := Lib.hid hol
      have HPBa := Lib.hid (HPB.out.kept hg9)
      have HCBa := Lib.hid (HCB.out.kept hg9)
      have HRCa := Lib.hid (rd_gr HRC.out hg9)
      have HXBa := Lib.hid (rd_gr HXB.out hg9)
      have HGa := Lib.hid (HG.out.trans hg9)
      have H46 := Lib.hid (heap_lt HPB.out)
      have H66 := Lib.hid (And.intro (heap_lt HCB.out) (heap_lt HPB.out))
      have HS9 := Lib.hid (show wr.heap.size ≤ w9.heap.size from hg9.size)
      have HRBa := Lib.hid (fun h => rd_gr (HRB.out h) hg9)
      clear hr hA hA2 hor hol hg9 HBU HPB HCB HRC HXB HG HRB HRP
      obtain ⟨va3, hva⟩ : ∃ y, y = (w9).alloc (.cells #[.bool false, .slice none 0 0, .int .i64 0, .int .i64 0, .int .i64 0, .int .i64 0] 24) := ⟨_, rfl⟩
      obtain ⟨v3, hv⟩ : ∃ y, y = va3.alloc (.cells #[.int .i64 0, .int .i64 0, .int .i64 0, .int .i64 0, .int .i64 0] 29) := ⟨_, rfl⟩
      obtain ⟨wa3, hwa⟩ : ∃ y, y = v3.setCells (w9).heap.size 0 (PList r) := ⟨_, rfl⟩
      obtain ⟨w10, hw⟩ : ∃ y, y = wa3.setCells ((w9).heap.size + 1) 0 (AList A) := ⟨_, rfl⟩
      obtain ⟨hf1, hf2, hf3, hf4, hf5⟩ := snew_facts hva hv hwa hw
      have HVA3 := Lib.hid hva
      have HV3 := Lib.hid hv
      have HWA3 := Lib.hid hwa
      have HW3 := Lib.hid hw
      have HTH3 := Lib.hid hf1
      have HTA3 := Lib.hid hf2
      have HPB3 := Lib.hid hf3
      have HAB3 := Lib.hid hf4
      have HGR3 := Lib.hid hf5
      clear hva hv hwa hw hf1 hf2 hf3 hf4 hf5
      go_upto_region 12 with (first | (rw [← HVA3.out, ← HV3.out]; refine wpList_store_mid rfl 24 _ _ rfl w9.heap.size 0 (PList r).toArray rfl rfl HTH3.out (by kernel_rfl) (plist_one _) ?_; rw [← HWA3.out]) | (refine wpList_store_mid rfl 29 _ _ rfl (w9.heap.size + 1) 0 (AList A).toArray rfl rfl HTA3.out (by kernel_rfl) (alist_one _) ?_; rw [← HW3.out]))
      clear HVA3 HV3 HWA3 HW3 HTH3 HTA3
      go_wp2_with fail
      refine (rof_any l1 cc c1 (sentL blk (i % 4) cc) 30 none 0 0 [] w10 (HOL.out.stay HGR3.out).rd (sentL_bits _ _ _) (by omega) ⟨rfl, by simp, by simp, .inl rfl⟩ (by simp) (by omega) (by omega)).mono ?_
      rintro e w11 ⟨s6, c6, rfl, ho6, hg6⟩
      have hgy := HGR3.out.trans hg6
      have HO6 := Lib.hid ho6
      have HS11 := Lib.hid (show wr.heap.size ≤ w11.heap.size from Nat.le_trans HS9.out hgy.size)
      have HS10 := Lib.hid (show wr.heap.size ≤ w10.heap.size from Nat.le_trans HS9.out HGR3.out.size)
      have HPBb := Lib.hid (HPBa.out.kept hgy)
      have HCBb := Lib.hid (HCBa.out.kept hgy)
      have HRCb := Lib.hid (rd_gr HRCa.out hgy)
      have HXBb := Lib.hid (rd_gr HXBa.out hgy)
      have HRBb := Lib.hid (fun h => rd_gr (HRBa.out h) hgy)
      have HGb := Lib.hid (HGa.out.trans hgy)
      have HORb := Lib.hid (HOR.out.stay hgy)
      have HPB3b := Lib.hid (HPB3.out.kept hg6)
      have HAB3b := Lib.hid (HAB3.out.kept hg6)
      clear ho6 hg6 hgy HPBa HCBa HRCa HXBa HRBa HGa HOR HOL HPB3 HAB3 HGR3
      obtain ⟨L, hL⟩ : ∃ L, ofL (sentL blk (i % 4) cc) [] 30 = L := ⟨_, rfl⟩
      have hLl : L.length = cc := by rw [← hL, ofL_len, sentL_len]
      have hLs : softOk L := by rw [← hL]; exact ofL_ok _ _ _
      have hAB : anB A = true := by rw [HA.out]; unfold anB sizedB codedB; rw [decide_eq_true (by dsimp only; omega), decide_eq_true (by dsimp only; omega), decide_eq_true (by dsimp only; omega)]; rfl
      have hA1 : A.fresh = 1 := by rw [HA.out]
      have hA2 : A.size = len := by rw [HA.out]
      have hA3 : (L.length : Int) = A.coded := by rw [hLl, HA.out]
      have hA4 : A.ver.toNat = i % 4 := by rw [HA.out]; rfl
      have hA5 : A.coded.toNat = cc := by rw [HA.out]; rfl
      have hbase := comb_base HCS.out hA1 hA2 HT.out
      have ho6' := HO6.out
      rw [hL] at ho6'
      have HO6L := Lib.hid ho6'
      clear ho6'
      -- what is received
      obtain ⟨R, D1, S1, hRF, hRE, hRs, hRok, hRd, hRc, hcoll1, hblk⟩ : ∃ (R : RecR) (D1 : Bool) (S1 : List Int), recF c ss A L = R ∧ R.E = 0 ∧ R.ss = S1 ∧ R.ok = D1 ∧ R.c.done = D1 ∧
          (R.c.fresh = 1 ∧ R.c.size = len ∧ R.c.len = T ∧ R.c.some = true) ∧ Coll blk T cc (i + 1) D1 S1 ∧
          ((D = true ∧ D1 = true) ∨ (D = false ∧ D1 = false) ∨ (D = false ∧ D1 = true ∧ R.blk.length = len ∧ wordL R.blk = dec (8 * len + 16) S1 0)) := by
        cases D
        · have hno := comb_no HCS.out hAB hA1 hA2 HT.out hA3 hLs HCO.out.soft
          rw [hA4, hA5] at hno
          have hTT : totN blk.length = T := by rw [HBL.out]; exact HT.out
          have hi4 : i % 4 = i := by omega
          have hgood := (comb_good (i % 4) cc hTT HCO.out.good cc (Nat.le_refl _)).1
          rw [hL] at hgood
          have hcov := cov_next hTT HCO.out.good (HCO.out.cov rfl)
          rw [hi4] at hL
          rw [hL] at hcov
          rw [hi4] at hgood hno
          have hsoft := colL_ok L T i HCO.out.soft cc
          obtain ⟨S1, hS1⟩ : ∃ S1, colL S0 L T i cc = S1 := ⟨_, rfl⟩
          rw [hS1] at hno hgood hcov hsoft
          by_cases hd : decOk S1 len = true
          · rw [if_pos hd] at hno
            refine ⟨_, true, S1, hno, rfl, rfl, rfl, rfl, ⟨hbase.1, hbase.2.1, hbase.2.2.1, hbase.2.2.2.1⟩, ⟨hgood, hsoft, (fun h => by cases h), fun _ => rfl⟩, .inr (.inr ⟨rfl, rfl, ?_, ?_⟩)⟩
            · show (decB S1 len).length = len
              unfold decB packL; simp
            · unfold decOk at hd
              exact of_decide_eq_true hd
          · rw [if_neg hd] at hno
            refine ⟨_, false, S1, hno, rfl, rfl, rfl, hbase.2.2.2.2.1, ⟨hbase.1, hbase.2.1, hbase.2.2.1, hbase.2.2.2.1⟩, ⟨hgood, hsoft, fun _ => hcov, fun h4 => ?_⟩, .inr (.inl ⟨rfl, rfl⟩)⟩
            have h5 : i + 1 = 4 := by omega
            rw [h5] at hcov
            have hdd := all_dec (by rw [HBL.out]; omega) hTT HCN.out hgood hsoft hcov
            have := decOk_word HBY.out hdd
            rw [HBL.out] at this
            exact absurd this hd
        · have hyes := comb_yes HCS.out hAB hA1 hA2 HT.out hA3 hLs HCO.out.soft
          exact ⟨_, true, S0, hyes, rfl, rfl, rfl, hbase.2.2.2.2.1, ⟨hbase.1, hbase.2.1, hbase.2.2.1, hbase.2.2.2.1⟩, ⟨HCO.out.good, HCO.out.soft, (fun h => by cases h), fun _ => rfl⟩, .inl ⟨rfl, rfl⟩⟩
      have HRF := Lib.hid hRF
      have HCO1 := Lib.hid hcoll1
      have HBK := Lib.hid hblk
      have HRX := Lib.hid (And.intro hRs (And.intro hRd hRc))
      have HRO := Lib.hid hRok
      have HREE := Lib.hid hRE
      clear hL hLl hLs hAB hA1 hA2 hA3 hA4 hA5 hbase hRF hRE hRs hRok hRd hRc hcoll1 hblk
      have hb' := (HAB3b).out
      unfold ABlk ACells at hb'
      have HABU := Lib.hid hb'
      clear hb'
      have hb' := (HCBb).out
      unfold CBlk CCells at hb'
      have HCBU := Lib.hid hb'
      clear hb'
      go_wp2_with (first | (refine wpList_load_w rfl 27 _ rfl g6 rfl 27 _ _ _ HCBU.out Tryd.underlying27 rfl (by kernel_rfl) ?_) | (refine wpList_load_w rfl 29 _ rfl (w9.heap.size + 1) rfl 29 _ _ _ HABU.out Tryd.underlying29 rfl (by kernel_rfl) ?_))
      refine (receive_ok (c := c) (ss := ss) (a := A) HRF.out s6 cc c6 w11 (HL.out.kept HGb.out) HRCb.out (by have := HCLN.out; omega) HO6L.out.rd).mono ?_
      unfold RecOk
      rw [HRO.out, HREE.out]
      rintro e w12 ⟨r2, ab2, nb2, cb2, hr2, hnb2, rfl, hos, hob, hg12⟩
      rw [HRX.out.1] at hos
      have HR2 := Lib.hid hr2
      have HNB2 := Lib.hid hnb2
      have HOS := Lib.hid hos
      have HOB := Lib.hid hob
      have HS12 := Lib.hid (show wr.heap.size ≤ w12.heap.size from Nat.le_trans HS11.out hg12.size)
      have HPBc := Lib.hid (HPBb.out.kept hg12)
      have HCBc := Lib.hid (HCBb.out.kept hg12)
      have HXBc := Lib.hid (rd_gr HXBb.out hg12)
      have HRBc := Lib.hid (fun h => rd_gr (HRBb.out h) hg12)
      have HGc := Lib.hid (HGb.out.trans hg12)
      have HORc := Lib.hid (HORb.out.stay hg12)
      have HPB3c := Lib.hid (HPB3b.out.kept hg12)
      clear hr2 hnb2 hos hob hg12 HABU HCBU HPBb HCBb HRCb HXBb HRBb HGb HORb HPB3b HAB3b
      obtain ⟨v5, hv⟩ : ∃ y, y = (w12).alloc (.cells #[.int .i64 0, .int .i64 0, .slice none 0 0, .bool false, .bool false] 27) := ⟨_, rfl⟩
      obtain ⟨w13, hw⟩ : ∃ y, y = v5.setCells (w12).heap.size 0 (CList r2) := ⟨_, rfl⟩
      obtain ⟨hf1, hf2, hf3⟩ := cnew_facts hv hw
      have HV5 := Lib.hid hv
      have HW5 := Lib.hid hw
      have HTH5 := Lib.hid hf1
      have HPB5 := Lib.hid hf2
      have HGR5 := Lib.hid hf3
      clear hv hw hf1 hf2 hf3
      have HPBd := Lib.hid (HPBc.out.kept HGR5.out)
      have HCBd := Lib.hid (HCBc.out.kept HGR5.out)
      have HXBd := Lib.hid (rd_gr HXBc.out HGR5.out)
      have HRBd := Lib.hid (fun h => rd_gr (HRBc.out h) HGR5.out)
      have HGd := Lib.hid (HGc.out.trans HGR5.out)
      have HORd := Lib.hid (HORc.out.stay HGR5.out)
      have HPB3d := Lib.hid (HPB3c.out.kept HGR5.out)
      have HOSd := Lib.hid (HOS.out.stay HGR5.out)
      have HOBd := Lib.hid (HOB.out.stay HGR5.out)
      go_upto_region 14 with (rw [← HV5.out]; refine wpList_store_mid rfl 27 _ _ rfl w12.heap.size 0 (CList r2).toArray rfl rfl HTH5.out (by kernel_rfl) (clist_one _) ?_; rw [← HW5.out])
      clear HV5 HW5 HTH5 HPBc HCBc HXBc HRBc HGc HORc HPB3c HOS HOB HGR5
      rcases HBK.out with ⟨rfl, rfl⟩ | ⟨rfl, rfl⟩ | ⟨rfl, rfl, hbl3, hwd⟩
      · clear HBK
        go_upto_region 20 with (fail)
        have hp4 := HPBd.out.kept (Gr.refl w13)
        have hp6 := HCBd.out.kept (Gr.refl w13)
        have hp3 := HPB3d.out.kept (Gr.refl w13)
        have hp5 := HPB5.out.kept (Gr.refl w13)
        have HP4 := Lib.hid hp4
        have HP6 := Lib.hid hp6
        have HP3 := Lib.hid hp3
        have HGGW := Lib.hid (HGd.out.trans (Gr.refl w13))
        have HGW := Lib.hid ((Gr.refl w13))
        have hI : ∀ u, Gr (w13) u → CBlk w12.heap.size r2 u := fun u hu => hp5.kept hu
        clear hp4 hp6 hp3
        refine Sched2.wp_region_sched (fun u => CBlk w12.heap.size r2 u) [1, 2, 3, 4, 5] [] [6, 7, 8] true hI (by kernel_rfl) (by kernel_rfl) ?_
        refine Sched2.walk1_gr rfl rfl rfl rfl (fun K hK => ?_)
        refine ⟨PVal r, fun w1 hw1 => Sched2.pq_load_row 24 _ rfl w9.heap.size rfl _ _ _ _ (HP3.out.kept hw1) Tryd.underlying24 rfl (by kernel_rfl), ?_⟩
        simp only [Act.put, List.setIfInBounds_toArray, List.set_cons_zero, List.set_cons_succ]
        refine hK _ ?_
        clear hK K
        refine Sched2.walk1_late rfl rfl rfl rfl (fun K hK => ?_)
        refine ⟨CVal r2, fun w1 hw1 => Sched2.pq_load_row 27 _ rfl w12.heap.size rfl _ _ _ _ hw1 Tryd.underlying27 rfl (by kernel_rfl), ?_⟩
        simp only [Act.put, List.setIfInBounds_toArray, List.set_cons_zero, List.set_cons_succ]
        refine hK _ ?_
        clear hK K
        repeat (first | (refine Sched2.walk1_ord rfl ?_) | (refine Sched2.walk1_no rfl rfl rfl (fun K hK => ?_); simp only [Act.put, List.setIfInBounds_toArray, List.set_cons_zero, List.set_cons_succ]; refine hK _ ?_; clear hK K) | (refine Sched2.walk1_gr rfl rfl rfl rfl (fun K hK => ?_); apply Exists.intro; refine ⟨fun w1 hw1 => ?_, ?_⟩; (focus (go_simp; (try go_ints); (try (simp only [IntWalk.iteOmega]; go_simp)); first | done | fail | (with_reducible rfl) | (with_reducible exact ⟨rfl, rfl⟩))); simp only [Act.put, List.setIfInBounds_toArray, List.set_cons_zero, List.set_cons_succ]; refine hK _ ?_; clear hK K) | (refine Sched2.walk1_late rfl rfl rfl rfl (fun K hK => ?_); apply Exists.intro; refine ⟨fun w1 hw1 => ?_, ?_⟩; (focus (go_simp; (try go_ints); (try (simp only [IntWalk.iteOmega]; go_simp)); first | done | fail | (with_reducible rfl) | (with_reducible exact ⟨rfl, rfl⟩))); simp only [Act.put, List.setIfInBounds_toArray, List.set_cons_zero, List.set_cons_succ]; refine hK _ ?_; clear hK K) | (refine Sched2.walk1_box rfl rfl rfl ?_; apply Exists.intro; refine ⟨fun w1 hw1 => ?_, ?_⟩; (focus (go_simp; exact ⟨Gr.alloc _ _, rfl, by simp, heap_alloc_new _ _⟩))))
        refine Sched2.walk1_nil ?_
        intro wq hwq
        dsimp only [Sched.EndN, List.nil_append, List.cons_append, Act.put]
        (try simp only [List.setIfInBounds_toArray, List.set_cons_zero, List.set_cons_succ])
        simp only [Sched2.lasts, List.filterMap_cons, List.filterMap_nil, List.getElem?_toArray, List.getElem?_cons_succ, List.getElem?_cons_zero]
        obtain ⟨x1, hx1⟩ : ∃ y, y = wq.setCells g4 0 (PList r) := ⟨_, rfl⟩
        obtain ⟨x2, hx2⟩ : ∃ y, y = x1.setCells g6 0 (CList r2) := ⟨_, rfl⟩
        have h66 := H66.out
        have h12 : wr.heap.size ≤ w12.heap.size := HS12.out
        have hq4 := HP4.out.kept hwq
        have hq6 := cblk_other (HP6.out.kept hwq) (k := g4) (PList r) (by omega)
        have hq5 := cblk_other (hI wq hwq) (k := g4) (PList r) (by omega)
        have hb4 : PBlk g4 r x1 := by rw [hx1]; exact pblk_put hq4 r
        rw [← hx1] at hq6 hq5
        have hb6 : CBlk g6 r2 x2 := by rw [hx2]; exact cblk_put hq6 r2
        have hc4 : PBlk g4 r x2 := by rw [hx2]; exact pblk_other hb4 _ (by omega)
        have hc5 : CBlk w12.heap.size r2 x2 := by rw [hx2]; exact cblk_other hq5 _ (by omega)
        have hgx : Gr w x2 := by
          rw [hx2, hx1]
          exact grown_setCells_new (grown_setCells_new (HGGW.out.trans hwq) hw4s _ _) (by omega) _ _
        have hkp : ∀ {a : Option Addr} {n cap : Nat} {e : TypeId} {kk : IntKind} {xs : List Int}, OwnI wr.heap.size e kk w13 a n cap xs → OwnI wr.heap.size e kk x2 a n cap xs := by
          intro a n cap e kk xs h
          have h1 := own_cells ((h.stay HGW.out).stay hwq) (show g4 < wr.heap.size by omega) (PList r)
          rw [← hx1] at h1
          have h2 := own_cells h1 (show g6 < wr.heap.size by omega) (CList r2)
          rw [← hx2] at h2
          exact h2
        have hrdk : ∀ {a : Option Addr} {n : Nat} {xs : List Int}, Rd .u8 (w13) a n xs → (∀ b off, 0 < n → a = some ⟨b, off, none⟩ → b ≠ g4 ∧ b ≠ g6) → Rd .u8 x2 a n xs := by
          intro a n xs h hb
          have h1 := rd_keptBut (rd_gr h hwq) (grown_setCells g4 (PList r) 0 wq) (fun b off h0 he h3 => (hb b off h0 he).1 (by injection h3))
          rw [← hx1] at h1
          have h2 := rd_keptBut h1 (grown_setCells g6 (CList r2) 0 x1) (fun b off h0 he h3 => (hb b off h0 he).2 (by injection h3))
          rw [← hx2] at h2
          exact h2
        have hsz : ∀ {a : Option Addr} {n cap : Nat} {xs : List Int}, OwnI wr.heap.size 5 .u8 w13 a n cap xs → True := fun _ => trivial
        have HE4 := Lib.hid hc4
        have HE6 := Lib.hid hb6
        have HEG := Lib.hid hgx
        have herb0 : true = true → Rd .u8 (w13) (ab) (nb) blk := (fun _ => HRBd.out rfl)
        have HERB := Lib.hid (show true = true → Rd .u8 x2 (ab) (nb) blk from fun h => hrdk (herb0 h) HNBB.out)
        clear herb0
        have hxb9 : ∃ xb, Rd .u8 x2 (ab) (nb) xb := by
          obtain ⟨z, hz⟩ : ∃ xb, Rd .u8 (w13) (ab) (nb) xb := ⟨xb, HXBd.out⟩
          exact ⟨z, hrdk hz HNBB.out⟩
        have HEXB := Lib.hid hxb9
        have HENB := Lib.hid (show ∀ b off, 0 < (nb) → (ab) = some ⟨b, off, none⟩ → b ≠ g4 ∧ b ≠ g6 from HNBB.out)
        have HEO := Lib.hid (hkp (HORd.out.weak29 (Nat.le_refl _))).rd
        have HES := Lib.hid (hkp (HOSd.out.weak29 HS11.out)).rd
        have HQ5 := Lib.hid hq5
        have HC5 := Lib.hid hc5
        have HT4 := Lib.hid (pblk_there hq4)
        have HT6 := Lib.hid (cblk_there hq6)
        have HX1 := Lib.hid hx1
        have HX2 := Lib.hid hx2
        clear hx1 hx2 h66 h12 hq4 hq6 hq5 hb4 hb6 hc4 hc5 hgx hkp hrdk hsz hxb9 hwq hI
        refine Sched2.walk2_go rfl (fun K hK => ?_)
        refine tq_storeH 24 _ _ rfl g4 0 (PList r).toArray rfl rfl HT4.out (by kernel_rfl) (plist_one _) ?_
        rw [← HX1.out]
        dsimp only [Act.put]
        try simp only [List.setIfInBounds_toArray, List.set_cons_zero, List.set_cons_succ]
        refine hK _ _ (.inr HQ5.out) ?_
        clear hK K
        refine Sched2.walk2_go rfl (fun K hK => ?_)
        refine tq_storeH 27 _ _ rfl g6 0 (CList r2).toArray rfl rfl HT6.out (by kernel_rfl) (clist_one _) ?_
        rw [← HX2.out]
        dsimp only [Act.put]
        try simp only [List.setIfInBounds_toArray, List.set_cons_zero, List.set_cons_succ]
        refine hK _ _ (.inr HC5.out) ?_
        clear hK K
        repeat (first | (refine Sched2.walk2_no rfl (fun K hK => ?_); simp only [Act.put, List.setIfInBounds_toArray, List.set_cons_zero, List.set_cons_succ]; refine hK _ ?_; clear hK K) | (refine Sched2.walk2_go rfl (fun K hK => ?_); go_simp; (try go_ints); (try (simp only [IntWalk.iteOmega]; go_simp)); first | (refine hK _ _ (by first | exact .inl ⟨rfl, rfl⟩ | exact .inr (HC5.out)) ?_; clear hK K) | fail))
        refine Sched2.walk2_nil ?_
        go_wp2_with fail
        go_roundw
        case rel =>
          refine ⟨i + 1, r, r2, S1, S1, true, ab, nb, cb, by omega, by go_num, rfl, rfl, combP_next _ _ _ HPL.out HR1.out, HE4.out, HE6.out, ?_, ?_, HES.out, HEO.out, HERB.out, HCO1.out, HEXB.out, HENB.out, HEG.out⟩
          · have h := HRX.out
            exact .inr ⟨HR2.out.some.trans h.2.2.2.2.2, HR2.out.fresh.trans h.2.2.1, HR2.out.size.trans h.2.2.2.1, HR2.out.len.trans h.2.2.2.2.1, HR2.out.done.trans h.2.1, rfl⟩
          · have h := HR2.out.len.trans HRX.out.2.2.2.2.1
            omega
        case measure => (simp [intOf] <;> omega)
      · clear HBK
        go_upto_region 20 with (fail)
        have hp4 := HPBd.out.kept (Gr.refl w13)
        have hp6 := HCBd.out.kept (Gr.refl w13)
        have hp3 := HPB3d.out.kept (Gr.refl w13)
        have hp5 := HPB5.out.kept (Gr.refl w13)
        have HP4 := Lib.hid hp4
        have HP6 := Lib.hid hp6
        have HP3 := Lib.hid hp3
        have HGGW := Lib.hid (HGd.out.trans (Gr.refl w13))
        have HGW := Lib.hid ((Gr.refl w13))
        have hI : ∀ u, Gr (w13) u → CBlk w12.heap.size r2 u := fun u hu => hp5.kept hu
        clear hp4 hp6 hp3
        refine Sched2.wp_region_sched (fun u => CBlk w12.heap.size r2 u) [1, 2, 3, 4, 5] [] [6, 7, 8] true hI (by kernel_rfl) (by kernel_rfl) ?_
        refine Sched2.walk1_gr rfl rfl rfl rfl (fun K hK => ?_)
        refine ⟨PVal r, fun w1 hw1 => Sched2.pq_load_row 24 _ rfl w9.heap.size rfl _ _ _ _ (HP3.out.kept hw1) Tryd.underlying24 rfl (by kernel_rfl), ?_⟩
        simp only [Act.put, List.setIfInBounds_toArray, List.set_cons_zero, List.set_cons_succ]
        refine hK _ ?_
        clear hK K
        refine Sched2.walk1_late rfl rfl rfl rfl (fun K hK => ?_)
        refine ⟨CVal r2, fun w1 hw1 => Sched2.pq_load_row 27 _ rfl w12.heap.size rfl _ _ _ _ hw1 Tryd.underlying27 rfl (by kernel_rfl), ?_⟩
        simp only [Act.put, List.setIfInBounds_toArray, List.set_cons_zero, List.set_cons_succ]
        refine hK _ ?_
        clear hK K
        repeat (first | (refine Sched2.walk1_ord rfl ?_) | (refine Sched2.walk1_no rfl rfl rfl (fun K hK => ?_); simp only [Act.put, List.setIfInBounds_toArray, List.set_cons_zero, List.set_cons_succ]; refine hK _ ?_; clear hK K) | (refine Sched2.walk1_gr rfl rfl rfl rfl (fun K hK => ?_); apply Exists.intro; refine ⟨fun w1 hw1 => ?_, ?_⟩; (focus (go_simp; (try go_ints); (try (simp only [IntWalk.iteOmega]; go_simp)); first | done | fail | (with_reducible rfl) | (with_reducible exact ⟨rfl, rfl⟩))); simp only [Act.put, List.setIfInBounds_toArray, List.set_cons_zero, List.set_cons_succ]; refine hK _ ?_; clear hK K) | (refine Sched2.walk1_late rfl rfl rfl rfl (fun K hK => ?_); apply Exists.intro; refine ⟨fun w1 hw1 => ?_, ?_⟩; (focus (go_simp; (try go_ints); (try (simp only [IntWalk.iteOmega]; go_simp)); first | done | fail | (with_reducible rfl) | (with_reducible exact ⟨rfl, rfl⟩))); simp only [Act.put, List.setIfInBounds_toArray, List.set_cons_zero, List.set_cons_succ]; refine hK _ ?_; clear hK K) | (refine Sched2.walk1_box rfl rfl rfl ?_; apply Exists.intro; refine ⟨fun w1 hw1 => ?_, ?_⟩; (focus (go_simp; exact ⟨Gr.alloc _ _, rfl, by simp, heap_alloc_new _ _⟩))))
        refine Sched2.walk1_nil ?_
        intro wq hwq
        dsimp only [Sched.EndN, List.nil_append, List.cons_append, Act.put]
        (try simp only [List.setIfInBounds_toArray, List.set_cons_zero, List.set_cons_succ])
        simp only [Sched2.lasts, List.filterMap_cons, List.filterMap_nil, List.getElem?_toArray, List.getElem?_cons_succ, List.getElem?_cons_zero]
        obtain ⟨x1, hx1⟩ : ∃ y, y = wq.setCells g4 0 (PList r) := ⟨_, rfl⟩
        obtain ⟨x2, hx2⟩ : ∃ y, y = x1.setCells g6 0 (CList r2) := ⟨_, rfl⟩
        have h66 := H66.out
        have h12 : wr.heap.size ≤ w12.heap.size := HS12.out
        have hq4 := HP4.out.kept hwq
        have hq6 := cblk_other (HP6.out.kept hwq) (k := g4) (PList r) (by omega)
        have hq5 := cblk_other (hI wq hwq) (k := g4) (PList r) (by omega)
        have hb4 : PBlk g4 r x1 := by rw [hx1]; exact pblk_put hq4 r
        rw [← hx1] at hq6 hq5
        have hb6 : CBlk g6 r2 x2 := by rw [hx2]; exact cblk_put hq6 r2
        have hc4 : PBlk g4 r x2 := by rw [hx2]; exact pblk_other hb4 _ (by omega)
        have hc5 : CBlk w12.heap.size r2 x2 := by rw [hx2]; exact cblk_other hq5 _ (by omega)
        have hgx : Gr w x2 := by
          rw [hx2, hx1]
          exact grown_setCells_new (grown_setCells_new (HGGW.out.trans hwq) hw4s _ _) (by omega) _ _
        have hkp : ∀ {a : Option Addr} {n cap : Nat} {e : TypeId} {kk : IntKind} {xs : List Int}, OwnI wr.heap.size e kk w13 a n cap xs → OwnI wr.heap.size e kk x2 a n cap xs := by
          intro a n cap e kk xs h
          have h1 := own_cells ((h.stay HGW.out).stay hwq) (show g4 < wr.heap.size by omega) (PList r)
          rw [← hx1] at h1
          have h2 := own_cells h1 (show g6 < wr.heap.size by omega) (CList r2)
          rw [← hx2] at h2
          exact h2
        have hrdk : ∀ {a : Option Addr} {n : Nat} {xs : List Int}, Rd .u8 (w13) a n xs → (∀ b off, 0 < n → a = some ⟨b, off, none⟩ → b ≠ g4 ∧ b ≠ g6) → Rd .u8 x2 a n xs := by
          intro a n xs h hb
          have h1 := rd_keptBut (rd_gr h hwq) (grown_setCells g4 (PList r) 0 wq) (fun b off h0 he h3 => (hb b off h0 he).1 (by injection h3))
          rw [← hx1] at h1
          have h2 := rd_keptBut h1 (grown_setCells g6 (CList r2) 0 x1) (fun b off h0 he h3 => (hb b off h0 he).2 (by injection h3))
          rw [← hx2] at h2
          exact h2
        have hsz : ∀ {a : Option Addr} {n cap : Nat} {xs : List Int}, OwnI wr.heap.size 5 .u8 w13 a n cap xs → True := fun _ => trivial
        have HE4 := Lib.hid hc4
        have HE6 := Lib.hid hb6
        have HEG := Lib.hid hgx
        have herb0 : false = true → Rd .u8 (w13) (ab) (nb) blk := (fun h => by cases h)
        have HERB := Lib.hid (show false = true → Rd .u8 x2 (ab) (nb) blk from fun h => hrdk (herb0 h) HNBB.out)
        clear herb0
        have hxb9 : ∃ xb, Rd .u8 x2 (ab) (nb) xb := by
          obtain ⟨z, hz⟩ : ∃ xb, Rd .u8 (w13) (ab) (nb) xb := ⟨xb, HXBd.out⟩
          exact ⟨z, hrdk hz HNBB.out⟩
        have HEXB := Lib.hid hxb9
        have HENB := Lib.hid (show ∀ b off, 0 < (nb) → (ab) = some ⟨b, off, none⟩ → b ≠ g4 ∧ b ≠ g6 from HNBB.out)
        have HEO := Lib.hid (hkp (HORd.out.weak29 (Nat.le_refl _))).rd
        have HES := Lib.hid (hkp (HOSd.out.weak29 HS11.out)).rd
        have HQ5 := Lib.hid hq5
        have HC5 := Lib.hid hc5
        have HT4 := Lib.hid (pblk_there hq4)
        have HT6 := Lib.hid (cblk_there hq6)
        have HX1 := Lib.hid hx1
        have HX2 := Lib.hid hx2
        clear hx1 hx2 h66 h12 hq4 hq6 hq5 hb4 hb6 hc4 hc5 hgx hkp hrdk hsz hxb9 hwq hI
        refine Sched2.walk2_go rfl (fun K hK => ?_)
        refine tq_storeH 24 _ _ rfl g4 0 (PList r).toArray rfl rfl HT4.out (by kernel_rfl) (plist_one _) ?_
        rw [← HX1.out]
        dsimp only [Act.put]
        try simp only [List.setIfInBounds_toArray, List.set_cons_zero, List.set_cons_succ]
        refine hK _ _ (.inr HQ5.out) ?_
        clear hK K
        refine Sched2.walk2_go rfl (fun K hK => ?_)
        refine tq_storeH 27 _ _ rfl g6 0 (CList r2).toArray rfl rfl HT6.out (by kernel_rfl) (clist_one _) ?_
        rw [← HX2.out]
        dsimp only [Act.put]
        try simp only [List.setIfInBounds_toArray, List.set_cons_zero, List.set_cons_succ]
        refine hK _ _ (.inr HC5.out) ?_
        clear hK K
        repeat (first | (refine Sched2.walk2_no rfl (fun K hK => ?_); simp only [Act.put, List.setIfInBounds_toArray, List.set_cons_zero, List.set_cons_succ]; refine hK _ ?_; clear hK K) | (refine Sched2.walk2_go rfl (fun K hK => ?_); go_simp; (try go_ints); (try (simp only [IntWalk.iteOmega]; go_simp)); first | (refine hK _ _ (by first | exact .inl ⟨rfl, rfl⟩ | exact .inr (HC5.out)) ?_; clear hK K) | fail))
        refine Sched2.walk2_nil ?_
        go_wp2_with fail
        go_roundw
        case rel =>
          refine ⟨i + 1, r, r2, S1, S1, false, ab, nb, cb, by omega, by go_num, rfl, rfl, combP_next _ _ _ HPL.out HR1.out, HE4.out, HE6.out, ?_, ?_, HES.out, HEO.out, HERB.out, HCO1.out, HEXB.out, HENB.out, HEG.out⟩
          · have h := HRX.out
            exact .inr ⟨HR2.out.some.trans h.2.2.2.2.2, HR2.out.fresh.trans h.2.2.1, HR2.out.size.trans h.2.2.2.1, HR2.out.len.trans h.2.2.2.2.1, HR2.out.done.trans h.2.1, rfl⟩
          · have h := HR2.out.len.trans HRX.out.2.2.2.2.1
            omega
        case measure => (simp [intOf] <;> omega)
      · obtain ⟨E, hE⟩ : ∃ E, decide (R.blk = blk) = E := ⟨_, rfl⟩
        have HE := Lib.hid hE
        have HB3 := Lib.hid hbl3
        have HWD := Lib.hid hwd
        have hnb3 : nb2 = len := HNB2.out.trans hbl3
        have HN3 := Lib.hid hnb3
        clear hE hbl3 hwd HBK hnb3
        go_wp2_with fail
        refine (sameC HE.out ab2 a nb2 cb2 len cap w13 HOBd.out.rd (rd_gr HR.out HGd.out)).mono ?_
        rintro e w14 ⟨rfl, hg14⟩
        cases E
        · have HGe := Lib.hid (HGd.out.trans hg14)
          have HOBe := Lib.hid (HOBd.out.stay hg14)
          have HOSe := Lib.hid (HOSd.out.stay hg14)
          have kc := cblk_at (HPB5.out.kept hg14) 2 (v := .slice r2.a r2.len r2.cap) rfl
          have hnb : ((nb2 : Int) == (len : Int)) = true := by rw [HN3.out]; simp
          have HT2 := Lib.hid (show r2.len = T from HR2.out.len.trans HRX.out.2.2.2.2.1)
          clear hg14
          go_wp2_with fail
          have hags := dec_agrees (blk := blk) (S := S1) (got := R.blk) (by rw [HBL.out]; omega) HCO1.out.good HCO1.out.soft (by rw [HBL.out]; exact HWD.out.symm) (by rw [HB3.out, HBL.out])
          refine (agrees_yes ab2 nb2 cb2 R.blk r2.a r2.len r2.cap S1 w14 HOBe.out.rd (by rw [HN3.out]; exact h1) (by rw [HN3.out]; omega) HOSe.out.rd (by rw [HN3.out, HT2.out]; exact HT.out) hags).mono ?_
          rintro e w15 ⟨rfl, hg15⟩
          have HG15 := Lib.hid (HGe.out.trans hg15)
          clear hg15 hags kc
          go_wp2_with fail
          refine (awake29 w15 (HL.out.kept HG15.out)).mono ?_
          rintro e w16 ⟨rfl, hg16⟩
          have HG16 := Lib.hid (HG15.out.trans hg16)
          clear hg16
          go_wp2_with fail
          go_ret
          exact ⟨rfl, HG16.out⟩
        · have hRb : R.blk = blk := of_decide_eq_true HE.out
          have hob3 : Rd .u8 w14 ab2 nb2 blk := by rw [← hRb]; exact (HOBd.out.stay hg14).rd
          have HO3 := Lib.hid hob3
          have HNB4 := Lib.hid (show ∀ b off, 0 < nb2 → ab2 = some ⟨b, off, none⟩ → b ≠ g4 ∧ b ≠ g6 from fun b off _ he => by
            have h5 := (HOBd.out.below b (by rw [he]; rfl)).1
            have := HS11.out
            have := H66.out
            omega)
          have HG14 := Lib.hid hg14
          clear hRb hob3 hg14
          go_upto_region 20 with (fail)
          have hp4 := HPBd.out.kept HG14.out
          have hp6 := HCBd.out.kept HG14.out
          have hp3 := HPB3d.out.kept HG14.out
          have hp5 := HPB5.out.kept HG14.out
          have HP4 := Lib.hid hp4
          have HP6 := Lib.hid hp6
          have HP3 := Lib.hid hp3
          have HGGW := Lib.hid (HGd.out.trans HG14.out)
          have HGW := Lib.hid (HG14.out)
          have hI : ∀ u, Gr (w14) u → CBlk w12.heap.size r2 u := fun u hu => hp5.kept hu
          clear hp4 hp6 hp3
          refine Sched2.wp_region_sched (fun u => CBlk w12.heap.size r2 u) [1, 2, 3, 4, 5] [] [6, 7, 8] true hI (by kernel_rfl) (by kernel_rfl) ?_
          refine Sched2.walk1_gr rfl rfl rfl rfl (fun K hK => ?_)
          refine ⟨PVal r, fun w1 hw1 => Sched2.pq_load_row 24 _ rfl w9.heap.size rfl _ _ _ _ (HP3.out.kept hw1) Tryd.underlying24 rfl (by kernel_rfl), ?_⟩
          simp only [Act.put, List.setIfInBounds_toArray, List.set_cons_zero, List.set_cons_succ]
          refine hK _ ?_
          clear hK K
          refine Sched2.walk1_late rfl rfl rfl rfl (fun K hK => ?_)
          refine ⟨CVal r2, fun w1 hw1 => Sched2.pq_load_row 27 _ rfl w12.heap.size rfl _ _ _ _ hw1 Tryd.underlying27 rfl (by kernel_rfl), ?_⟩
          simp only [Act.put, List.setIfInBounds_toArray, List.set_cons_zero, List.set_cons_succ]
          refine hK _ ?_
          clear hK K
          repeat (first | (refine Sched2.walk1_ord rfl ?_) | (refine Sched2.walk1_no rfl rfl rfl (fun K hK => ?_); simp only [Act.put, List.setIfInBounds_toArray, List.set_cons_zero, List.set_cons_succ]; refine hK _ ?_; clear hK K) | (refine Sched2.walk1_gr rfl rfl rfl rfl (fun K hK => ?_); apply Exists.intro; refine ⟨fun w1 hw1 => ?_, ?_⟩; (focus (go_simp; (try go_ints); (try (simp only [IntWalk.iteOmega]; go_simp)); first | done | fail | (with_reducible rfl) | (with_reducible exact ⟨rfl, rfl⟩))); simp only [Act.put, List.setIfInBounds_toArray, List.set_cons_zero, List.set_cons_succ]; refine hK _ ?_; clear hK K) | (refine Sched2.walk1_late rfl rfl rfl rfl (fun K hK => ?_); apply Exists.intro; refine ⟨fun w1 hw1 => ?_, ?_⟩; (focus (go_simp; (try go_ints); (try (simp only [IntWalk.iteOmega]; go_simp)); first | done | fail | (with_reducible rfl) | (with_reducible exact ⟨rfl, rfl⟩))); simp only [Act.put, List.setIfInBounds_toArray, List.set_cons_zero, List.set_cons_succ]; refine hK _ ?_; clear hK K) | (refine Sched2.walk1_box rfl rfl rfl ?_; apply Exists.intro; refine ⟨fun w1 hw1 => ?_, ?_⟩; (focus (go_simp; exact ⟨Gr.alloc _ _, rfl, by simp, heap_alloc_new _ _⟩))))
          refine Sched2.walk1_nil ?_
          intro wq hwq
          dsimp only [Sched.EndN, List.nil_append, List.cons_append, Act.put]
          (try simp only [List.setIfInBounds_toArray, List.set_cons_zero, List.set_cons_succ])
          simp only [Sched2.lasts, List.filterMap_cons, List.filterMap_nil, List.getElem?_toArray, List.getElem?_cons_succ, List.getElem?_cons_zero]
          obtain ⟨x1, hx1⟩ : ∃ y, y = wq.setCells g4 0 (PList r) := ⟨_, rfl⟩
          obtain ⟨x2, hx2⟩ : ∃ y, y = x1.setCells g6 0 (CList r2) := ⟨_, rfl⟩
          have h66 := H66.out
          have h12 : wr.heap.size ≤ w12.heap.size := HS12.out
          have hq4 := HP4.out.kept hwq
          have hq6 := cblk_other (HP6.out.kept hwq) (k := g4) (PList r) (by omega)
          have hq5 := cblk_other (hI wq hwq) (k := g4) (PList r) (by omega)
          have hb4 : PBlk g4 r x1 := by rw [hx1]; exact pblk_put hq4 r
          rw [← hx1] at hq6 hq5
          have hb6 : CBlk g6 r2 x2 := by rw [hx2]; exact cblk_put hq6 r2
          have hc4 : PBlk g4 r x2 := by rw [hx2]; exact pblk_other hb4 _ (by omega)
          have hc5 : CBlk w12.heap.size r2 x2 := by rw [hx2]; exact cblk_other hq5 _ (by omega)
          have hgx : Gr w x2 := by
            rw [hx2, hx1]
            exact grown_setCells_new (grown_setCells_new (HGGW.out.trans hwq) hw4s _ _) (by omega) _ _
          have hkp : ∀ {a : Option Addr} {n cap : Nat} {e : TypeId} {kk : IntKind} {xs : List Int}, OwnI wr.heap.size e kk w13 a n cap xs → OwnI wr.heap.size e kk x2 a n cap xs := by
            intro a n cap e kk xs h
            have h1 := own_cells ((h.stay HGW.out).stay hwq) (show g4 < wr.heap.size by omega) (PList r)
            rw [← hx1] at h1
            have h2 := own_cells h1 (show g6 < wr.heap.size by omega) (CList r2)
            rw [← hx2] at h2
            exact h2
          have hrdk : ∀ {a : Option Addr} {n : Nat} {xs : List Int}, Rd .u8 (w14) a n xs → (∀ b off, 0 < n → a = some ⟨b, off, none⟩ → b ≠ g4 ∧ b ≠ g6) → Rd .u8 x2 a n xs := by
            intro a n xs h hb
            have h1 := rd_keptBut (rd_gr h hwq) (grown_setCells g4 (PList r) 0 wq) (fun b off h0 he h3 => (hb b off h0 he).1 (by injection h3))
            rw [← hx1] at h1
            have h2 := rd_keptBut h1 (grown_setCells g6 (CList r2) 0 x1) (fun b off h0 he h3 => (hb b off h0 he).2 (by injection h3))
            rw [← hx2] at h2
            exact h2
          have hsz : ∀ {a : Option Addr} {n cap : Nat} {xs : List Int}, OwnI wr.heap.size 5 .u8 w13 a n cap xs → True := fun _ => trivial
          have HE4 := Lib.hid hc4
          have HE6 := Lib.hid hb6
          have HEG := Lib.hid hgx
          have herb0 : true = true → Rd .u8 (w14) (ab2) (nb2) blk := (fun _ => HO3.out)
          have HERB := Lib.hid (show true = true → Rd .u8 x2 (ab2) (nb2) blk from fun h => hrdk (herb0 h) HNB4.out)
          clear herb0
          have hxb9 : ∃ xb, Rd .u8 x2 (ab2) (nb2) xb := by
            obtain ⟨z, hz⟩ : ∃ xb, Rd .u8 (w14) (ab2) (nb2) xb := ⟨blk, HO3.out⟩
            exact ⟨z, hrdk hz HNB4.out⟩
          have HEXB := Lib.hid hxb9
          have HENB := Lib.hid (show ∀ b off, 0 < (nb2) → (ab2) = some ⟨b, off, none⟩ → b ≠ g4 ∧ b ≠ g6 from HNB4.out)
          have HEO := Lib.hid (hkp (HORd.out.weak29 (Nat.le_refl _))).rd
          have HES := Lib.hid (hkp (HOSd.out.weak29 HS11.out)).rd
          have HQ5 := Lib.hid hq5
          have HC5 := Lib.hid hc5
          have HT4 := Lib.hid (pblk_there hq4)
          have HT6 := Lib.hid (cblk_there hq6)
          have HX1 := Lib.hid hx1
          have HX2 := Lib.hid hx2
          clear hx1 hx2 h66 h12 hq4 hq6 hq5 hb4 hb6 hc4 hc5 hgx hkp hrdk hsz hxb9 hwq hI
          refine Sched2.walk2_go rfl (fun K hK => ?_)
          refine tq_storeH 24 _ _ rfl g4 0 (PList r).toArray rfl rfl HT4.out (by kernel_rfl) (plist_one _) ?_
          rw [← HX1.out]
          dsimp only [Act.put]
          try simp only [List.setIfInBounds_toArray, List.set_cons_zero, List.set_cons_succ]
          refine hK _ _ (.inr HQ5.out) ?_
          clear hK K
          refine Sched2.walk2_go rfl (fun K hK => ?_)
          refine tq_storeH 27 _ _ rfl g6 0 (CList r2).toArray rfl rfl HT6.out (by kernel_rfl) (clist_one _) ?_
          rw [← HX2.out]
          dsimp only [Act.put]
          try simp only [List.setIfInBounds_toArray, List.set_cons_zero, List.set_cons_succ]
          refine hK _ _ (.inr HC5.out) ?_
          clear hK K
          repeat (first | (refine Sched2.walk2_no rfl (fun K hK => ?_); simp only [Act.put, List.setIfInBounds_toArray, List.set_cons_zero, List.set_cons_succ]; refine hK _ ?_; clear hK K) | (refine Sched2.walk2_go rfl (fun K hK => ?_); go_simp; (try go_ints); (try (simp only [IntWalk.iteOmega]; go_simp)); first | (refine hK _ _ (by first | exact .inl ⟨rfl, rfl⟩ | exact .inr (HC5.out)) ?_; clear hK K) | fail))
          refine Sched2.walk2_nil ?_
          go_wp2_with fail
          go_roundw
          case rel =>
            refine ⟨i + 1, r, r2, S1, S1, true, ab2, nb2, cb2, by omega, by go_num, rfl, rfl, combP_next _ _ _ HPL.out HR1.out, HE4.out, HE6.out, ?_, ?_, HES.out, HEO.out, HERB.out, HCO1.out, HEXB.out, HENB.out, HEG.out⟩
            · have h := HRX.out
              exact .inr ⟨HR2.out.some.trans h.2.2.2.2.2, HR2.out.fresh.trans h.2.2.1, HR2.out.size.trans h.2.2.2.1, HR2.out.len.trans h.2.2.2.2.1, HR2.out.done.trans h.2.1, rfl⟩
            · have h := HR2.out.len.trans HRX.out.2.2.2.2.1
              omega
          case measure => (simp [intOf] <;> omega)
    · obtain rfl : i = 4 := by omega
      obtain rfl : D = true := hcoll.last rfl
      have HG := Lib.hid hg
      have HRB := Lib.hid (hrb rfl)
      clear hp hpb hcb hcs hcl hrc hrp hrb hcoll hxb hg hnbb
      go_wp2_with fail
      refine (sameC (decide_eq_true (rfl : blk = blk)) ab a nb cb len cap wr HRB.out (rd_gr HR.out HG.out)).mono ?_
      rintro e w9 ⟨rfl, hg9⟩
      have HG9 := Lib.hid (HG.out.trans hg9)
      clear hg9
      go_wp2_with fail
      refine (awake29 w9 (HL.out.kept HG9.out)).mono ?_
      rintro e w10 ⟨rfl, hg10⟩
      have HG10 := Lib.hid (HG9.out.trans hg10)
      clear hg10
      go_wp2_with fail
      go_ret
      exact ⟨rfl, HG10.out⟩
theorem combines_no (a : Option Addr) (len cap : Nat) (w : World) (hl : LaidIn w) (hL : len = 0 ∨ 25 < len) (h1 : len ≤ 140737488351232) :
    Calls Tryd.prog 6 #[.slice a len cap] w fun e w' => e = .returned (.bool true) ∧ Gr w w' := by
  have HL := Lib.hid hl
  clear hl
  go_enter Tryd.func6, Tryd.ntmps6
  by_cases h0 : len = 0
  · subst h0
    go_wp2_with fail
    refine (awake29 w HL.out).mono ?_
    rintro e w4 ⟨rfl, hg4⟩
    have HG4 := Lib.hid hg4
    clear hg4
    go_wp2_with fail
    go_ret
    exact ⟨rfl, HG4.out⟩
  · have h3 : ¬ (len : Int) < 1 := by omega
    have h4 : (25 : Int) < len := by omega
    go_wp2_with fail
    refine (awake29 w HL.out).mono ?_
    rintro e w4 ⟨rfl, hg4⟩
    have HG4 := Lib.hid hg4
    clear hg4
    go_wp2_with fail
    go_ret
    exact ⟨rfl, HG4.out⟩
theorem combines_fit (a : Option Addr) (len cap : Nat) (xs : List Int) (w : World) (hl : LaidIn w) (hr : Rd .u8 w a len xs) (_hc : len ≤ cap) (hL : len ≤ 140737488351232) :
    Calls Tryd.prog 6 #[.slice a len cap] w fun e w' => e = .returned (.bool true) ∧ Below w.heap.size w w' := by
  have key : Calls Tryd.prog 6 #[.slice a len cap] w fun e w' => e = .returned (.bool true) ∧ Gr w w' := by
    by_cases h : len = 0 ∨ 25 < len
    · exact combines_no a len cap w hl h hL
    · exact combines_walk a len cap xs w hl hr (by omega) (by omega)
  exact key.mono fun _ _ ⟨he, hg⟩ => ⟨he, Below.of_none hg⟩
end Go.Proofs.YtcleegibdcphiaaDoor
