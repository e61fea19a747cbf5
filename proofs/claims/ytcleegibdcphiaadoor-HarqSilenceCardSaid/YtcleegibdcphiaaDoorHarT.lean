/- Layer 29 (harq): the sanity check awake. -/
import Derived.Test.YtcleegibdcphiaaDoorHarS
namespace Go.Proofs.YtcleegibdcphiaaDoor
open Go.ChangeShapes Go.WideShapes Go.ChangeAt Go.RowKit
open Cod

/-- The same process, but for the place of its block. -/
structure Pc.Like (r q : Pc) : Prop where
  act : r.act = q.act
  len : r.len = q.len
  coded : r.coded = q.coded
  fresh : r.fresh = q.fresh
  ver : r.ver = q.ver
  tries : r.tries = q.tries
theorem Pc.Like.valid {r q : Pc} (h : r.Like q) : validPc r = validPc q := by
  unfold validPc inPc
  rw [h.act, h.len, h.coded, h.fresh, h.ver, h.tries]
theorem valid_of {p : Pc} (h1 : 0 ≤ p.fresh ∧ p.fresh ≤ 1) (h2 : 0 ≤ p.ver ∧ p.ver < 4) (h3 : 0 ≤ p.tries ∧ p.tries ≤ 32) (h4 : p.act = true → (1 ≤ p.len ∧ p.len ≤ 256) ∧ (1 ≤ p.coded ∧ p.coded ≤ 1152)) : validPc p = true := by
  unfold validPc inPc
  rw [decide_eq_true (by omega), Bool.true_and]
  cases ha : p.act
  · rfl
  · have h := h4 ha
    unfold sizedB codedB
    rw [decide_eq_true (by omega), decide_eq_true (by omega)]; rfl
def StartOk (q : Pc) (ys : List Int) (w : World) (e : Ending) (w' : World) : Prop := ∃ r : Pc, r.Like q ∧ e = .returned (.tuple #[PVal r, .int .i64 0]) ∧ OwnI w.heap.size 5 .u8 w' r.a r.len r.cap ys ∧ Gr w w'
theorem start_ok (p : Pc) (blk : List Int) (x : Option Addr) (len cap : Nat) (ys : List Int) (n : Int) (w : World) (hv : validPc p = true) (ha : p.act = false) (h1 : 1 ≤ len ∧ len ≤ 256) (h2 : 1 ≤ n ∧ n ≤ 1152) (hr : Rd .u8 w p.a p.len blk) (hl : p.len ≤ 17592186044000) (hy : Rd .u8 w x len ys) :
    Calls Tryd.prog 12 #[PVal p, .slice x len cap, .int .i64 n] w (StartOk ⟨true, none, len, 0, n, 1 - p.fresh, 0, 0⟩ ys w) := by
  have hE : startE p len n = 0 := by
    unfold startE sizedB codedB
    rw [if_neg (by rw [hv]; simp), if_neg (by rw [ha]; simp), if_neg (by rw [decide_eq_true (by omega)]; simp), if_neg (by rw [decide_eq_true (by omega)]; simp)]
  have hQ : startQ p len n = ⟨true, none, len, 0, n, 1 - p.fresh, 0, 0⟩ := by unfold startQ; rw [if_pos hE]
  have hL : startL p blk ys len n = ys := by unfold startL; rw [if_pos hE]
  refine (start_any p blk x len cap ys n w hr hl hy (by omega)).mono ?_
  rw [hE, hQ, hL]
  rintro e w' ⟨a', c', he, ho, hg⟩
  exact ⟨⟨true, a', len, c', n, 1 - p.fresh, 0, 0⟩, ⟨rfl, rfl, rfl, rfl, rfl, rfl⟩, he, ho, hg⟩
def SendOk (p : Pc) (blk : List Int) (number : Int) (v c : Nat) (w : World) (e : Ending) (w' : World) : Prop :=
  ∃ (r : Pc) (A : An) (a2 : Option Addr) (c2 : Nat), r.Like { p with tries := p.tries + 1, ver := (p.ver + 1) % 4 } ∧ A = ⟨number, p.fresh, p.ver, p.len, p.coded⟩ ∧ e = .returned (.tuple #[PVal r, AVal A, .slice a2 c c2, .int .i64 0]) ∧ OwnI w.heap.size 5 .u8 w' r.a r.len r.cap blk ∧ OwnI w.heap.size 3 .i64 w' a2 c c2 (sentL blk v c) ∧ Gr w w'
theorem send_ok (p : Pc) (blk : List Int) (number : Int) (v c : Nat) (w : World) (hl : LaidIn w) (hv : validPc p = true) (ha : p.act = true) (hn : 0 ≤ number ∧ number < 4) (ht : p.tries < 32) (hver : p.ver = v) (hc : p.coded = c) (hr : Rd .u8 w p.a p.len blk) :
    Calls Tryd.prog 17 #[PVal p, .int .i64 number] w (SendOk p blk number v c w) := by
  obtain ⟨hE, -, -, -, f4, f5⟩ := send_facts (p := p) (number := number) (by rw [hv]; simp) (by rw [ha]; simp) (by omega) (by omega)
  have hP : sendP p number = { p with tries := p.tries + 1, ver := (p.ver + 1) % 4 } := by unfold sendP; rw [if_pos hE]
  have hA : sendA p number = ⟨number, p.fresh, p.ver, p.len, p.coded⟩ := by unfold sendA; rw [if_pos hE]
  have hS : sendS p blk number = sentL blk v c := by unfold sendS; rw [if_pos hE, hver, hc]; rfl
  refine (send_any p blk number w hl hr (by omega)).mono ?_
  rintro e w' ⟨a', c', a2, n2, c2, he, ho, ho2, hg⟩
  rw [hE, hP, hA] at he
  rw [hS] at ho2
  have hn2 : n2 = c := by rw [← ho2.len, sentL_len]
  subst hn2
  exact ⟨{ p with a := a', cap := c', tries := p.tries + 1, ver := (p.ver + 1) % 4 }, _, a2, c2, ⟨rfl, rfl, rfl, rfl, rfl, rfl⟩, rfl, he, ho, ho2, hg⟩
/-- The same collector, but for the place of its soft bits. -/
structure Cl.Like (r q : Cl) : Prop where
  fresh : r.fresh = q.fresh
  size : r.size = q.size
  len : r.len = q.len
  some : r.some = q.some
  done : r.done = q.done
def RecOk (R : RecR) (w : World) (e : Ending) (w' : World) : Prop :=
  ∃ (r : Cl) (ab : Option Addr) (nb cb : Nat), r.Like R.c ∧ nb = R.blk.length ∧ e = .returned (.tuple #[CVal r, .slice ab nb cb, .bool R.ok, .int .i64 R.E]) ∧ OwnI w.heap.size 3 .i64 w' r.a r.len r.cap R.ss ∧ OwnI w.heap.size 5 .u8 w' ab nb cb R.blk ∧ Gr w w'
theorem receive_ok {R : RecR} {c : Cl} {ss : List Int} {a : An} {ls : List Int} (hF : recF c ss a ls = R) (l : Option Addr) (len cap : Nat) (w : World) (hl : LaidIn w) (hr : Rd .i64 w c.a c.len ss) (hm : c.len ≤ 17592186044000) (hs : Rd .i64 w l len ls) :
    Calls Tryd.prog 22 #[CVal c, AVal a, .slice l len cap] w (RecOk R w) := by
  refine (receive_any c ss a l len cap ls w hl hr hm hs).mono ?_
  rw [hF]
  rintro e w' ⟨a', c', ab, cb, he, ho, ho2, hg⟩
  exact ⟨{ R.c with a := a', cap := c' }, ab, _, cb, ⟨rfl, rfl, rfl, rfl, rfl⟩, rfl, he, ho, ho2, hg⟩
def AnsOk (q : Pc) (l : List Int) (r : Bool) (w : World) (e : Ending) (w' : World) : Prop := ∃ s : Pc, s.Like q ∧ e = .returned (.tuple #[PVal s, .bool r, .int .i64 0]) ∧ OwnI w.heap.size 5 .u8 w' s.a s.len s.cap l ∧ Gr w w'
theorem answer_ok {p q : Pc} {blk l : List Int} {right r : Bool} {most : Int} {k : Bool} (hF : ansF p right most = (k, r, 0)) (hq : (if k then p else newP p) = q) (hL : (if k then blk else []) = l) (w : World) (hr : Rd .u8 w p.a p.len blk) (hl : p.len ≤ 17592186044000) :
    Calls Tryd.prog 20 #[PVal p, .bool right, .int .i64 most] w (AnsOk q l r w) := by
  refine (answer_any p blk right most w hr hl).mono ?_
  rw [hF]
  unfold AnsPost
  dsimp only
  rw [hq, hL]
  rintro e w' ⟨a', c', he, ho, hg⟩
  exact ⟨{ q with a := a', cap := c' }, ⟨rfl, rfl, rfl, rfl, rfl, rfl⟩, he, ho, hg⟩
def w7 : List Int := wordL [7]
def s7 : List Int := ofL (sentL [7] 0 96) [] 9
def S7 : List Int := colL (List.replicate 52 0) s7 52 0 96
theorem s7_right : ∀ p ∈ List.zip S7 (enc (wordL [7])), 1 ≤ p.1 * (1 - 2 * p.2) := by decide +kernel
theorem S7_ok : softOk S7 := colL_ok s7 52 0 (fun x hx => by rw [List.eq_of_mem_replicate hx]; decide) 96
theorem dec7 : dec (8 * [(7 : Int)].length + 16) S7 0 = wordL [7] :=
  dec_right (n := 24) (by unfold S7; rw [colL_len, List.length_replicate]) S7_ok (by decide) (wordL_bits _) (by rw [wordL_len]; rfl) s7_right
theorem rec7 : recF zeroC [] ⟨2, 1, 0, 1, 96⟩ s7 = ⟨0, ⟨1, 1, none, 52, 0, true, true⟩, S7, true, [7]⟩ := by
  have hs : softB s7 = true := (softB_iff s7).2 (ofL_ok _ _ _)
  have hb7 : ∀ x ∈ [(7 : Int)], 0 ≤ x ∧ x ≤ 255 := by intro x hx; simp at hx; omega
  have hlen : (s7.length : Int) = 96 := by unfold s7; rw [ofL_len, sentL_len]; rfl
  have hB : baseC zeroC ⟨2, 1, 0, 1, 96⟩ = ⟨1, 1, none, 52, 0, true, false⟩ := rfl
  have hBS : baseS zeroC [] ⟨2, 1, 0, 1, 96⟩ = List.replicate 52 0 := rfl
  have hgo : goS zeroC [] ⟨2, 1, 0, 1, 96⟩ s7 = S7 := by unfold goS S7; rw [hBS, show totN (1 : Int).toNat = 52 by decide, show (0 : Int).toNat = 0 by decide, show (96 : Int).toNat = 96 by decide]
  have hok := decOk_word (blk := [7]) hb7 dec7
  have hdb := decB_word (blk := [7]) hb7 dec7
  have e1 : ([(7 : Int)].length) = (1 : Int).toNat := by decide
  rw [e1] at hok hdb
  unfold recF
  rw [if_neg (by rw [hs]; decide), if_neg (by rw [hlen]; simp), if_neg (by rw [hBS, hB, show softB (List.replicate 52 0) = true by decide +kernel]; decide), if_neg (by rw [hB]; simp), hgo, if_pos hok, hB]
  rw [hdb]
theorem pnew_facts {W V WN : World} {r : Pc} (hv : V = W.alloc (.cells #[.bool false, .slice none 0 0, .int .i64 0, .int .i64 0, .int .i64 0, .int .i64 0] 24)) (hw : WN = V.setCells W.heap.size 0 (PList r)) : V.there W.heap.size 0 6 ∧ PBlk W.heap.size r WN ∧ Gr W WN := by
  have h1 : PBlk W.heap.size zeroP V := by rw [hv]; exact heap_alloc_new _ _
  refine ⟨pblk_there h1, by rw [hw]; exact pblk_put h1 r, ?_⟩
  rw [hw]
  exact grown_setCells_new (by rw [hv]; exact Gr.alloc _ _) (Nat.le_refl _) _ _
theorem cnew_facts {W V WN : World} {r : Cl} (hv : V = W.alloc (.cells #[.int .i64 0, .int .i64 0, .slice none 0 0, .bool false, .bool false] 27)) (hw : WN = V.setCells W.heap.size 0 (CList r)) : V.there W.heap.size 0 5 ∧ CBlk W.heap.size r WN ∧ Gr W WN := by
  have h1 : CBlk W.heap.size zeroC V := by rw [hv]; exact heap_alloc_new _ _
  refine ⟨cblk_there h1, by rw [hw]; exact cblk_put h1 r, ?_⟩
  rw [hw]
  exact grown_setCells_new (by rw [hv]; exact Gr.alloc _ _) (Nat.le_refl _) _ _
theorem snew_facts {W VA V WA WN : World} {r : Pc} {A : An} (hva : VA = W.alloc (.cells #[.bool false, .slice none 0 0, .int .i64 0, .int .i64 0, .int .i64 0, .int .i64 0] 24))
    (hv : V = VA.alloc (.cells #[.int .i64 0, .int .i64 0, .int .i64 0, .int .i64 0, .int .i64 0] 29)) (hwa : WA = V.setCells W.heap.size 0 (PList r)) (hw : WN = WA.setCells (W.heap.size + 1) 0 (AList A)) :
    V.there W.heap.size 0 6 ∧ WA.there (W.heap.size + 1) 0 5 ∧ PBlk W.heap.size r WN ∧ ABlk (W.heap.size + 1) A WN ∧ Gr W WN := by
  have hs : VA.heap.size = W.heap.size + 1 := by rw [hva]; simp
  have h0 : PBlk W.heap.size zeroP VA := by rw [hva]; exact heap_alloc_new _ _
  have hg1 : Gr VA V := by rw [hv]; exact Gr.alloc _ _
  have h1 := h0.kept hg1
  have h2 : ABlk (W.heap.size + 1) zeroA V := by rw [hv, ← hs]; exact heap_alloc_new _ _
  have h3 : PBlk W.heap.size r WA := by rw [hwa]; exact pblk_put h1 r
  have h4 : ABlk (W.heap.size + 1) zeroA WA := by rw [hwa]; exact ablk_other h2 _ (by omega)
  have g0 : Gr W V := Gr.trans (by rw [hva]; exact Gr.alloc _ _) hg1
  have g1 : Gr W WA := by rw [hwa]; exact grown_setCells_new g0 (Nat.le_refl _) _ _
  refine ⟨pblk_there h1, ablk_there h4, by rw [hw]; exact pblk_other h3 _ (by omega), by rw [hw]; exact ablk_put h4 A, ?_⟩
  rw [hw]
  exact grown_setCells_new g1 (by omega) _ _
set_option maxRecDepth 20000 in
set_option maxHeartbeats 2000000 in
theorem awake29 (w : World) (hl : LaidIn w) : Calls Tryd.prog 11 #[] w fun e w' => e = .returned (.bool true) ∧ Gr w w' := by
  have HL := Lib.hid hl
  clear hl
  go_enter Tryd.func11, Tryd.ntmps11
  go_wp2_with fail
  obtain ⟨w1, hw1⟩ : ∃ y, y = w.alloc (.cells #[.int .u8 7] 5) := ⟨_, rfl⟩
  have hr1 := rd_new (k := .u8) (w := w) [7] 5 (0, 0) 1 rfl (by simp [maxLen]) (by intro z hz; simp only [List.mem_singleton] at hz; subst hz; decide)
  simp only [List.map_cons, List.map_nil] at hr1
  rw [← hw1] at hr1
  have hg1 : Gr w w1 := by rw [hw1]; exact Gr.alloc _ _
  rw [← hw1]
  have HR1 := Lib.hid hr1
  have HG1 := Lib.hid hg1
  clear hw1 hr1 hg1
  refine (start_ok zeroP [] _ 1 1 [7] 96 w1 (by decide) rfl (by omega) (by omega) ⟨rfl, by simp, by simp [zeroP], .inl rfl⟩ (by simp [zeroP]) HR1.out).mono ?_
  rintro e w2 ⟨p1, hp1, rfl, ho2, hg2⟩
  have HP1 := Lib.hid hp1
  have HO2 := Lib.hid ho2
  have HG2 := Lib.hid (HG1.out.trans hg2)
  clear hp1 ho2 hg2 HR1 HG1
  obtain ⟨v1, hv⟩ : ∃ y, y = (w2).alloc (.cells #[.bool false, .slice none 0 0, .int .i64 0, .int .i64 0, .int .i64 0, .int .i64 0] 24) := ⟨_, rfl⟩
  obtain ⟨w3, hw⟩ : ∃ y, y = v1.setCells (w2).heap.size 0 (PList p1) := ⟨_, rfl⟩
  obtain ⟨hf1, hf2, hf3⟩ := pnew_facts hv hw
  have HV1 := Lib.hid hv
  have HW1 := Lib.hid hw
  have HTH1 := Lib.hid hf1
  have HPB1 := Lib.hid hf2
  have HGR1 := Lib.hid hf3
  clear hv hw hf1 hf2 hf3
  go_upto_region 2 with (rw [← HV1.out]; refine wpList_store_mid rfl 24 _ _ rfl w2.heap.size 0 (PList p1).toArray rfl rfl HTH1.out (by kernel_rfl) (plist_one _) ?_; rw [← HW1.out])
  have hb' := (HPB1).out
  unfold PBlk PCells at hb'
  have HPU1 := Lib.hid hb'
  clear hb'
  go_wp2_with (refine wpList_load_w rfl 24 _ rfl w2.heap.size rfl 24 _ _ _ HPU1.out Tryd.underlying24 rfl (by kernel_rfl) ?_)
  refine (send_ok p1 [7] 2 0 96 w3 (HL.out.kept (HG2.out.trans HGR1.out)) (by rw [HP1.out.valid]; rfl) HP1.out.act (by omega) (by rw [HP1.out.tries]; decide) HP1.out.ver HP1.out.coded (by have h := (HO2.out.stay HGR1.out).rd; exact h)).mono ?_
  rintro e w4 ⟨q, A, l4, c4, hq, hA, rfl, ho4, hl4, hg4⟩
  have HQ := Lib.hid hq
  have hA2 : A = ⟨2, 1, 0, 1, 96⟩ := by rw [hA, HP1.out.fresh, HP1.out.ver, HP1.out.len, HP1.out.coded]; rfl
  have HA := Lib.hid hA2
  have HO4 := Lib.hid ho4
  have HL4 := Lib.hid hl4
  have HG4 := Lib.hid ((HG2.out.trans HGR1.out).trans hg4)
  clear hq hA hA2 ho4 hl4 hg4 HV1 HW1 HTH1
  obtain ⟨va2, hva⟩ : ∃ y, y = (w4).alloc (.cells #[.bool false, .slice none 0 0, .int .i64 0, .int .i64 0, .int .i64 0, .int .i64 0] 24) := ⟨_, rfl⟩
  obtain ⟨v2, hv⟩ : ∃ y, y = va2.alloc (.cells #[.int .i64 0, .int .i64 0, .int .i64 0, .int .i64 0, .int .i64 0] 29) := ⟨_, rfl⟩
  obtain ⟨wa2, hwa⟩ : ∃ y, y = v2.setCells (w4).heap.size 0 (PList q) := ⟨_, rfl⟩
  obtain ⟨w5, hw⟩ : ∃ y, y = wa2.setCells ((w4).heap.size + 1) 0 (AList A) := ⟨_, rfl⟩
  obtain ⟨hf1, hf2, hf3, hf4, hf5⟩ := snew_facts hva hv hwa hw
  have HVA2 := Lib.hid hva
  have HV2 := Lib.hid hv
  have HWA2 := Lib.hid hwa
  have HW2 := Lib.hid hw
  have HTH2 := Lib.hid hf1
  have HTA2 := Lib.hid hf2
  have HPB2 := Lib.hid hf3
  have HAB2 := Lib.hid hf4
  have HGR2 := Lib.hid hf5
  clear hva hv hwa hw hf1 hf2 hf3 hf4 hf5
  go_upto_region 3 with (first | (rw [← HVA2.out, ← HV2.out]; refine wpList_store_mid rfl 24 _ _ rfl w4.heap.size 0 (PList q).toArray rfl rfl HTH2.out (by kernel_rfl) (plist_one _) ?_; rw [← HWA2.out]) | (refine wpList_store_mid rfl 29 _ _ rfl (w4.heap.size + 1) 0 (AList A).toArray rfl rfl HTA2.out (by kernel_rfl) (alist_one _) ?_; rw [← HW2.out]))
  go_wp2_with fail
  refine (rof_any l4 96 c4 (sentL [7] 0 96) 9 none 0 0 [] w5 (HL4.out.stay HGR2.out).rd (sentL_bits _ _ _) (by omega) ⟨rfl, by simp, by simp, .inl rfl⟩ (by simp) (by omega) (by omega)).mono ?_
  rintro e w6 ⟨s6, c6, rfl, ho6, hg6⟩
  have HO6 := Lib.hid (show OwnI w5.heap.size 3 .i64 w6 s6 96 c6 s7 from ho6)
  have HAB6 := Lib.hid (HAB2.out.kept hg6)
  have HPB6 := Lib.hid (HPB2.out.kept hg6)
  have HG6 := Lib.hid ((HG4.out.trans HGR2.out).trans hg6)
  have HB6 := Lib.hid (HO4.out.stay (HGR2.out.trans hg6))
  clear ho6 hg6 HV2 HVA2 HW2 HWA2 HTH2 HTA2
  have hb' := (HAB6).out
  unfold ABlk ACells at hb'
  have HAU6 := Lib.hid hb'
  clear hb'
  go_wp2_with (refine wpList_load_w rfl 29 _ rfl (w4.heap.size + 1) rfl 29 _ _ _ HAU6.out Tryd.underlying29 rfl (by kernel_rfl) ?_)
  refine (receive_ok (c := zeroC) (ss := []) (a := A) (R := ⟨0, ⟨1, 1, none, 52, 0, true, true⟩, S7, true, [7]⟩) (by rw [HA.out]; exact rec7) s6 96 c6 w6 (HL.out.kept HG6.out) ⟨rfl, by simp, by simp [zeroC], .inl rfl⟩ (by simp [zeroC]) HO6.out.rd).mono ?_
  rintro e w7 ⟨c, ab, nb, cb, hc, hnb, rfl, -, hob, hg7⟩
  obtain rfl : nb = 1 := hnb
  have HC := Lib.hid hc
  have HOB := Lib.hid hob
  have HG7 := Lib.hid (HG6.out.trans hg7)
  have HAB7 := Lib.hid (HAB6.out.kept hg7)
  have HPB7 := Lib.hid (HPB6.out.kept hg7)
  have HB7 := Lib.hid (HB6.out.stay hg7)
  clear hc hob hg7 HG6 HAB6 HPB6 HB6 HAU6
  obtain ⟨v3, hv⟩ : ∃ y, y = (w7).alloc (.cells #[.int .i64 0, .int .i64 0, .slice none 0 0, .bool false, .bool false] 27) := ⟨_, rfl⟩
  obtain ⟨w8, hw⟩ : ∃ y, y = v3.setCells (w7).heap.size 0 (CList c) := ⟨_, rfl⟩
  obtain ⟨hf1, hf2, hf3⟩ := cnew_facts hv hw
  have HV3 := Lib.hid hv
  have HW3 := Lib.hid hw
  have HTH3 := Lib.hid hf1
  have HPB3 := Lib.hid hf2
  have HGR3 := Lib.hid hf3
  clear hv hw hf1 hf2 hf3
  go_upto_region 5 with (rw [← HV3.out]; refine wpList_store_mid rfl 27 _ _ rfl w7.heap.size 0 (CList c).toArray rfl rfl HTH3.out (by kernel_rfl) (clist_one _) ?_; rw [← HW3.out])
  have HPB8 := Lib.hid (HPB7.out.kept HGR3.out)
  have hb' := (HPB8).out
  unfold PBlk PCells at hb'
  have HPU8 := Lib.hid hb'
  clear hb'
  go_wp2_with (refine wpList_load_w rfl 24 _ rfl w4.heap.size rfl 24 _ _ _ HPU8.out Tryd.underlying24 rfl (by kernel_rfl) ?_)
  have qf : q.fresh = 1 := HQ.out.fresh.trans HP1.out.fresh
  have qv : q.ver = 1 := HQ.out.ver.trans (by show (p1.ver + 1) % 4 = 1; rw [HP1.out.ver]; rfl)
  have qt : q.tries = 1 := HQ.out.tries.trans (by show p1.tries + 1 = 1; rw [HP1.out.tries]; rfl)
  have ql : q.len = 1 := HQ.out.len.trans HP1.out.len
  have qc : q.coded = 96 := HQ.out.coded.trans HP1.out.coded
  have qa : q.act = true := HQ.out.act.trans HP1.out.act
  have hqv : validPc q = true := valid_of (by omega) (by omega) (by omega) (fun _ => by omega)
  refine (answer_ok (p := q) (blk := [7]) (right := true) (most := 4) (k := false) (r := true) (by unfold ansF; rw [if_neg (by rw [hqv]; simp), if_neg (by rw [qa, qt]; decide), if_neg (by decide), if_pos rfl]) rfl rfl w8 (HB7.out.stay HGR3.out).rd (by rw [ql]; decide)).mono ?_
  rintro e w9 ⟨r, hr, rfl, -, hg9⟩
  have HRR := Lib.hid hr
  have HG9 := Lib.hid ((HG7.out.trans HGR3.out).trans hg9)
  have hAB9 := (HAB7.out.kept HGR3.out).kept hg9
  have hCB9 := HPB3.out.kept hg9
  have hob9 := HOB.out.stay (HGR3.out.trans hg9)
  clear hr hqv hg9 qf qv qt ql qc qa HV3 HW3 HTH3 HPU8
  obtain ⟨v4, hv⟩ : ∃ y, y = (w9).alloc (.cells #[.bool false, .slice none 0 0, .int .i64 0, .int .i64 0, .int .i64 0, .int .i64 0] 24) := ⟨_, rfl⟩
  obtain ⟨w10, hw⟩ : ∃ y, y = v4.setCells (w9).heap.size 0 (PList r) := ⟨_, rfl⟩
  obtain ⟨hf1, hf2, hf3⟩ := pnew_facts hv hw
  have HV4 := Lib.hid hv
  have HW4 := Lib.hid hw
  have HTH4 := Lib.hid hf1
  have HPB4 := Lib.hid hf2
  have HGR4 := Lib.hid hf3
  clear hv hw hf1 hf2 hf3
  have HAB10 := Lib.hid (hAB9.kept HGR4.out)
  have HCB10 := Lib.hid (hCB9.kept HGR4.out)
  have HOB10 := Lib.hid (hob9.stay HGR4.out)
  clear hAB9 hCB9 hob9
  go_upto_region 6 with (rw [← HV4.out]; refine wpList_store_mid rfl 24 _ _ rfl w9.heap.size 0 (PList r).toArray rfl rfl HTH4.out (by kernel_rfl) (plist_one _) ?_; rw [← HW4.out])
  have k0 := ablk_at HAB10.out 0 (v := .int .i64 2) (by rw [HA.out]; rfl)
  have k4 := cblk_at HCB10.out 4 (v := .bool true) (by unfold CCells; rw [HC.out.done]; rfl)
  have kr := pblk_at HPB4.out 0 (v := .bool false) (by unfold PCells; rw [HRR.out.act]; rfl)
  obtain ⟨bb, hbb, -, -⟩ := own_some HOB10.out (by omega)
  subst hbb
  obtain ⟨kb, -⟩ := HOB10.out.at 0 (by omega)
  have kb' : w10.cell? ⟨bb, 0, none⟩ = Option.some (.int .u8 7) := kb
  clear kb
  go_wp2_with fail
  go_ret
  exact ⟨rfl, HG9.out.trans HGR4.out⟩
end Go.Proofs.YtcleegibdcphiaaDoor
