/- Layer 29 (harq): Send of the program. -/
import Derived.Test.YtcleegibdcphiaaDoorHarM
import Derived.Test.YtcleegibdcphiaaDoorLaid
namespace Go.Proofs.YtcleegibdcphiaaDoor
open Go.ChangeShapes Go.WideShapes Go.ChangeAt Go.RowKit
open Cod

theorem Sched2.pq_load_row {P : Program} {o : Oper} {a : Act} {w : World} {late : Bool} (ty : TypeId) (x : Operand) (ho : o.op = .load ty x)
    (g : Nat) (hx : a.eval x = .pointer (some ⟨g, 0, none⟩)) (t : TypeId) (cs : Array Value) (fr : Nat × Nat) (d : TypeDesc) (hg : w.heap[g]? = some (.cells cs t fr))
    (hu : P.underlying ty = some d) (hd : (match d with | .struct _ | .array _ _ => true | _ => false) = true) (hi : (P.info? ty).map (·.size) = some cs.size) : Sched2.gq P o a w (.agg cs) late := by
  unfold Sched2.gq execOp
  simp only [ho, hx, Instr.loadAt, Instr.sureAddr, Sem.run_bind, Sem.run_pure, Result.andThen_ok, run_loadVar_row w g t ty cs fr d hg hu hd hi]
  exact ⟨trivial, trivial⟩
theorem pos_is {ver coded : Int} {v c : Nat} (hv : ver = v) (hc : coded = c) (t : Nat) (w : World) (t1 : 1 ≤ t) (t2 : t ≤ 4132) (h4 : v < 4) (c1 : 1 ≤ c) (c2 : c ≤ 1152) :
    Calls Tryd.prog 41 #[.int .i64 t, .int .i64 ver, .int .i64 coded] w (PosPost t v c w) := by
  subst hv hc; exact positions_yes t v c w t1 t2 h4 c1 c2
theorem encw_is (a : Option Addr) (len cap : Nat) (xs : List Int) (w : World) (hr : Rd .i64 w a (8 * len + 16) (wordL xs)) (h2 : len ≤ 256) :
    Calls Tryd.prog 39 #[.slice a (8 * len + 16) cap] w fun e w' => ∃ a' c', e = .returned (.tuple #[.slice a' (totN len) c', .int .i64 0]) ∧ OwnI w.heap.size 3 .i64 w' a' (totN len) c' (enc (wordL xs)) ∧ Gr w w' := by
  refine (encode_yes a (8 * len + 16) cap (wordL xs) w hr (wordL_bits xs) (by omega) (by omega)).mono ?_
  rintro e w' ⟨a', c', rfl, ho, hg⟩
  have e2 : 2 * (8 * len + 16 + 2) = totN len := by unfold totN; omega
  rw [e2] at ho ⊢
  exact ⟨a', c', rfl, ho, hg⟩
set_option maxRecDepth 20000 in
set_option maxHeartbeats 2000000 in
theorem send_any (p : Pc) (blk : List Int) (number : Int) (w : World) (hl : LaidIn w) (hr : Rd .u8 w p.a p.len blk) (hlen : p.len ≤ 17592186044000) :
    Calls Tryd.prog 17 #[PVal p, .int .i64 number] w (SendPost p blk number w) := by
  have HR := Lib.hid hr
  have HL := Lib.hid hl
  clear hr hl
  unfold PVal
  go_enter Tryd.func17, Tryd.ntmps17
  go_upto_region 1 with (fail)
  obtain ⟨w0, hw0⟩ : ∃ y, y = w.alloc (.cells #[.bool p.act, .slice p.a p.len p.cap, .int .i64 p.coded, .int .i64 p.fresh, .int .i64 p.ver, .int .i64 p.tries] 24) := ⟨_, rfl⟩
  have hb0 : PBlk w.heap.size p w0 := by rw [hw0]; exact heap_alloc_new _ _
  have hg0 : Gr w w0 := by rw [hw0]; exact Gr.alloc _ _
  have hs0 : w0.heap.size = w.heap.size + 1 := by rw [hw0]; simp
  rw [← hw0]
  obtain ⟨w1, hw1⟩ : ∃ y, y = w0.alloc (.cells #[.bool false, .slice none 0 0, .int .i64 0, .int .i64 0, .int .i64 0, .int .i64 0] 24) := ⟨_, rfl⟩
  have hg1 : Gr w0 w1 := by rw [hw1]; exact Gr.alloc _ _
  have hs1 : w1.heap.size = w.heap.size + 2 := by rw [hw1]; simp [hs0]
  have hz1 : PBlk (w.heap.size + 1) zeroP w1 := by rw [hw1, ← hs0]; exact heap_alloc_new _ _
  rw [← hw1]
  obtain ⟨w2, hw2⟩ : ∃ y, y = w1.alloc (.cells #[.int .i64 0, .int .i64 0, .int .i64 0, .int .i64 0, .int .i64 0] 29) := ⟨_, rfl⟩
  have hg2 : Gr w1 w2 := by rw [hw2]; exact Gr.alloc _ _
  have hs2 : w2.heap.size = w.heap.size + 3 := by rw [hw2]; simp [hs1]
  have ha2 : ABlk (w.heap.size + 2) zeroA w2 := by rw [hw2, ← hs1]; exact heap_alloc_new _ _
  rw [← hw2]
  have HB2 := Lib.hid ((hb0.kept hg1).kept hg2)
  have HZ2 := Lib.hid (hz1.kept hg2)
  have HA2 := Lib.hid ha2
  have HG2 := Lib.hid ((hg0.trans hg1).trans hg2)
  have HS2 := Lib.hid hs2
  clear hw0 hw1 hw2 hb0 hg0 hg1 hg2 hz1 ha2 hs0 hs1 hs2
  obtain ⟨V, hV⟩ : ∃ V, validPc p = V := ⟨_, rfl⟩
  have HV := Lib.hid hV
  clear hV
  have hb' := (HB2).out
  unfold PBlk PCells at hb'
  have HB2U := Lib.hid hb'
  clear hb'
  go_wp2_with (refine wpList_load_w rfl 24 _ rfl w.heap.size rfl 24 _ _ _ HB2U.out Tryd.underlying24 rfl (by kernel_rfl) ?_)
  refine (copied_any p blk w2 (rd_gr HR.out HG2.out) hlen).mono ?_
  rintro e w3 ⟨a', c', rfl, ho3, hg3⟩
  have hlt3 := hg3.size
  rw [HS2.out] at hlt3 ho3
  obtain ⟨v3, hv3⟩ : ∃ y, y = w3.alloc (.cells #[.bool false, .slice none 0 0, .int .i64 0, .int .i64 0, .int .i64 0, .int .i64 0] 24) := ⟨_, rfl⟩
  have hgv : Gr w3 v3 := by rw [hv3]; exact Gr.alloc _ _
  obtain ⟨k8, hk8⟩ : ∃ k8, w3.heap.size = k8 := ⟨_, rfl⟩
  have hcv : PBlk k8 zeroP v3 := by rw [hv3, ← hk8]; exact heap_alloc_new _ _
  obtain ⟨w4, hw4⟩ : ∃ y, y = v3.setCells k8 0 (PList { p with a := a', cap := c' }) := ⟨_, rfl⟩
  have hb4 := pblk_other ((HB2.out.kept hg3).kept hgv) (k := k8) (PList { p with a := a', cap := c' }) (by omega)
  have hz4 := pblk_other ((HZ2.out.kept hg3).kept hgv) (k := k8) (PList { p with a := a', cap := c' }) (by omega)
  have ha4 := ablk_other ((HA2.out.kept hg3).kept hgv) (k := k8) (PList { p with a := a', cap := c' }) (by omega)
  have hc4 := pblk_put hcv { p with a := a', cap := c' }
  have hne : (Value.slice a' p.len c').ownBlock = none ∨ (Value.slice a' p.len c').ownBlock ≠ some k8 := by
    cases hv : (Value.slice a' p.len c').ownBlock with
    | none => exact .inl rfl
    | some b => exact .inr (by intro h2; have := (ho3.below b hv).2; cases h2; omega)
  have ho4 := (ho3.stay hgv).kept (grown_setCells k8 (PList { p with a := a', cap := c' }) 0 v3) hne
  have hg4 := grown_setCells_new ((HG2.out.trans hg3).trans hgv) (show w.heap.size ≤ k8 by omega) (PList { p with a := a', cap := c' }) 0
  rw [← hw4] at hb4 hz4 ha4 hc4 ho4 hg4
  have HTH := Lib.hid (pblk_there hcv)
  have HB4 := Lib.hid hb4
  have HZ4 := Lib.hid hz4
  have HA4 := Lib.hid ha4
  have HC4 := Lib.hid hc4
  have HO4 := Lib.hid ho4
  have HG4 := Lib.hid hg4
  have HW4 := Lib.hid hw4
  have HV3 := Lib.hid hv3
  have HK8 := Lib.hid hk8
  have hk8' : w.heap.size + 3 ≤ k8 := by omega
  have HNE := Lib.hid hne
  clear hgv hcv hw4 hb4 hz4 ha4 hc4 ho4 hg4 hv3 hk8 hne ho3 hg3 hlt3 HB2 HZ2 HA2 HG2 HS2 HB2U
  go_upto_region 3 with (rw [HK8.out, ← HV3.out]; refine wpList_store_mid rfl 24 _ _ rfl k8 0 (PList { p with a := a', cap := c' }).toArray rfl rfl HTH.out (by kernel_rfl) (plist_one _) ?_; rw [← HW4.out])
  clear HTH HW4 HV3
  have hb' := (HB4).out
  unfold PBlk PCells at hb'
  have HB4U := Lib.hid hb'
  clear hb'
  go_wp2_with (refine wpList_load_w rfl 24 _ rfl w.heap.size rfl 24 _ _ _ HB4U.out Tryd.underlying24 rfl (by kernel_rfl) ?_)
  refine (hvalid_is HV.out w4).mono ?_
  rintro e w5 ⟨rfl, hg5⟩
  have HB5 := Lib.hid (HB4.out.kept hg5)
  have HZ5 := Lib.hid (HZ4.out.kept hg5)
  have HA5 := Lib.hid (HA4.out.kept hg5)
  have HC5 := Lib.hid (HC4.out.kept hg5)
  have HO5 := Lib.hid (HO4.out.stay hg5)
  have HG5 := Lib.hid (HG4.out.trans hg5)
  clear hg5 HB4 HZ4 HA4 HC4 HO4 HG4 HB4U
  have hb' := (HB5).out
  unfold PBlk PCells at hb'
  have HB5U := Lib.hid hb'
  clear hb'
  have hb' := (HC5).out
  unfold PBlk PCells at hb'
  have HC5U := Lib.hid hb'
  clear hb'
  cases V
  · have hE : sendE p number = 1 := by unfold sendE; rw [if_pos HV.out]
    have HQ := Lib.hid (show sendP p number = p by unfold sendP; rw [hE]; rfl)
    have HQA := Lib.hid (show sendA p number = zeroA by unfold sendA; rw [hE]; rfl)
    have HLL := Lib.hid (show sendS p blk number = [] by unfold sendS; rw [hE]; rfl)
    have HE := Lib.hid hE
    clear hE
    have hz5 := HZ5.out
    obtain ⟨w6, hw6⟩ : ∃ y, y = w5.setCells (w.heap.size + 1) 0 (PList { p with a := a', cap := c' }) := ⟨_, rfl⟩
    have hz6 := pblk_put hz5 { p with a := a', cap := c' }
    have ha6 := ablk_other HA5.out (k := w.heap.size + 1) (PList { p with a := a', cap := c' }) (by omega)
    have ho6 := own_cells HO5.out (show w.heap.size + 1 < w.heap.size + 3 by omega) (PList { p with a := a', cap := c' })
    have hg6 := grown_setCells_new HG5.out (show w.heap.size ≤ w.heap.size + 1 by omega) (PList { p with a := a', cap := c' }) 0
    rw [← hw6] at hz6 ha6 ho6 hg6
    obtain ⟨w7, hw7⟩ : ∃ y, y = w6.setCells (w.heap.size + 2) 0 (AList zeroA) := ⟨_, rfl⟩
    have hz7 := pblk_other hz6 (k := w.heap.size + 2) (AList zeroA) (by omega)
    have ha7 := ablk_put ha6 zeroA
    have ho7 := own_cells ho6 (show w.heap.size + 2 < w.heap.size + 3 by omega) (AList zeroA)
    have hg7 := grown_setCells_new hg6 (show w.heap.size ≤ w.heap.size + 2 by omega) (AList zeroA) 0
    rw [← hw7] at hz7 ha7 ho7 hg7
    have HTHP := Lib.hid (pblk_there hz5)
    have HTHA := Lib.hid (ablk_there ha6)
    have HZ7 := Lib.hid hz7
    have HA7 := Lib.hid ha7
    have HO7 := Lib.hid (ho7.weak29 (B' := w.heap.size) (by omega))
    have HG7 := Lib.hid hg7
    have HW6 := Lib.hid hw6
    have HW7 := Lib.hid hw7
    clear hz5 hw6 hw7 hz6 ha6 ho6 hg6 hz7 ha7 ho7 hg7
    go_wp2_with (first | (refine wpList_load_w rfl 24 _ rfl k8 rfl 24 _ _ _ HC5U.out Tryd.underlying24 rfl (by kernel_rfl) ?_) | (refine wpList_store_mid rfl 24 _ _ rfl (w.heap.size + 1) 0 (PList { p with a := a', cap := c' }).toArray rfl rfl HTHP.out (by kernel_rfl) (plist_one _) ?_; rw [← HW6.out]) | (refine wpList_store_mid rfl 29 _ _ rfl (w.heap.size + 2) 0 (AList zeroA).toArray rfl rfl HTHA.out (by kernel_rfl) (alist_one _) ?_; rw [← HW7.out]))
    refine bodyPost_ret (results_cell_cell2 Tryd.results17 _ _ (w.heap.size + 1) _ _ _ _ rfl HZ7.out Tryd.underlying24 rfl (by kernel_rfl) (w.heap.size + 2) _ _ _ _ rfl HA7.out Tryd.underlying29 rfl (by kernel_rfl)) rfl ?_
    unfold SendPost
    rw [HQ.out, HQA.out, HLL.out, HE.out]
    exact ⟨a', c', none, 0, 0, rfl, HO7.out, OwnI.nil _ _ _ _, HG7.out⟩
  have hnv : ¬ validPc p = false := by rw [HV.out]; simp
  have HNV := Lib.hid hnv
  clear hnv
  have c0 := pblk_at HB5.out 0 (v := .bool p.act) rfl
  have c5 := pblk_at HB5.out 5 (v := .int .i64 p.tries) rfl
  by_cases ha : p.act = false
  · rw [ha] at c0
    have HA := Lib.hid ha
    clear ha
    have hE : sendE p number = 14 := by unfold sendE; rw [if_neg HNV.out, if_pos HA.out]
    have HQ := Lib.hid (show sendP p number = p by unfold sendP; rw [hE]; rfl)
    have HQA := Lib.hid (show sendA p number = zeroA by unfold sendA; rw [hE]; rfl)
    have HLL := Lib.hid (show sendS p blk number = [] by unfold sendS; rw [hE]; rfl)
    have HE := Lib.hid hE
    clear hE
    have hz5 := HZ5.out
    obtain ⟨w6, hw6⟩ : ∃ y, y = w5.setCells (w.heap.size + 1) 0 (PList { p with a := a', cap := c' }) := ⟨_, rfl⟩
    have hz6 := pblk_put hz5 { p with a := a', cap := c' }
    have ha6 := ablk_other HA5.out (k := w.heap.size + 1) (PList { p with a := a', cap := c' }) (by omega)
    have ho6 := own_cells HO5.out (show w.heap.size + 1 < w.heap.size + 3 by omega) (PList { p with a := a', cap := c' })
    have hg6 := grown_setCells_new HG5.out (show w.heap.size ≤ w.heap.size + 1 by omega) (PList { p with a := a', cap := c' }) 0
    rw [← hw6] at hz6 ha6 ho6 hg6
    obtain ⟨w7, hw7⟩ : ∃ y, y = w6.setCells (w.heap.size + 2) 0 (AList zeroA) := ⟨_, rfl⟩
    have hz7 := pblk_other hz6 (k := w.heap.size + 2) (AList zeroA) (by omega)
    have ha7 := ablk_put ha6 zeroA
    have ho7 := own_cells ho6 (show w.heap.size + 2 < w.heap.size + 3 by omega) (AList zeroA)
    have hg7 := grown_setCells_new hg6 (show w.heap.size ≤ w.heap.size + 2 by omega) (AList zeroA) 0
    rw [← hw7] at hz7 ha7 ho7 hg7
    have HTHP := Lib.hid (pblk_there hz5)
    have HTHA := Lib.hid (ablk_there ha6)
    have HZ7 := Lib.hid hz7
    have HA7 := Lib.hid ha7
    have HO7 := Lib.hid (ho7.weak29 (B' := w.heap.size) (by omega))
    have HG7 := Lib.hid hg7
    have HW6 := Lib.hid hw6
    have HW7 := Lib.hid hw7
    clear hz5 hw6 hw7 hz6 ha6 ho6 hg6 hz7 ha7 ho7 hg7
    go_wp2_with (first | (refine wpList_load_w rfl 24 _ rfl k8 rfl 24 _ _ _ HC5U.out Tryd.underlying24 rfl (by kernel_rfl) ?_) | (refine wpList_store_mid rfl 24 _ _ rfl (w.heap.size + 1) 0 (PList { p with a := a', cap := c' }).toArray rfl rfl HTHP.out (by kernel_rfl) (plist_one _) ?_; rw [← HW6.out]) | (refine wpList_store_mid rfl 29 _ _ rfl (w.heap.size + 2) 0 (AList zeroA).toArray rfl rfl HTHA.out (by kernel_rfl) (alist_one _) ?_; rw [← HW7.out]))
    refine bodyPost_ret (results_cell_cell2 Tryd.results17 _ _ (w.heap.size + 1) _ _ _ _ rfl HZ7.out Tryd.underlying24 rfl (by kernel_rfl) (w.heap.size + 2) _ _ _ _ rfl HA7.out Tryd.underlying29 rfl (by kernel_rfl)) rfl ?_
    unfold SendPost
    rw [HQ.out, HQA.out, HLL.out, HE.out]
    exact ⟨a', c', none, 0, 0, rfl, HO7.out, OwnI.nil _ _ _ _, HG7.out⟩
  have ha' : p.act = true := by simpa using ha
  rw [ha'] at c0
  have HNA := Lib.hid ha
  clear ha ha'
  by_cases hm : number < 0
  · have hE : sendE p number = 3 := by unfold sendE; rw [if_neg HNV.out, if_neg HNA.out, if_pos (Or.inl hm)]
    have HQ := Lib.hid (show sendP p number = p by unfold sendP; rw [hE]; rfl)
    have HQA := Lib.hid (show sendA p number = zeroA by unfold sendA; rw [hE]; rfl)
    have HLL := Lib.hid (show sendS p blk number = [] by unfold sendS; rw [hE]; rfl)
    have HE := Lib.hid hE
    clear hE
    have hz5 := HZ5.out
    obtain ⟨w6, hw6⟩ : ∃ y, y = w5.setCells (w.heap.size + 1) 0 (PList { p with a := a', cap := c' }) := ⟨_, rfl⟩
    have hz6 := pblk_put hz5 { p with a := a', cap := c' }
    have ha6 := ablk_other HA5.out (k := w.heap.size + 1) (PList { p with a := a', cap := c' }) (by omega)
    have ho6 := own_cells HO5.out (show w.heap.size + 1 < w.heap.size + 3 by omega) (PList { p with a := a', cap := c' })
    have hg6 := grown_setCells_new HG5.out (show w.heap.size ≤ w.heap.size + 1 by omega) (PList { p with a := a', cap := c' }) 0
    rw [← hw6] at hz6 ha6 ho6 hg6
    obtain ⟨w7, hw7⟩ : ∃ y, y = w6.setCells (w.heap.size + 2) 0 (AList zeroA) := ⟨_, rfl⟩
    have hz7 := pblk_other hz6 (k := w.heap.size + 2) (AList zeroA) (by omega)
    have ha7 := ablk_put ha6 zeroA
    have ho7 := own_cells ho6 (show w.heap.size + 2 < w.heap.size + 3 by omega) (AList zeroA)
    have hg7 := grown_setCells_new hg6 (show w.heap.size ≤ w.heap.size + 2 by omega) (AList zeroA) 0
    rw [← hw7] at hz7 ha7 ho7 hg7
    have HTHP := Lib.hid (pblk_there hz5)
    have HTHA := Lib.hid (ablk_there ha6)
    have HZ7 := Lib.hid hz7
    have HA7 := Lib.hid ha7
    have HO7 := Lib.hid (ho7.weak29 (B' := w.heap.size) (by omega))
    have HG7 := Lib.hid hg7
    have HW6 := Lib.hid hw6
    have HW7 := Lib.hid hw7
    clear hz5 hw6 hw7 hz6 ha6 ho6 hg6 hz7 ha7 ho7 hg7
    go_wp2_with (first | (refine wpList_load_w rfl 24 _ rfl k8 rfl 24 _ _ _ HC5U.out Tryd.underlying24 rfl (by kernel_rfl) ?_) | (refine wpList_store_mid rfl 24 _ _ rfl (w.heap.size + 1) 0 (PList { p with a := a', cap := c' }).toArray rfl rfl HTHP.out (by kernel_rfl) (plist_one _) ?_; rw [← HW6.out]) | (refine wpList_store_mid rfl 29 _ _ rfl (w.heap.size + 2) 0 (AList zeroA).toArray rfl rfl HTHA.out (by kernel_rfl) (alist_one _) ?_; rw [← HW7.out]))
    refine bodyPost_ret (results_cell_cell2 Tryd.results17 _ _ (w.heap.size + 1) _ _ _ _ rfl HZ7.out Tryd.underlying24 rfl (by kernel_rfl) (w.heap.size + 2) _ _ _ _ rfl HA7.out Tryd.underlying29 rfl (by kernel_rfl)) rfl ?_
    unfold SendPost
    rw [HQ.out, HQA.out, HLL.out, HE.out]
    exact ⟨a', c', none, 0, 0, rfl, HO7.out, OwnI.nil _ _ _ _, HG7.out⟩
  by_cases hm2 : 4 ≤ number
  · have hE : sendE p number = 3 := by unfold sendE; rw [if_neg HNV.out, if_neg HNA.out, if_pos (Or.inr hm2)]
    have HQ := Lib.hid (show sendP p number = p by unfold sendP; rw [hE]; rfl)
    have HQA := Lib.hid (show sendA p number = zeroA by unfold sendA; rw [hE]; rfl)
    have HLL := Lib.hid (show sendS p blk number = [] by unfold sendS; rw [hE]; rfl)
    have HE := Lib.hid hE
    clear hE
    have hz5 := HZ5.out
    obtain ⟨w6, hw6⟩ : ∃ y, y = w5.setCells (w.heap.size + 1) 0 (PList { p with a := a', cap := c' }) := ⟨_, rfl⟩
    have hz6 := pblk_put hz5 { p with a := a', cap := c' }
    have ha6 := ablk_other HA5.out (k := w.heap.size + 1) (PList { p with a := a', cap := c' }) (by omega)
    have ho6 := own_cells HO5.out (show w.heap.size + 1 < w.heap.size + 3 by omega) (PList { p with a := a', cap := c' })
    have hg6 := grown_setCells_new HG5.out (show w.heap.size ≤ w.heap.size + 1 by omega) (PList { p with a := a', cap := c' }) 0
    rw [← hw6] at hz6 ha6 ho6 hg6
    obtain ⟨w7, hw7⟩ : ∃ y, y = w6.setCells (w.heap.size + 2) 0 (AList zeroA) := ⟨_, rfl⟩
    have hz7 := pblk_other hz6 (k := w.heap.size + 2) (AList zeroA) (by omega)
    have ha7 := ablk_put ha6 zeroA
    have ho7 := own_cells ho6 (show w.heap.size + 2 < w.heap.size + 3 by omega) (AList zeroA)
    have hg7 := grown_setCells_new hg6 (show w.heap.size ≤ w.heap.size + 2 by omega) (AList zeroA) 0
    rw [← hw7] at hz7 ha7 ho7 hg7
    have HTHP := Lib.hid (pblk_there hz5)
    have HTHA := Lib.hid (ablk_there ha6)
    have HZ7 := Lib.hid hz7
    have HA7 := Lib.hid ha7
    have HO7 := Lib.hid (ho7.weak29 (B' := w.heap.size) (by omega))
    have HG7 := Lib.hid hg7
    have HW6 := Lib.hid hw6
    have HW7 := Lib.hid hw7
    clear hz5 hw6 hw7 hz6 ha6 ho6 hg6 hz7 ha7 ho7 hg7
    go_wp2_with (first | (refine wpList_load_w rfl 24 _ rfl k8 rfl 24 _ _ _ HC5U.out Tryd.underlying24 rfl (by kernel_rfl) ?_) | (refine wpList_store_mid rfl 24 _ _ rfl (w.heap.size + 1) 0 (PList { p with a := a', cap := c' }).toArray rfl rfl HTHP.out (by kernel_rfl) (plist_one _) ?_; rw [← HW6.out]) | (refine wpList_store_mid rfl 29 _ _ rfl (w.heap.size + 2) 0 (AList zeroA).toArray rfl rfl HTHA.out (by kernel_rfl) (alist_one _) ?_; rw [← HW7.out]))
    refine bodyPost_ret (results_cell_cell2 Tryd.results17 _ _ (w.heap.size + 1) _ _ _ _ rfl HZ7.out Tryd.underlying24 rfl (by kernel_rfl) (w.heap.size + 2) _ _ _ _ rfl HA7.out Tryd.underlying29 rfl (by kernel_rfl)) rfl ?_
    unfold SendPost
    rw [HQ.out, HQA.out, HLL.out, HE.out]
    exact ⟨a', c', none, 0, 0, rfl, HO7.out, OwnI.nil _ _ _ _, HG7.out⟩
  have HNM := Lib.hid (show ¬ (number < 0 ∨ 4 ≤ number) from fun h => h.elim hm hm2)
  by_cases ht : p.tries = 32
  · have HT := Lib.hid ht
    rw [ht] at c5
    clear ht
    have hE : sendE p number = 13 := by unfold sendE; rw [if_neg HNV.out, if_neg HNA.out, if_neg HNM.out, if_pos HT.out]
    have HQ := Lib.hid (show sendP p number = p by unfold sendP; rw [hE]; rfl)
    have HQA := Lib.hid (show sendA p number = zeroA by unfold sendA; rw [hE]; rfl)
    have HLL := Lib.hid (show sendS p blk number = [] by unfold sendS; rw [hE]; rfl)
    have HE := Lib.hid hE
    clear hE
    have hz5 := HZ5.out
    obtain ⟨w6, hw6⟩ : ∃ y, y = w5.setCells (w.heap.size + 1) 0 (PList { p with a := a', cap := c' }) := ⟨_, rfl⟩
    have hz6 := pblk_put hz5 { p with a := a', cap := c' }
    have ha6 := ablk_other HA5.out (k := w.heap.size + 1) (PList { p with a := a', cap := c' }) (by omega)
    have ho6 := own_cells HO5.out (show w.heap.size + 1 < w.heap.size + 3 by omega) (PList { p with a := a', cap := c' })
    have hg6 := grown_setCells_new HG5.out (show w.heap.size ≤ w.heap.size + 1 by omega) (PList { p with a := a', cap := c' }) 0
    rw [← hw6] at hz6 ha6 ho6 hg6
    obtain ⟨w7, hw7⟩ : ∃ y, y = w6.setCells (w.heap.size + 2) 0 (AList zeroA) := ⟨_, rfl⟩
    have hz7 := pblk_other hz6 (k := w.heap.size + 2) (AList zeroA) (by omega)
    have ha7 := ablk_put ha6 zeroA
    have ho7 := own_cells ho6 (show w.heap.size + 2 < w.heap.size + 3 by omega) (AList zeroA)
    have hg7 := grown_setCells_new hg6 (show w.heap.size ≤ w.heap.size + 2 by omega) (AList zeroA) 0
    rw [← hw7] at hz7 ha7 ho7 hg7
    have HTHP := Lib.hid (pblk_there hz5)
    have HTHA := Lib.hid (ablk_there ha6)
    have HZ7 := Lib.hid hz7
    have HA7 := Lib.hid ha7
    have HO7 := Lib.hid (ho7.weak29 (B' := w.heap.size) (by omega))
    have HG7 := Lib.hid hg7
    have HW6 := Lib.hid hw6
    have HW7 := Lib.hid hw7
    clear hz5 hw6 hw7 hz6 ha6 ho6 hg6 hz7 ha7 ho7 hg7
    go_wp2_with (first | (refine wpList_load_w rfl 24 _ rfl k8 rfl 24 _ _ _ HC5U.out Tryd.underlying24 rfl (by kernel_rfl) ?_) | (refine wpList_store_mid rfl 24 _ _ rfl (w.heap.size + 1) 0 (PList { p with a := a', cap := c' }).toArray rfl rfl HTHP.out (by kernel_rfl) (plist_one _) ?_; rw [← HW6.out]) | (refine wpList_store_mid rfl 29 _ _ rfl (w.heap.size + 2) 0 (AList zeroA).toArray rfl rfl HTHA.out (by kernel_rfl) (alist_one _) ?_; rw [← HW7.out]))
    refine bodyPost_ret (results_cell_cell2 Tryd.results17 _ _ (w.heap.size + 1) _ _ _ _ rfl HZ7.out Tryd.underlying24 rfl (by kernel_rfl) (w.heap.size + 2) _ _ _ _ rfl HA7.out Tryd.underlying29 rfl (by kernel_rfl)) rfl ?_
    unfold SendPost
    rw [HQ.out, HQA.out, HLL.out, HE.out]
    exact ⟨a', c', none, 0, 0, rfl, HO7.out, OwnI.nil _ _ _ _, HG7.out⟩
  have ht' : (p.tries == 32) = false := by simpa using ht
  obtain ⟨hE, f1, f2, f3, f4, f5⟩ := send_facts HNV.out HNA.out HNM.out ht
  have HE := Lib.hid hE
  clear hE
  obtain ⟨v, hv⟩ : ∃ v : Nat, p.ver = v := ⟨p.ver.toNat, by omega⟩
  obtain ⟨c, hc⟩ : ∃ c : Nat, p.coded = c := ⟨p.coded.toNat, by omega⟩
  have HQ := Lib.hid (show sendP p number = { p with tries := p.tries + 1, ver := (p.ver + 1) % 4 } by unfold sendP; rw [if_pos HE.out])
  have HQA := Lib.hid (show sendA p number = ⟨number, p.fresh, p.ver, p.len, p.coded⟩ by unfold sendA; rw [if_pos HE.out])
  have HLL := Lib.hid (show sendS p blk number = sentL blk v c by unfold sendS; rw [if_pos HE.out, hv, hc]; rfl)
  have hv4 : v < 4 := by omega
  have hc1 : 1 ≤ c ∧ c ≤ 1152 := by omega
  have HVV := Lib.hid hv
  have HCC := Lib.hid hc
  have HRL := Lib.hid HR.out.1
  clear hv hc
  have c1 := pblk_at HB5.out 1 (v := .slice p.a p.len p.cap) rfl
  have c2 := pblk_at HB5.out 2 (v := .int .i64 p.coded) rfl
  have c4 := pblk_at HB5.out 4 (v := .int .i64 p.ver) rfl
  go_upto_region 13 with (fail)
  clear c0 c5
  go_wp2_with fail
  refine (hword_any p.a p.len p.cap blk w5 (HL.out.kept HG5.out) (rd_gr HR.out HG5.out) (by omega)).mono ?_
  rintro e w6 ⟨a6, c6, rfl, ho6, hg6⟩
  go_wp2_with fail
  refine (encw_is a6 p.len c6 blk w6 ho6.rd (by omega)).mono ?_
  rintro e w7 ⟨a7, c7, rfl, ho7, hg7⟩
  have c2 := (hg6.trans hg7).cell c2
  have c4 := (hg6.trans hg7).cell c4
  have hE7 := ho7.rd
  have hg57 := hg6.trans hg7
  obtain ⟨T, hT⟩ : ∃ T, totN p.len = T := ⟨_, rfl⟩
  have hT1 : 1 ≤ T ∧ T ≤ 4132 := by unfold totN at hT; omega
  rw [hT] at hE7
  rw [hT]
  have HTT := Lib.hid hT
  clear hT ho6 ho7 hg6 hg7 c1
  go_wp2_with fail
  refine (pos_is HVV.out HCC.out T w7 hT1.1 hT1.2 hv4 hc1.1 hc1.2).mono ?_
  rintro e w8 ⟨g8, rfl, ho8, hg8⟩
  have HE8 := Lib.hid (rd_gr hE7 hg8)
  have HP8 := Lib.hid ho8.rd
  have hg58 := hg57.trans hg8
  have HB8 := Lib.hid (HB5.out.kept hg58)
  have HZ8 := Lib.hid (HZ5.out.kept hg58)
  have HA8 := Lib.hid (HA5.out.kept hg58)
  have HC8 := Lib.hid (HC5.out.kept hg58)
  have HO8 := Lib.hid (HO5.out.stay hg58)
  have HG8 := Lib.hid (HG5.out.trans hg58)
  have hk8s := heap_lt HC8.out
  have HEL := Lib.hid (show (enc (wordL blk)).length = T by rw [encW_len, HRL.out, HTT.out])
  clear hE7 hg57 hg58 hg8 ho8 c2 c4 HB5 HZ5 HA5 HC5 HO5 HG5 HB5U HC5U
  go_wp2_with fail
  go_loopw [14, 62] (fun o i wr => ∃ (ak : Option Addr) (ck k : Nat), k ≤ c ∧ o = .slice ak k ck ∧ i = .int .i64 k ∧ OwnI w8.heap.size 3 .i64 wr ak k ck ((sentL blk v c).take k) ∧ Gr w8 wr) (fun _ i _ => c - (intOf i).toNat)
  case atStart => exact ⟨none, 0, 0, by omega, rfl, rfl, OwnI.nil _ _ _ _, Gr.refl _⟩
  case round =>
    obtain ⟨ak, ck, k, hk, rfl, rfl, ho, hg⟩ := hrel
    have HO := Lib.hid ho
    have HG := Lib.hid hg
    clear ho hg
    by_cases hlt : k < c
    · obtain ⟨b1, off1, ea, _, hcp⟩ := HP8.out.some (by omega)
      cases ea
      have hplt := plc_lt (t := T) (v := v) (k := k) (by omega)
      have cp := HG.out.cell (hcp k hlt)
      rw [posL_plc T v c k hlt, Nat.zero_add] at cp
      obtain ⟨b2, off2, ea, _, hce⟩ := HE8.out.some (by omega)
      subst ea
      have ce := HG.out.cell (hce (plc T v k) hplt)
      have hsn := sentL_at blk v c k hlt
      rw [HRL.out, HTT.out] at hsn
      have htk := take_one (sentL blk v c) k (by rw [sentL_len]; exact hlt)
      rw [hsn] at htk
      obtain ⟨x, hx⟩ : ∃ x, (enc (wordL blk))[plc T v k]?.getD 0 = x := ⟨_, rfl⟩
      have hxb := bit_at (encW_bits blk) (plc T v k)
      obtain ⟨j, hj⟩ : ∃ j, plc T v k = j := ⟨_, rfl⟩
      rw [hx] at ce htk hxb
      rw [hj] at cp hplt ce
      have hrd := rd_new (k := .i64) (w := wr) [x] 3 (0, 0) 1 rfl (by simp [maxLen]) (by intro z hz; simp only [List.mem_singleton] at hz; subst hz; exact WalkArith.wf_i64 (by constructor <;> omega))
      obtain ⟨a9, c9, w9, hrun9, ho9, hg9, _⟩ := app_i64 w8.heap.size (wr.alloc (.cells ([x].map (Value.int .i64)).toArray 3)) ak k ck _ (HO.out.stay (Gr.alloc _ _)) (some ⟨wr.heap.size, 0, none⟩) 1 1 _ hrd (by omega) (Nat.le_trans HG.out.size (by simp))
      rw [← htk] at ho9
      simp only [List.map_cons, List.map_nil] at hrun9
      have HR9 := Lib.hid hrun9
      have HO9 := Lib.hid ho9
      have HG9 := Lib.hid (grown_own (HG.out.trans (Gr.alloc _ _)) (HO.out.stay (Gr.alloc _ _)) (Nat.le_refl _) hg9)
      clear hrun9 ho9 hg9 hrd hxb htk hx hj hsn hcp hce
      go_wp2_with (at_builtin; refine wpList_app rfl _ _ _ rfl rfl rfl HR9.out ?_)
      go_roundw
      case rel => exact ⟨a9, c9, k + 1, by omega, rfl, by go_num, HO9.out, HG9.out⟩
      case measure => (simp [intOf] <;> omega)
    · obtain rfl : k = c := by omega
      have ho := HO.out
      rw [List.take_of_length_le (by rw [sentL_len]; exact Nat.le_refl _)] at ho
      have HO2 := Lib.hid ho
      have c5 := pblk_at (HC8.out.kept HG.out) 5 (v := .int .i64 p.tries) rfl
      have f5 := frozen_of_block (HC8.out.kept HG.out) 5
      go_upto_region 22 with (fail)
      obtain ⟨x1, hx1⟩ : ∃ y, y = wr.setCell ⟨k8, 5, none⟩ (.int .i64 (p.tries + 1)) := ⟨_, rfl⟩
      rw [← hx1]
      have hc1' : PBlk k8 { p with a := a', cap := c', tries := p.tries + 1 } x1 := by
        rw [hx1]; exact heap_setCell_eq (HC8.out.kept HG.out) 5 (.int .i64 (p.tries + 1))
      have hgs1 : wr.grownBy x1 (some k8) := by rw [hx1]; exact grown_setAt wr k8 5 _
      have hg1' := grown_set (HG8.out.trans HG.out) (a := ⟨k8, 5, none⟩) (show w.heap.size ≤ k8 by omega) (Value.int .i64 (p.tries + 1))
      rw [← hx1] at hg1'
      have hbk : ∀ {g : Nat} {o : Obj}, wr.heap[g]? = some o → g ≠ k8 → x1.heap[g]? = some o := by
        intro g o h hgk
        rw [← h, hx1]; exact heap_setCell_ne _ _ _ _ (by simpa using hgk)
      have hb1' : PBlk w.heap.size p x1 := hbk (HB8.out.kept HG.out) (by omega)
      have hz1' : PBlk (w.heap.size + 1) zeroP x1 := hbk (HZ8.out.kept HG.out) (by omega)
      have ha1' : ABlk (w.heap.size + 2) zeroA x1 := hbk (HA8.out.kept HG.out) (by omega)
      have c4 := pblk_at hb1' 4 (v := .int .i64 p.ver) rfl
      have c84 := pblk_at hc1' 4 (v := .int .i64 p.ver) rfl
      have f4 := frozen_of_block hc1' 4
      have HX1 := Lib.hid hx1
      clear hx1 c5 f5
      go_upto_region 23 with (fail)
      obtain ⟨x2, hx2⟩ : ∃ y, y = x1.setCell ⟨k8, 4, none⟩ (.int .i64 ((p.ver + 1) % 4)) := ⟨_, rfl⟩
      rw [← hx2]
      obtain ⟨q, hq⟩ : ∃ q : Pc, q = { p with a := a', cap := c', tries := p.tries + 1, ver := (p.ver + 1) % 4 } := ⟨_, rfl⟩
      have hc2' : PBlk k8 q x2 := by rw [hx2, hq]; exact heap_setCell_eq hc1' 4 (.int .i64 ((p.ver + 1) % 4))
      have hgs2 : x1.grownBy x2 (some k8) := by rw [hx2]; exact grown_setAt x1 k8 4 _
      have hg2' := grown_set hg1' (a := ⟨k8, 4, none⟩) (show w.heap.size ≤ k8 by omega) (Value.int .i64 ((p.ver + 1) % 4))
      rw [← hx2] at hg2'
      have hbk2 : ∀ {g : Nat} {o : Obj}, x1.heap[g]? = some o → g ≠ k8 → x2.heap[g]? = some o := by
        intro g o h hgk
        rw [← h, hx2]; exact heap_setCell_ne _ _ _ _ (by simpa using hgk)
      have hb2' : PBlk w.heap.size p x2 := hbk2 hb1' (by omega)
      have hz2' : PBlk (w.heap.size + 1) zeroP x2 := hbk2 hz1' (by omega)
      have ha2' : ABlk (w.heap.size + 2) zeroA x2 := hbk2 ha1' (by omega)
      have hnk : ∀ {a : Option Addr} {n cap : Nat} {e : TypeId} {kk : IntKind} {xs : List Int}, OwnI (w.heap.size + 3) e kk wr a n cap xs → ((Value.slice a n cap).ownBlock = none ∨ (Value.slice a n cap).ownBlock ≠ some k8) → OwnI (w.heap.size + 3) e kk x2 a n cap xs := by
        intro a n cap e kk xs h h1
        exact (h.kept hgs1 h1).kept hgs2 h1
      have hoB : OwnI (w.heap.size + 3) 5 .u8 x2 a' p.len c' blk := hnk (HO8.out.stay HG.out) HNE.out
      have hoL : OwnI (w.heap.size + 3) 3 .i64 x2 ak k ck (sentL blk v k) := hnk (HO2.out.weak29 (by omega)) (by
        cases hv : (Value.slice ak k ck).ownBlock with
        | none => exact .inl rfl
        | some b => exact .inr (by intro h2; have := (HO2.out.below b hv).1; cases h2; omega))
      have HOB := Lib.hid hoB
      have HOL := Lib.hid hoL
      have HBX := Lib.hid hb2'
      have HZX := Lib.hid hz2'
      have HAX := Lib.hid ha2'
      have HCX := Lib.hid hc2'
      have HGX := Lib.hid hg2'
      have HQQ := Lib.hid hq
      clear hx2 hq hc2' hgs1 hgs2 hg2' hb2' hz2' ha2' hnk hoB hoL hbk hbk2 hc1' hg1' hb1' hz1' ha1' c4 c84 f4 HX1
      have hI : ∀ u, Gr x2 u → (u.cell? ⟨w.heap.size, 1, none⟩ = some (.slice p.a p.len p.cap) ∧ u.cell? ⟨w.heap.size, 2, none⟩ = some (.int .i64 p.coded) ∧ u.cell? ⟨w.heap.size, 3, none⟩ = some (.int .i64 p.fresh) ∧ u.cell? ⟨w.heap.size, 4, none⟩ = some (.int .i64 p.ver)) :=
        fun u hu => ⟨pblk_at (HBX.out.kept hu) 1 rfl, pblk_at (HBX.out.kept hu) 2 rfl, pblk_at (HBX.out.kept hu) 3 rfl, pblk_at (HBX.out.kept hu) 4 rfl⟩
      refine Sched2.wp_region_sched (fun u => u.cell? ⟨w.heap.size, 1, none⟩ = some (.slice p.a p.len p.cap) ∧ u.cell? ⟨w.heap.size, 2, none⟩ = some (.int .i64 p.coded) ∧ u.cell? ⟨w.heap.size, 3, none⟩ = some (.int .i64 p.fresh) ∧ u.cell? ⟨w.heap.size, 4, none⟩ = some (.int .i64 p.ver)) [1, 2, 3, 4, 5, 6, 7, 8, 9, 10, 11, 12] [] [13, 14, 15, 16] true hI (by kernel_rfl) (by kernel_rfl) ?_
      refine Sched2.walk1_gr rfl rfl rfl rfl (fun K hK => ?_)
      refine ⟨PVal q, fun w1 hw1 => Sched2.pq_load_row 24 _ rfl k8 rfl _ _ _ _ (HCX.out.kept hw1) Tryd.underlying24 rfl (by kernel_rfl), ?_⟩
      simp only [Act.put, List.setIfInBounds_toArray, List.set_cons_zero, List.set_cons_succ]
      refine hK _ ?_
      clear hK K
      repeat (first | (refine Sched2.walk1_ord rfl ?_) | (refine Sched2.walk1_no rfl rfl rfl (fun K hK => ?_); simp only [Act.put, List.setIfInBounds_toArray, List.set_cons_zero, List.set_cons_succ]; refine hK _ ?_; clear hK K) | (refine Sched2.walk1_gr rfl rfl rfl rfl (fun K hK => ?_); apply Exists.intro; refine ⟨fun w1 hw1 => ?_, ?_⟩; (focus (go_simp; (try go_ints); (try (simp only [IntWalk.iteOmega]; go_simp)); first | done | fail | (with_reducible rfl) | (with_reducible exact ⟨rfl, rfl⟩))); simp only [Act.put, List.setIfInBounds_toArray, List.set_cons_zero, List.set_cons_succ]; refine hK _ ?_; clear hK K) | (refine Sched2.walk1_late rfl rfl rfl rfl (fun K hK => ?_); apply Exists.intro; refine ⟨fun w1 hw1 => ?_, ?_⟩; (focus (go_simp; (try go_ints); (try (simp only [IntWalk.iteOmega]; go_simp)); first | done | fail | (with_reducible rfl) | (with_reducible exact ⟨rfl, rfl⟩))); simp only [Act.put, List.setIfInBounds_toArray, List.set_cons_zero, List.set_cons_succ]; refine hK _ ?_; clear hK K) | (refine Sched2.walk1_box rfl rfl rfl ?_; apply Exists.intro; refine ⟨fun w1 hw1 => ?_, ?_⟩; (focus (go_simp; exact ⟨Gr.alloc _ _, rfl, by simp, heap_alloc_new _ _⟩))))
      refine Sched2.walk1_nil ?_
      intro wq hwq
      dsimp only [Sched.EndN, List.nil_append, List.cons_append, Act.put]
      (try simp only [List.setIfInBounds_toArray, List.set_cons_zero, List.set_cons_succ])
      simp only [Sched2.lasts, List.filterMap_cons, List.filterMap_nil, List.getElem?_toArray, List.getElem?_cons_succ, List.getElem?_cons_zero]
      obtain ⟨A, hA⟩ : ∃ A : An, A = ⟨number, p.fresh, p.ver, p.len, p.coded⟩ := ⟨_, rfl⟩
      obtain ⟨y1, hy1⟩ : ∃ y, y = wq.setCells (w.heap.size + 1) 0 (PList q) := ⟨_, rfl⟩
      have hz3 := pblk_put (HZX.out.kept hwq) q
      have ha3 := ablk_other (HAX.out.kept hwq) (k := w.heap.size + 1) (PList q) (by omega)
      have hb3 := pblk_other (HBX.out.kept hwq) (k := w.heap.size + 1) (PList q) (by omega)
      have hgs3 := grown_setCells (w.heap.size + 1) (PList q) 0 wq
      have hg3 := grown_setCells_new (HGX.out.trans hwq) (show w.heap.size ≤ w.heap.size + 1 by omega) (PList q) 0
      rw [← hy1] at hz3 ha3 hb3 hgs3 hg3
      obtain ⟨y2, hy2⟩ : ∃ y, y = y1.setCells (w.heap.size + 2) 0 (AList A) := ⟨_, rfl⟩
      have hz4 := pblk_other hz3 (k := w.heap.size + 2) (AList A) (by omega)
      have ha4 := ablk_put ha3 A
      have hgs4 := grown_setCells (w.heap.size + 2) (AList A) 0 y1
      have hg4 := grown_setCells_new hg3 (show w.heap.size ≤ w.heap.size + 2 by omega) (AList A) 0
      rw [← hy2] at hz4 ha4 hgs4 hg4
      have hkp : ∀ {a : Option Addr} {n cap : Nat} {e : TypeId} {kk : IntKind} {xs : List Int}, OwnI (w.heap.size + 3) e kk x2 a n cap xs → OwnI w.heap.size e kk y2 a n cap xs := by
        intro a n cap e kk xs h
        have h2 := own_cells (h.stay hwq) (show w.heap.size + 1 < w.heap.size + 3 by omega) (PList q)
        rw [← hy1] at h2
        have h3 := own_cells h2 (show w.heap.size + 2 < w.heap.size + 3 by omega) (AList A)
        rw [← hy2] at h3
        exact h3.weak29 (by omega)
      have HIX := Lib.hid (show (y1.cell? ⟨w.heap.size, 1, none⟩ = some (.slice p.a p.len p.cap) ∧ y1.cell? ⟨w.heap.size, 2, none⟩ = some (.int .i64 p.coded) ∧ y1.cell? ⟨w.heap.size, 3, none⟩ = some (.int .i64 p.fresh) ∧ y1.cell? ⟨w.heap.size, 4, none⟩ = some (.int .i64 p.ver)) from ⟨pblk_at hb3 1 rfl, pblk_at hb3 2 rfl, pblk_at hb3 3 rfl, pblk_at hb3 4 rfl⟩)
      have hb4 := pblk_other hb3 (k := w.heap.size + 2) (AList A) (by omega)
      rw [← hy2] at hb4
      have HIY := Lib.hid (show (y2.cell? ⟨w.heap.size, 1, none⟩ = some (.slice p.a p.len p.cap) ∧ y2.cell? ⟨w.heap.size, 2, none⟩ = some (.int .i64 p.coded) ∧ y2.cell? ⟨w.heap.size, 3, none⟩ = some (.int .i64 p.fresh) ∧ y2.cell? ⟨w.heap.size, 4, none⟩ = some (.int .i64 p.ver)) from ⟨pblk_at hb4 1 rfl, pblk_at hb4 2 rfl, pblk_at hb4 3 rfl, pblk_at hb4 4 rfl⟩)
      have HTP := Lib.hid (pblk_there (HZX.out.kept hwq))
      have HTA := Lib.hid (ablk_there ha3)
      have HZY := Lib.hid hz4
      have HAY := Lib.hid ha4
      have HGY := Lib.hid hg4
      have HBY := Lib.hid (hkp HOB.out)
      have HLY := Lib.hid (hkp HOL.out)
      have HY1 := Lib.hid hy1
      have HY2 := Lib.hid hy2
      have HAA := Lib.hid hA
      clear hy1 hy2 hz3 ha3 hb3 hgs3 hg3 hz4 ha4 hgs4 hg4 hkp hb4 hI hA
      refine Sched2.walk2_go rfl (fun K hK => ?_)
      refine tq_storeH 24 _ _ rfl (w.heap.size + 1) 0 (PList q).toArray rfl rfl HTP.out (by kernel_rfl) (plist_one _) ?_
      rw [← HY1.out]
      dsimp only [Act.put]
      try simp only [List.setIfInBounds_toArray, List.set_cons_zero, List.set_cons_succ]
      refine hK _ _ (.inr HIX.out) ?_
      clear hK K
      refine Sched2.walk2_go rfl (fun K hK => ?_)
      refine tq_storeH 29 _ _ rfl (w.heap.size + 2) 0 (AList A).toArray rfl (by rw [HAA.out]; rfl) HTA.out (by kernel_rfl) (alist_one _) ?_
      rw [← HY2.out]
      dsimp only [Act.put]
      try simp only [List.setIfInBounds_toArray, List.set_cons_zero, List.set_cons_succ]
      refine hK _ _ (.inr HIY.out) ?_
      clear hK K
      repeat (first | (refine Sched2.walk2_no rfl (fun K hK => ?_); simp only [Act.put, List.setIfInBounds_toArray, List.set_cons_zero, List.set_cons_succ]; refine hK _ ?_; clear hK K) | (refine Sched2.walk2_go rfl (fun K hK => ?_); go_simp; (try go_ints); (try (simp only [IntWalk.iteOmega]; go_simp)); first | (refine hK _ _ (by first | exact .inl ⟨rfl, rfl⟩ | exact .inr (HIY.out)) ?_; clear hK K) | fail))
      refine Sched2.walk2_nil ?_
      go_wp2_with fail
      refine bodyPost_ret (results_cell_cell2 Tryd.results17 _ _ (w.heap.size + 1) _ _ _ _ rfl HZY.out Tryd.underlying24 rfl (by kernel_rfl) (w.heap.size + 2) _ _ _ _ rfl HAY.out Tryd.underlying29 rfl (by kernel_rfl)) rfl ?_
      unfold SendPost
      rw [HQ.out, HQA.out, HLL.out, HE.out]
      refine ⟨a', c', ak, k, ck, ?_, HBY.out, HLY.out, HGY.out⟩
      rw [← HAA.out, HQQ.out]
      rfl
end Go.Proofs.YtcleegibdcphiaaDoor
