/- Layer 29 (harq): Answer of the program. -/
import Derived.Test.YtcleegibdcphiaaDoorHarH
namespace Go.Proofs.YtcleegibdcphiaaDoor
open Go.ChangeShapes Go.WideShapes Go.ChangeAt Go.RowKit

theorem results_cell_row2h {P : Program} {fn : Func} {p u v : Tmp} {ty : TypeId} (h : fn.results = #[.cell p ty, .tmp u, .tmp v]) (tmps : Array Value) (w : World) (g : Nat) (t : TypeId) (cs : Array Value) (fr : Nat × Nat) (d : TypeDesc)
    (hp : tmps.getD p undef = .pointer (some ⟨g, 0, none⟩)) (hg : w.heap[g]? = some (.cells cs t fr))
    (hu : P.underlying ty = some d) (hd : (match d with | .struct _ | .array _ _ => true | _ => false) = true) (hi : (P.info? ty).map (·.size) = some cs.size) :
    (results fn tmps).run P w = .ok (.tuple #[.agg cs, tmps.getD u undef, tmps.getD v undef]) w := by
  have hp' : tmps[p]?.getD undef = .pointer (some ⟨g, 0, none⟩) := by simpa using hp
  simp [results, h, hp', asAddr, run_loadVar_row w g t ty cs fr d hg hu hd hi]
/-- Is the process kept, was it received, the number of the error. -/
def ansF (p : Pc) (right : Bool) (most : Int) : Bool × Bool × Int :=
  if validPc p = false then (true, false, 1) else if p.act = false ∨ p.tries = 0 then (true, false, 14) else if most < 1 ∨ 32 < most then (true, false, 3)
  else if right = true then (false, true, 0) else if p.tries < most then (true, false, 0) else (false, false, 0)
def newP (p : Pc) : Pc := ⟨false, none, 0, 0, 0, p.fresh, 0, 0⟩
def AnsPost (p : Pc) (blk : List Int) (F : Bool × Bool × Int) (w : World) (e : Ending) (w' : World) : Prop := ∃ a' c', e = .returned (.tuple #[PVal { (if F.1 then p else newP p) with a := a', cap := c' }, .bool F.2.1, .int .i64 F.2.2]) ∧ OwnI w.heap.size 5 .u8 w' a' (if F.1 then p else newP p).len c' (if F.1 then blk else []) ∧ Gr w w'
set_option maxRecDepth 20000 in
set_option maxHeartbeats 2000000 in
theorem answer_any (p : Pc) (blk : List Int) (right : Bool) (most : Int) (w : World) (hr : Rd .u8 w p.a p.len blk) (hl : p.len ≤ 17592186044000) :
    Calls Tryd.prog 20 #[PVal p, .bool right, .int .i64 most] w (AnsPost p blk (ansF p right most) w) := by
  have HR := Lib.hid hr
  clear hr
  unfold PVal
  go_enter Tryd.func20, Tryd.ntmps20
  go_upto_region 1 with (fail)
  obtain ⟨w0, hw0⟩ : ∃ y, y = w.alloc (.cells #[.bool p.act, .slice p.a p.len p.cap, .int .i64 p.coded, .int .i64 p.fresh, .int .i64 p.ver, .int .i64 p.tries] 24) := ⟨_, rfl⟩
  have hb0 : PBlk w.heap.size p w0 := by rw [hw0]; exact heap_alloc_new _ _
  have hg0 : Gr w w0 := by rw [hw0]; exact Gr.alloc _ _
  have hs0 : w0.heap.size = w.heap.size + 1 := by rw [hw0]; simp
  rw [← hw0]
  obtain ⟨w1, hw1⟩ : ∃ y, y = w0.alloc (.cells #[.bool false, .slice none 0 0, .int .i64 0, .int .i64 0, .int .i64 0, .int .i64 0] 24) := ⟨_, rfl⟩
  have hg1 : Gr w0 w1 := by rw [hw1]; exact Gr.alloc _ _
  have hz1 : PBlk (w.heap.size + 1) zeroP w1 := by rw [hw1, ← hs0]; exact heap_alloc_new _ _
  rw [← hw1]
  have HB1 := Lib.hid (hb0.kept hg1)
  have HZ1 := Lib.hid hz1
  have HG1 := Lib.hid (hg0.trans hg1)
  clear hw0 hw1 hb0 hg0 hg1 hz1 hs0
  obtain ⟨V, hV⟩ : ∃ V, validPc p = V := ⟨_, rfl⟩
  have HV := Lib.hid hV
  clear hV
  have hb' := (HB1).out
  unfold PBlk PCells at hb'
  have HB1U := Lib.hid hb'
  clear hb'
  go_wp2_with (refine wpList_load_w rfl 24 _ rfl w.heap.size rfl 24 _ _ _ HB1U.out Tryd.underlying24 rfl (by kernel_rfl) ?_)
  refine (hvalid_is HV.out w1).mono ?_
  rintro e w2 ⟨rfl, hg2⟩
  have HB2 := Lib.hid (HB1.out.kept hg2)
  have HZ2 := Lib.hid (HZ1.out.kept hg2)
  have HG2 := Lib.hid (HG1.out.trans hg2)
  clear hg2 HB1 HZ1 HG1 HB1U
  have hb' := (HB2).out
  unfold PBlk PCells at hb'
  have HB2U := Lib.hid hb'
  clear hb'
  cases V
  · have HE := Lib.hid (show ansF p right most = (true, false, 1) by unfold ansF; rw [if_pos HV.out])
    go_wp2_with (refine wpList_load_w rfl 24 _ rfl w.heap.size rfl 24 _ _ _ HB2U.out Tryd.underlying24 rfl (by kernel_rfl) ?_)
    refine (copied_any p blk w2 (rd_gr HR.out (HG2).out) hl).mono ?_
    rintro e w8 ⟨a', c', rfl, ho8, hg8⟩
    have hz8 := (HZ2).out.kept hg8
    obtain ⟨w9, hw9⟩ : ∃ y, y = w8.setCells (w.heap.size + 1) 0 (PList { p with a := a', cap := c' }) := ⟨_, rfl⟩
    have hz9 := pblk_put hz8 { p with a := a', cap := c' }
    have ho9 := own_cells ho8 (heap_lt (HZ2).out) (PList { p with a := a', cap := c' })
    have hg9 := grown_setCells_new ((HG2).out.trans hg8) (show w.heap.size ≤ w.heap.size + 1 by omega) (PList { p with a := a', cap := c' }) 0
    rw [← hw9] at hz9 ho9 hg9
    have HTH := Lib.hid (pblk_there hz8)
    have HZ9 := Lib.hid hz9
    have HO9 := Lib.hid (ho9.weak29 (B' := w.heap.size) (HG2).out.size)
    have HG9 := Lib.hid hg9
    have HW9 := Lib.hid hw9
    clear hz8 hw9 hz9 ho9 hg9 ho8 hg8
    go_wp2_with (refine wpList_store_mid rfl 24 _ _ rfl (w.heap.size + 1) 0 (PList { p with a := a', cap := c' }).toArray rfl rfl HTH.out (by kernel_rfl) (plist_one _) ?_; rw [← HW9.out])
    refine bodyPost_ret (results_cell_row2h Tryd.results20 _ _ (w.heap.size + 1) _ _ _ _ rfl HZ9.out Tryd.underlying24 rfl (by kernel_rfl)) rfl ?_
    rw [HE.out]
    exact ⟨a', c', rfl, HO9.out, HG9.out⟩
  have hnv : ¬ validPc p = false := by rw [HV.out]; simp
  have HNV := Lib.hid hnv
  have htr : 0 ≤ p.tries ∧ p.tries ≤ 32 := by
    have hv := HV.out
    unfold validPc inPc at hv
    simp only [Bool.and_eq_true, decide_eq_true_eq] at hv
    omega
  clear hnv
  have c0 := pblk_at HB2.out 0 (v := .bool p.act) rfl
  have c3 := pblk_at HB2.out 3 (v := .int .i64 p.fresh) rfl
  have c5 := pblk_at HB2.out 5 (v := .int .i64 p.tries) rfl
  by_cases ha : p.act = false
  · rw [ha] at c0
    have HA := Lib.hid ha
    clear ha
    have HE := Lib.hid (show ansF p right most = (true, false, 14) by unfold ansF; rw [if_neg HNV.out, if_pos (Or.inl HA.out)])
    go_wp2_with (refine wpList_load_w rfl 24 _ rfl w.heap.size rfl 24 _ _ _ HB2U.out Tryd.underlying24 rfl (by kernel_rfl) ?_)
    refine (copied_any p blk w2 (rd_gr HR.out (HG2).out) hl).mono ?_
    rintro e w8 ⟨a', c', rfl, ho8, hg8⟩
    have hz8 := (HZ2).out.kept hg8
    obtain ⟨w9, hw9⟩ : ∃ y, y = w8.setCells (w.heap.size + 1) 0 (PList { p with a := a', cap := c' }) := ⟨_, rfl⟩
    have hz9 := pblk_put hz8 { p with a := a', cap := c' }
    have ho9 := own_cells ho8 (heap_lt (HZ2).out) (PList { p with a := a', cap := c' })
    have hg9 := grown_setCells_new ((HG2).out.trans hg8) (show w.heap.size ≤ w.heap.size + 1 by omega) (PList { p with a := a', cap := c' }) 0
    rw [← hw9] at hz9 ho9 hg9
    have HTH := Lib.hid (pblk_there hz8)
    have HZ9 := Lib.hid hz9
    have HO9 := Lib.hid (ho9.weak29 (B' := w.heap.size) (HG2).out.size)
    have HG9 := Lib.hid hg9
    have HW9 := Lib.hid hw9
    clear hz8 hw9 hz9 ho9 hg9 ho8 hg8
    go_wp2_with (refine wpList_store_mid rfl 24 _ _ rfl (w.heap.size + 1) 0 (PList { p with a := a', cap := c' }).toArray rfl rfl HTH.out (by kernel_rfl) (plist_one _) ?_; rw [← HW9.out])
    refine bodyPost_ret (results_cell_row2h Tryd.results20 _ _ (w.heap.size + 1) _ _ _ _ rfl HZ9.out Tryd.underlying24 rfl (by kernel_rfl)) rfl ?_
    rw [HE.out]
    exact ⟨a', c', rfl, HO9.out, HG9.out⟩
  have ha' : p.act = true := by simpa using ha
  rw [ha'] at c0
  have HA := Lib.hid ha
  clear ha ha'
  by_cases ht : p.tries = 0
  · have HT := Lib.hid ht
    rw [ht] at c5
    clear ht htr
    have HE := Lib.hid (show ansF p right most = (true, false, 14) by unfold ansF; rw [if_neg HNV.out, if_pos (Or.inr HT.out)])
    go_wp2_with (refine wpList_load_w rfl 24 _ rfl w.heap.size rfl 24 _ _ _ HB2U.out Tryd.underlying24 rfl (by kernel_rfl) ?_)
    refine (copied_any p blk w2 (rd_gr HR.out (HG2).out) hl).mono ?_
    rintro e w8 ⟨a', c', rfl, ho8, hg8⟩
    have hz8 := (HZ2).out.kept hg8
    obtain ⟨w9, hw9⟩ : ∃ y, y = w8.setCells (w.heap.size + 1) 0 (PList { p with a := a', cap := c' }) := ⟨_, rfl⟩
    have hz9 := pblk_put hz8 { p with a := a', cap := c' }
    have ho9 := own_cells ho8 (heap_lt (HZ2).out) (PList { p with a := a', cap := c' })
    have hg9 := grown_setCells_new ((HG2).out.trans hg8) (show w.heap.size ≤ w.heap.size + 1 by omega) (PList { p with a := a', cap := c' }) 0
    rw [← hw9] at hz9 ho9 hg9
    have HTH := Lib.hid (pblk_there hz8)
    have HZ9 := Lib.hid hz9
    have HO9 := Lib.hid (ho9.weak29 (B' := w.heap.size) (HG2).out.size)
    have HG9 := Lib.hid hg9
    have HW9 := Lib.hid hw9
    clear hz8 hw9 hz9 ho9 hg9 ho8 hg8
    go_wp2_with (refine wpList_store_mid rfl 24 _ _ rfl (w.heap.size + 1) 0 (PList { p with a := a', cap := c' }).toArray rfl rfl HTH.out (by kernel_rfl) (plist_one _) ?_; rw [← HW9.out])
    refine bodyPost_ret (results_cell_row2h Tryd.results20 _ _ (w.heap.size + 1) _ _ _ _ rfl HZ9.out Tryd.underlying24 rfl (by kernel_rfl)) rfl ?_
    rw [HE.out]
    exact ⟨a', c', rfl, HO9.out, HG9.out⟩
  have HNT := Lib.hid (show ¬ (p.act = false ∨ p.tries = 0) from fun h => h.elim HA.out ht)
  have ht' : (p.tries == 0) = false := by simpa using ht
  by_cases hm : most < 1
  · have HE := Lib.hid (show ansF p right most = (true, false, 3) by unfold ansF; rw [if_neg HNV.out, if_neg HNT.out, if_pos (Or.inl hm)])
    go_wp2_with (refine wpList_load_w rfl 24 _ rfl w.heap.size rfl 24 _ _ _ HB2U.out Tryd.underlying24 rfl (by kernel_rfl) ?_)
    refine (copied_any p blk w2 (rd_gr HR.out (HG2).out) hl).mono ?_
    rintro e w8 ⟨a', c', rfl, ho8, hg8⟩
    have hz8 := (HZ2).out.kept hg8
    obtain ⟨w9, hw9⟩ : ∃ y, y = w8.setCells (w.heap.size + 1) 0 (PList { p with a := a', cap := c' }) := ⟨_, rfl⟩
    have hz9 := pblk_put hz8 { p with a := a', cap := c' }
    have ho9 := own_cells ho8 (heap_lt (HZ2).out) (PList { p with a := a', cap := c' })
    have hg9 := grown_setCells_new ((HG2).out.trans hg8) (show w.heap.size ≤ w.heap.size + 1 by omega) (PList { p with a := a', cap := c' }) 0
    rw [← hw9] at hz9 ho9 hg9
    have HTH := Lib.hid (pblk_there hz8)
    have HZ9 := Lib.hid hz9
    have HO9 := Lib.hid (ho9.weak29 (B' := w.heap.size) (HG2).out.size)
    have HG9 := Lib.hid hg9
    have HW9 := Lib.hid hw9
    clear hz8 hw9 hz9 ho9 hg9 ho8 hg8
    go_wp2_with (refine wpList_store_mid rfl 24 _ _ rfl (w.heap.size + 1) 0 (PList { p with a := a', cap := c' }).toArray rfl rfl HTH.out (by kernel_rfl) (plist_one _) ?_; rw [← HW9.out])
    refine bodyPost_ret (results_cell_row2h Tryd.results20 _ _ (w.heap.size + 1) _ _ _ _ rfl HZ9.out Tryd.underlying24 rfl (by kernel_rfl)) rfl ?_
    rw [HE.out]
    exact ⟨a', c', rfl, HO9.out, HG9.out⟩
  by_cases hm2 : 32 < most
  · have HE := Lib.hid (show ansF p right most = (true, false, 3) by unfold ansF; rw [if_neg HNV.out, if_neg HNT.out, if_pos (Or.inr hm2)])
    go_wp2_with (refine wpList_load_w rfl 24 _ rfl w.heap.size rfl 24 _ _ _ HB2U.out Tryd.underlying24 rfl (by kernel_rfl) ?_)
    refine (copied_any p blk w2 (rd_gr HR.out (HG2).out) hl).mono ?_
    rintro e w8 ⟨a', c', rfl, ho8, hg8⟩
    have hz8 := (HZ2).out.kept hg8
    obtain ⟨w9, hw9⟩ : ∃ y, y = w8.setCells (w.heap.size + 1) 0 (PList { p with a := a', cap := c' }) := ⟨_, rfl⟩
    have hz9 := pblk_put hz8 { p with a := a', cap := c' }
    have ho9 := own_cells ho8 (heap_lt (HZ2).out) (PList { p with a := a', cap := c' })
    have hg9 := grown_setCells_new ((HG2).out.trans hg8) (show w.heap.size ≤ w.heap.size + 1 by omega) (PList { p with a := a', cap := c' }) 0
    rw [← hw9] at hz9 ho9 hg9
    have HTH := Lib.hid (pblk_there hz8)
    have HZ9 := Lib.hid hz9
    have HO9 := Lib.hid (ho9.weak29 (B' := w.heap.size) (HG2).out.size)
    have HG9 := Lib.hid hg9
    have HW9 := Lib.hid hw9
    clear hz8 hw9 hz9 ho9 hg9 ho8 hg8
    go_wp2_with (refine wpList_store_mid rfl 24 _ _ rfl (w.heap.size + 1) 0 (PList { p with a := a', cap := c' }).toArray rfl rfl HTH.out (by kernel_rfl) (plist_one _) ?_; rw [← HW9.out])
    refine bodyPost_ret (results_cell_row2h Tryd.results20 _ _ (w.heap.size + 1) _ _ _ _ rfl HZ9.out Tryd.underlying24 rfl (by kernel_rfl)) rfl ?_
    rw [HE.out]
    exact ⟨a', c', rfl, HO9.out, HG9.out⟩
  have HNM := Lib.hid (show ¬ (most < 1 ∨ 32 < most) from fun h => h.elim hm hm2)
  cases right
  · by_cases hq : p.tries < most
    · have HE := Lib.hid (show ansF p false most = (true, false, 0) by unfold ansF; rw [if_neg HNV.out, if_neg HNT.out, if_neg HNM.out, if_neg (by simp), if_pos hq])
      go_wp2_with (refine wpList_load_w rfl 24 _ rfl w.heap.size rfl 24 _ _ _ HB2U.out Tryd.underlying24 rfl (by kernel_rfl) ?_)
      refine (copied_any p blk w2 (rd_gr HR.out (HG2).out) hl).mono ?_
      rintro e w8 ⟨a', c', rfl, ho8, hg8⟩
      have hz8 := (HZ2).out.kept hg8
      obtain ⟨w9, hw9⟩ : ∃ y, y = w8.setCells (w.heap.size + 1) 0 (PList { p with a := a', cap := c' }) := ⟨_, rfl⟩
      have hz9 := pblk_put hz8 { p with a := a', cap := c' }
      have ho9 := own_cells ho8 (heap_lt (HZ2).out) (PList { p with a := a', cap := c' })
      have hg9 := grown_setCells_new ((HG2).out.trans hg8) (show w.heap.size ≤ w.heap.size + 1 by omega) (PList { p with a := a', cap := c' }) 0
      rw [← hw9] at hz9 ho9 hg9
      have HTH := Lib.hid (pblk_there hz8)
      have HZ9 := Lib.hid hz9
      have HO9 := Lib.hid (ho9.weak29 (B' := w.heap.size) (HG2).out.size)
      have HG9 := Lib.hid hg9
      have HW9 := Lib.hid hw9
      clear hz8 hw9 hz9 ho9 hg9 ho8 hg8
      go_wp2_with (refine wpList_store_mid rfl 24 _ _ rfl (w.heap.size + 1) 0 (PList { p with a := a', cap := c' }).toArray rfl rfl HTH.out (by kernel_rfl) (plist_one _) ?_; rw [← HW9.out])
      refine bodyPost_ret (results_cell_row2h Tryd.results20 _ _ (w.heap.size + 1) _ _ _ _ rfl HZ9.out Tryd.underlying24 rfl (by kernel_rfl)) rfl ?_
      rw [HE.out]
      exact ⟨a', c', rfl, HO9.out, HG9.out⟩
    · have HE := Lib.hid (show ansF p false most = (false, false, 0) by unfold ansF; rw [if_neg HNV.out, if_neg HNT.out, if_neg HNM.out, if_neg (by simp), if_neg hq])
      obtain ⟨w9, hw9⟩ : ∃ y, y = w2.setCells (w.heap.size + 1) 0 (PList (newP p)) := ⟨_, rfl⟩
      have hz9 := pblk_put HZ2.out (newP p)
      have hg9 := grown_setCells_new HG2.out (show w.heap.size ≤ w.heap.size + 1 by omega) (PList (newP p)) 0
      rw [← hw9] at hz9 hg9
      have HTH := Lib.hid (pblk_there HZ2.out)
      have HZ9 := Lib.hid hz9
      have HG9 := Lib.hid hg9
      have HW9 := Lib.hid hw9
      clear hw9 hz9 hg9
      go_wp2_with (refine wpList_store_mid rfl 24 _ _ rfl (w.heap.size + 1) 0 (PList (newP p)).toArray rfl rfl HTH.out (by kernel_rfl) (plist_one _) ?_; rw [← HW9.out])
      refine bodyPost_ret (results_cell_row2h Tryd.results20 _ _ (w.heap.size + 1) _ _ _ _ rfl HZ9.out Tryd.underlying24 rfl (by kernel_rfl)) rfl ?_
      rw [HE.out]
      exact ⟨none, 0, rfl, OwnI.nil _ _ _ _, HG9.out⟩
  · have HE := Lib.hid (show ansF p true most = (false, true, 0) by unfold ansF; rw [if_neg HNV.out, if_neg HNT.out, if_neg HNM.out, if_pos rfl])
    obtain ⟨w9, hw9⟩ : ∃ y, y = w2.setCells (w.heap.size + 1) 0 (PList (newP p)) := ⟨_, rfl⟩
    have hz9 := pblk_put HZ2.out (newP p)
    have hg9 := grown_setCells_new HG2.out (show w.heap.size ≤ w.heap.size + 1 by omega) (PList (newP p)) 0
    rw [← hw9] at hz9 hg9
    have HTH := Lib.hid (pblk_there HZ2.out)
    have HZ9 := Lib.hid hz9
    have HG9 := Lib.hid hg9
    have HW9 := Lib.hid hw9
    clear hw9 hz9 hg9
    go_wp2_with (refine wpList_store_mid rfl 24 _ _ rfl (w.heap.size + 1) 0 (PList (newP p)).toArray rfl rfl HTH.out (by kernel_rfl) (plist_one _) ?_; rw [← HW9.out])
    refine bodyPost_ret (results_cell_row2h Tryd.results20 _ _ (w.heap.size + 1) _ _ _ _ rfl HZ9.out Tryd.underlying24 rfl (by kernel_rfl)) rfl ?_
    rw [HE.out]
    exact ⟨none, 0, rfl, OwnI.nil _ _ _ _, HG9.out⟩
end Go.Proofs.YtcleegibdcphiaaDoor
