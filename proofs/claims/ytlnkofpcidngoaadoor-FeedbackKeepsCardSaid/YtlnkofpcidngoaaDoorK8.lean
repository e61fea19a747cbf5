/- Several texts in one. -/
import Derived.Test.YtlnkofpcidngoaaDoorK0
import Derived.Test.YtlnkofpcidngoaaDoorK6
import Derived.Test.YtlnkofpcidngoaaDoorK7
import Derived.Deep.Cut
import Derived.Test.YtlnkofpcidngoaaDoorK2
import Derived.Test.YtlnkofpcidngoaaDoorK5
import Derived.Test.YtlnkofpcidngoaaDoorK1
namespace Go.Proofs.YtlnkofpcidngoaaDoor
open Go.ChangeShapes Go.WideShapes Go.ChangeAt Go.RowKit
def commonP (h : Hdr) : Bool := allB 255 [h.tos, h.ttl] && (allB 65535 [h.id, h.fport, h.tport, h.check] && (allB 1 [h.fixed] && allB 4294967295 [h.frm, h.to]))
theorem common_eq (h : Hdr) : commonP h = commonB h := by
 simp only [commonP, commonB, allB, List.all_cons, List.all_nil, Bool.and_true]
 cases inB h.tos 255 <;> cases inB h.ttl 255 <;> cases inB h.id 65535 <;> cases inB h.fport 65535 <;> cases inB h.tport 65535 <;> cases inB h.check 65535 <;> cases inB h.fixed 1 <;> cases inB h.frm 4294967295 <;> cases inB h.to 4294967295 <;> rfl
def HOk (h : Hdr) : Prop := i64 h.kind ∧ i64 h.tos ∧ i64 h.id ∧ i64 h.fixed ∧ i64 h.ttl ∧ i64 h.frm ∧ i64 h.to ∧ i64 h.fport ∧ i64 h.tport ∧ i64 h.check ∧ i64 h.marker ∧ i64 h.type ∧ i64 h.seq ∧ i64 h.time ∧ i64 h.source
theorem rdl {w : World} (xs : List Int) (hx : ∀ x ∈ xs, i64 x) (len : Nat) (hl : xs.length = len) (hm : len ≤ 100) : Rd .i64 (w.alloc (.cells (xs.map (Value.int .i64)).toArray 3)) (some ⟨w.heap.size, 0, none⟩) len xs :=
 rd_new xs _ _ len hl (by simp only [maxLen]; omega) (fun y hy => WalkArith.wf_i64 (hx y hy))
theorem upto1 {g a : Int} {F : Bool} (h : allB g [a] = F) (w1 : World) (h1 : i64 a) : Calls Tryd.prog 102 #[.int .i64 g, .slice (some ⟨w1.heap.size, 0, none⟩) 1 1] (w1.alloc (.cells #[.int .i64 a] 3)) fun e w' => e = .returned (.bool F) ∧ w1.alloc (.cells #[.int .i64 a] 3) = w' :=
 h ▸ upto_any g _ 1 1 [a] _ (rdl [a] (by simpa using h1) 1 rfl (by omega))
theorem upto2 {g a b : Int} {F : Bool} (h : allB g [a, b] = F) (w1 : World) (h1 : i64 a) (h2 : i64 b) : Calls Tryd.prog 102 #[.int .i64 g, .slice (some ⟨w1.heap.size, 0, none⟩) 2 2] (w1.alloc (.cells #[.int .i64 a, .int .i64 b] 3)) fun e w' => e = .returned (.bool F) ∧ w1.alloc (.cells #[.int .i64 a, .int .i64 b] 3) = w' :=
 h ▸ upto_any g _ 2 2 [a, b] _ (rdl [a, b] (by simp; exact ⟨h1, h2⟩) 2 rfl (by omega))
theorem upto4 {g a b c d : Int} {F : Bool} (h : allB g [a, b, c, d] = F) (w1 : World) (h1 : i64 a) (h2 : i64 b) (h3 : i64 c) (h4 : i64 d) : Calls Tryd.prog 102 #[.int .i64 g, .slice (some ⟨w1.heap.size, 0, none⟩) 4 4] (w1.alloc (.cells #[.int .i64 a, .int .i64 b, .int .i64 c, .int .i64 d] 3)) fun e w' => e = .returned (.bool F) ∧ w1.alloc (.cells #[.int .i64 a, .int .i64 b, .int .i64 c, .int .i64 d] 3) = w' :=
 h ▸ upto_any g _ 4 4 [a, b, c, d] _ (rdl [a, b, c, d] (by simp; exact ⟨h1, h2, h3, h4⟩) 4 rfl (by omega))
theorem HBlk.at {g : Nat} {h : Hdr} {w : World} (hb : HBlk g h w) (i : Nat) {v : Value} (hv : (HVal h).cells[i]? = some v) : w.cell? ⟨g, i, none⟩ = some v := by
 rw [cell_of_block hb]; exact hv
set_option maxRecDepth 100000 in
set_option maxHeartbeats 4000000 in
theorem pvalid_any (h : Hdr) (w : World) (ho : HOk h) : Calls Tryd.prog 94 #[HVal h] w fun e w' => e = .returned (.bool (validH h)) ∧ Gr w w' := by
 obtain ⟨o0, o1, o2, o3, o4, o5, o6, o7, o8, o9, o10, o11, o12, o13, o14⟩ := ho
 have O := zqd (And.intro o1 (And.intro o4 (And.intro o2 (And.intro o7 (And.intro o8 (And.intro o9 (And.intro o3 (And.intro o5 o6))))))))
 have O2 := zqd (And.intro o10 (And.intro o11 (And.intro o12 (And.intro o13 o14))))
 clear o0 o1 o2 o3 o4 o5 o6 o7 o8 o9 o10 o11 o12 o13 o14
 go_enter Tryd.func94, Tryd.ntmps94
 go_upto_region 1 with (fail)
 obtain ⟨w1, hw1⟩ : ∃ y, y = w.alloc (.cells #[.int .i64 h.kind, .int .i64 h.tos, .int .i64 h.id, .int .i64 h.fixed, .int .i64 h.ttl, .int .i64 h.frm, .int .i64 h.to, .int .i64 h.fport, .int .i64 h.tport, .int .i64 h.check, .int .i64 h.marker, .int .i64 h.type, .int .i64 h.seq, .int .i64 h.time, .int .i64 h.source] 49) := ⟨_, rfl⟩
 rw [← hw1]
 have HB1 := zqd (show HBlk w.heap.size h w1 by rw [hw1]; exact heap_alloc_new _ _)
 have HG1 := zqd (show Gr w w1 by rw [hw1]; exact Gr.alloc _ _)
 clear hw1
 obtain ⟨C, hC⟩ : ∃ C, commonP h = C := ⟨_, rfl⟩
 have HC := zqd hC
 clear hC
 go_cut [3] from 4 (fun s wc => s = .bool C ∧ Gr w wc ∧ HBlk w.heap.size h wc)
 case first =>
   obtain ⟨E1, h1⟩ : ∃ b, allB 255 [h.tos, h.ttl] = b := ⟨_, rfl⟩
   obtain ⟨E2, h2⟩ : ∃ b, allB 65535 [h.id, h.fport, h.tport, h.check] = b := ⟨_, rfl⟩
   obtain ⟨E3, h3⟩ : ∃ b, allB 1 [h.fixed] = b := ⟨_, rfl⟩
   obtain ⟨E4, h4⟩ : ∃ b, allB 4294967295 [h.frm, h.to] = b := ⟨_, rfl⟩
   have HCP := zqd (show C = (E1 && (E2 && (E3 && E4))) by rw [← HC.out, commonP, h1, h2, h3, h4])
   have H1 := zqd h1
   have H2 := zqd h2
   have H3 := zqd h3
   have H4 := zqd h4
   clear h1 h2 h3 h4
   have c1 := HB1.out.at 1 rfl
   have c4 := HB1.out.at 4 rfl
   go_wp2_with fail
   refine (upto2 H1.out w1 O.out.1 O.out.2.1).mono ?_
   rintro e w' ⟨rfl, rfl⟩
   obtain ⟨w2, hw2⟩ : ∃ y, y = (w1).alloc (.cells #[.int .i64 h.tos, .int .i64 h.ttl] 3) := ⟨_, rfl⟩
   rw [← hw2]
   have hg2 : Gr w1 w2 := by rw [hw2]; exact Gr.alloc _ _
   have HB2 := zqd ((HB1).out.kept hg2)
   have HG2 := zqd ((HG1).out.trans hg2)
   clear hw2 hg2
   clear c1 c4
   cases E1
   · have hCf : C = false := HCP.out
     subst hCf
     go_wp2_with fail
     go_meet
     exact ⟨rfl, HG2.out, HB2.out⟩
   have c2 := HB2.out.at 2 rfl
   have c7 := HB2.out.at 7 rfl
   have c8 := HB2.out.at 8 rfl
   have c9 := HB2.out.at 9 rfl
   go_wp2_with fail
   refine (upto4 H2.out w2 O.out.2.2.1 O.out.2.2.2.1 O.out.2.2.2.2.1 O.out.2.2.2.2.2.1).mono ?_
   rintro e w' ⟨rfl, rfl⟩
   obtain ⟨w3, hw2⟩ : ∃ y, y = (w2).alloc (.cells #[.int .i64 h.id, .int .i64 h.fport, .int .i64 h.tport, .int .i64 h.check] 3) := ⟨_, rfl⟩
   rw [← hw2]
   have hg2 : Gr w2 w3 := by rw [hw2]; exact Gr.alloc _ _
   have HB3 := zqd ((HB2).out.kept hg2)
   have HG3 := zqd ((HG2).out.trans hg2)
   clear hw2 hg2
   clear c2 c7 c8 c9
   cases E2
   · have hCf : C = false := HCP.out
     subst hCf
     go_wp2_with fail
     go_meet
     exact ⟨rfl, HG3.out, HB3.out⟩
   have c3 := HB3.out.at 3 rfl
   go_wp2_with fail
   refine (upto1 H3.out w3 O.out.2.2.2.2.2.2.1).mono ?_
   rintro e w' ⟨rfl, rfl⟩
   obtain ⟨w4, hw2⟩ : ∃ y, y = (w3).alloc (.cells #[.int .i64 h.fixed] 3) := ⟨_, rfl⟩
   rw [← hw2]
   have hg2 : Gr w3 w4 := by rw [hw2]; exact Gr.alloc _ _
   have HB4 := zqd ((HB3).out.kept hg2)
   have HG4 := zqd ((HG3).out.trans hg2)
   clear hw2 hg2
   clear c3
   cases E3
   · have hCf : C = false := HCP.out
     subst hCf
     go_wp2_with fail
     go_meet
     exact ⟨rfl, HG4.out, HB4.out⟩
   have c5 := HB4.out.at 5 rfl
   have c6 := HB4.out.at 6 rfl
   go_wp2_with fail
   refine (upto2 H4.out w4 O.out.2.2.2.2.2.2.2.1 O.out.2.2.2.2.2.2.2.2).mono ?_
   rintro e w' ⟨rfl, rfl⟩
   obtain ⟨w5, hw2⟩ : ∃ y, y = (w4).alloc (.cells #[.int .i64 h.frm, .int .i64 h.to] 3) := ⟨_, rfl⟩
   rw [← hw2]
   have hg2 : Gr w4 w5 := by rw [hw2]; exact Gr.alloc _ _
   have HB5 := zqd ((HB4).out.kept hg2)
   have HG5 := zqd ((HG4).out.trans hg2)
   clear hw2 hg2
   clear c5 c6
   obtain rfl : C = E4 := HCP.out
   go_wp2_with fail
   go_meet
   exact ⟨rfl, HG5.out, HB5.out⟩
 case rest =>
   obtain ⟨rfl, hgc, hbc⟩ := hcut
   have HGC := zqd hgc
   have HBC := zqd hbc
   have HV := zqd (show validH h = (kindB h && (C && restB h)) by rw [validH, ← common_eq, HC.out])
   clear hgc hbc HB1 HG1 HC
   have c0 := HBC.out.at 0 rfl
   by_cases hk1 : h.kind = 1
   · have k1 : (h.kind == 1) = true := by simpa using hk1
     have HW := zqd (show validH h = (C && (h.marker == 0 && h.type == 0 && h.seq == 0 && h.time == 0 && h.source == 0)) by rw [HV.out, kindB, restB, k1]; simp)
     clear hk1
     have c10 := HBC.out.at 10 rfl
     have c11 := HBC.out.at 11 rfl
     have c12 := HBC.out.at 12 rfl
     have c13 := HBC.out.at 13 rfl
     have c14 := HBC.out.at 14 rfl
     cases C
     · go_wp2_with fail
       go_ret
       exact ⟨ret_bool HW.out.symm, HGC.out⟩
     · go_wp2_with fail
       all_goals (go_ret; exact ⟨ret_bool (by rw [HW.out]; simp_all), HGC.out⟩)
   · by_cases hk2 : h.kind = 2
     · have k1 : (h.kind == 1) = false := by simpa using hk1
       have k2 : (h.kind == 2) = true := by simpa using hk2
       obtain ⟨E1, h1⟩ : ∃ b, allB 1 [h.marker] = b := ⟨_, rfl⟩
       obtain ⟨E2, h2⟩ : ∃ b, allB 127 [h.type] = b := ⟨_, rfl⟩
       obtain ⟨E3, h3⟩ : ∃ b, allB 65535 [h.seq] = b := ⟨_, rfl⟩
       obtain ⟨E4, h4⟩ : ∃ b, allB 4294967295 [h.time, h.source] = b := ⟨_, rfl⟩
       have HW := zqd (show validH h = (C && (E1 && (E2 && (E3 && E4)))) by
         rw [HV.out, kindB, restB, k1, k2, ← h1, ← h2, ← h3, ← h4]
         simp [allB, Bool.and_assoc])
       have H1 := zqd h1
       have H2 := zqd h2
       have H3 := zqd h3
       have H4 := zqd h4
       clear h1 h2 h3 h4 hk1 hk2 HV
       cases C
       · go_wp2_with fail
         go_ret
         exact ⟨ret_bool HW.out.symm, HGC.out⟩
       have c10 := HBC.out.at 10 rfl
       go_wp2_with fail
       refine (upto1 H1.out wc O2.out.1).mono ?_
       rintro e w' ⟨rfl, rfl⟩
       obtain ⟨w2, hw2⟩ : ∃ y, y = (wc).alloc (.cells #[.int .i64 h.marker] 3) := ⟨_, rfl⟩
       rw [← hw2]
       have hg2 : Gr wc w2 := by rw [hw2]; exact Gr.alloc _ _
       have HB2 := zqd ((HBC).out.kept hg2)
       have HG2 := zqd ((HGC).out.trans hg2)
       clear hw2 hg2
       clear c0 c10
       cases E1
       · go_wp2_with fail
         go_ret
         exact ⟨ret_bool HW.out.symm, HG2.out⟩
       have c11 := HB2.out.at 11 rfl
       go_wp2_with fail
       refine (upto1 H2.out w2 O2.out.2.1).mono ?_
       rintro e w' ⟨rfl, rfl⟩
       obtain ⟨w3, hw2⟩ : ∃ y, y = (w2).alloc (.cells #[.int .i64 h.type] 3) := ⟨_, rfl⟩
       rw [← hw2]
       have hg2 : Gr w2 w3 := by rw [hw2]; exact Gr.alloc _ _
       have HB3 := zqd ((HB2).out.kept hg2)
       have HG3 := zqd ((HG2).out.trans hg2)
       clear hw2 hg2
       clear c11
       cases E2
       · go_wp2_with fail
         go_ret
         exact ⟨ret_bool HW.out.symm, HG3.out⟩
       have c12 := HB3.out.at 12 rfl
       go_wp2_with fail
       refine (upto1 H3.out w3 O2.out.2.2.1).mono ?_
       rintro e w' ⟨rfl, rfl⟩
       obtain ⟨w4, hw2⟩ : ∃ y, y = (w3).alloc (.cells #[.int .i64 h.seq] 3) := ⟨_, rfl⟩
       rw [← hw2]
       have hg2 : Gr w3 w4 := by rw [hw2]; exact Gr.alloc _ _
       have HB4 := zqd ((HB3).out.kept hg2)
       have HG4 := zqd ((HG3).out.trans hg2)
       clear hw2 hg2
       clear c12
       cases E3
       · go_wp2_with fail
         go_ret
         exact ⟨ret_bool HW.out.symm, HG4.out⟩
       have c13 := HB4.out.at 13 rfl
       have c14 := HB4.out.at 14 rfl
       go_wp2_with fail
       refine (upto2 H4.out w4 O2.out.2.2.2.1 O2.out.2.2.2.2).mono ?_
       rintro e w' ⟨rfl, rfl⟩
       obtain ⟨w5, hw2⟩ : ∃ y, y = (w4).alloc (.cells #[.int .i64 h.time, .int .i64 h.source] 3) := ⟨_, rfl⟩
       rw [← hw2]
       have hg2 : Gr w4 w5 := by rw [hw2]; exact Gr.alloc _ _
       have HB5 := zqd ((HB4).out.kept hg2)
       have HG5 := zqd ((HG4).out.trans hg2)
       clear hw2 hg2
       clear c13 c14
       go_wp2_with fail
       go_ret
       exact ⟨ret_bool HW.out.symm, HG5.out⟩
     · have k1 : (h.kind == 1) = false := by simpa using hk1
       have k2 : (h.kind == 2) = false := by simpa using hk2
       have hv : validH h = false := by rw [HV.out, kindB, k1, k2]; rfl
       have HW := zqd hv
       clear hv HV hk1 hk2
       go_wp2_with fail
       go_ret
       exact ⟨ret_bool HW.out.symm, HGC.out⟩
def zeroH : Hdr := ⟨0, 0, 0, 0, 0, 0, 0, 0, 0, 0, 0, 0, 0, 0, 0⟩
def updU (a : Hdr) (i : Int) : Hdr := ⟨a.kind, a.tos, i, a.fixed, a.ttl, a.frm, a.to, a.fport, a.tport, 0, 0, a.type, a.seq, a.time, a.source⟩
def updR (a : Hdr) (q t i : Int) : Hdr := ⟨a.kind, a.tos, i, a.fixed, a.ttl, a.frm, a.to, a.fport, a.tport, 0, 0, a.type, q, t, a.source⟩
def stepH (a : Hdr) (n : Int) : Int := signedS 16 (numH a) n
def predH (s f : Int) (a : Hdr) (n : Int) : Hdr :=
 if validH a && dynB s f then
   if a.kind = 1 then updU a (lowS 16 n)
   else updR a (lowS 16 n) (lowS 32 (a.time + s * stepH a n)) (lowS 16 (a.id + f * stepH a n))
 else zeroH
abbrev HCells (h : Hdr) : List Value := [.int .i64 h.kind, .int .i64 h.tos, .int .i64 h.id, .int .i64 h.fixed, .int .i64 h.ttl, .int .i64 h.frm, .int .i64 h.to, .int .i64 h.fport, .int .i64 h.tport, .int .i64 h.check, .int .i64 h.marker, .int .i64 h.type, .int .i64 h.seq, .int .i64 h.time, .int .i64 h.source]
theorem HBlk.there {g : Nat} {h : Hdr} {w : World} (hb : HBlk g h w) : w.there g 0 15 := there_block hb (by simp)
theorem hcells_one (k : Hdr) : (HCells k).toArray.all (·.oneCell') = true := all_oneCell_toArray (by
 intro v hv
 simp only [List.mem_cons, List.not_mem_nil, or_false] at hv
 rcases hv with rfl | rfl | rfl | rfl | rfl | rfl | rfl | rfl | rfl | rfl | rfl | rfl | rfl | rfl | rfl <;> rfl)
theorem HBlk.put {g : Nat} {h : Hdr} {w : World} (hb : HBlk g h w) (k : Hdr) : HBlk g k (w.setCells g 0 (HCells k)) := heap_setCells (HCells k) 0 w (HCells h) hb
theorem pvalid_is {h : Hdr} {V : Bool} (hv : validH h = V) (w : World) (ho : HOk h) : Calls Tryd.prog 94 #[HVal h] w fun e w' => e = .returned (.bool V) ∧ Gr w w' := hv ▸ pvalid_any h w ho
theorem dyn_is {s f : Int} {V : Bool} (hv : dynB s f = V) (w : World) : Calls Tryd.prog 95 #[DVal s f] w fun e w' => e = .returned (.bool V) ∧ Gr w w' := hv ▸ dyn_any s f w
theorem rvalid_is {h : Hdr} {V : Bool} (hv : validH h = V) (w : World) : Calls Tryd.prog 60 #[HVal h] w fun e w' => e = .returned (.bool V) ∧ Gr w w' := hv ▸ rvalid_any h w
theorem rdyn_is {s f : Int} {V : Bool} (hv : dynB s f = V) (w : World) : Calls Tryd.prog 76 #[DVal s f] w fun e w' => e = .returned (.bool V) ∧ Gr w w' := hv ▸ rdyn_any s f w
theorem num_is {h : Hdr} {n : Int} (hv : numH h = n) (w : World) : Calls Tryd.prog 75 #[HVal h] w fun e w' => e = .returned (.int .i64 n) ∧ Gr w w' := hv ▸ num_any h w
theorem dyn_yes {s f : Int} (h : dynB s f = true) : 0 ≤ s ∧ s ≤ 65535 ∧ (f = 0 ∨ f = 1) := by simpa [dynB] using h
theorem inB_yes {n m : Int} (h : inB n m = true) : 0 ≤ n ∧ n ≤ m := by simpa [inB] using h
theorem valid_rng {a : Hdr} (h : validH a = true) : 0 ≤ a.id ∧ a.id ≤ 65535 ∧ 0 ≤ a.time ∧ a.time ≤ 4294967295 := by
 simp only [validH, commonB, Bool.and_eq_true] at h
 obtain ⟨_, ⟨⟨⟨⟨⟨⟨⟨⟨_, _⟩, h3⟩, _⟩, _⟩, _⟩, _⟩, _⟩, _⟩, h4⟩ := h
 have h5 := inB_yes h3
 unfold restB at h4
 split at h4
 · simp only [Bool.and_eq_true, beq_iff_eq] at h4
   omega
 · simp only [Bool.and_eq_true] at h4
   have := inB_yes h4.1.2
   omega
theorem mul_rng {s t : Int} (h1 : 0 ≤ s) (h2 : s ≤ 65535) (h3 : -4294967296 ≤ t) (h4 : t ≤ 4294967296) : -2 ^ 48 ≤ s * t ∧ s * t ≤ 2 ^ 48 := by
 have a1 : s * t ≤ s * 4294967296 := Int.mul_le_mul_of_nonneg_left h4 h1
 have a2 : s * -4294967296 ≤ s * t := Int.mul_le_mul_of_nonneg_left h3 h1
 omega
theorem blocks3 (w : World) (a b c : Obj) : (((w.alloc a).alloc b).alloc c).heap[w.heap.size]? = some a ∧ (((w.alloc a).alloc b).alloc c).heap[w.heap.size + 1]? = some b ∧ (((w.alloc a).alloc b).alloc c).heap[w.heap.size + 1 + 1]? = some c := by
 refine ⟨?_, ?_, ?_⟩
 · rw [(Gr.alloc _ _).block _ (by simp; omega) (by simp), (Gr.alloc _ _).block _ (by simp) (by simp)]; exact heap_alloc_new _ _
 · rw [(Gr.alloc _ _).block _ (by simp) (by simp)]; exact heap_two _ _ _
 · have := heap_two (w.alloc a) b c
   simpa using this
-- the world gets a name: a header in a new block over w4
def headL (h : Hdr) : List Int := [69, h.tos, 0, 0] ++ (putR h.id 2 ++ ([64 * h.fixed, 0, h.ttl, 17, 0, 0] ++ (putR h.frm 4 ++ (putR h.to 4 ++ (putR h.fport 2 ++ (putR h.tport 2 ++ ([0, 0] ++ (putR h.check 2 ++ (if h.kind = 2 then [128, 128 * h.marker + h.type] ++ (putR h.seq 2 ++ (putR h.time 4 ++ putR h.source 4)) else [])))))))))
def tailL (h : Hdr) : List Int := if h.kind = 2 then [128, 128 * h.marker + h.type] ++ (putR h.seq 2 ++ (putR h.time 4 ++ putR h.source 4)) else []
def put2 (xs : List Int) : List Int := setM (setM xs 2 (putR xs.length 2)) 24 (putR ((xs.length : Int) - 20) 2)
def bldL (xs : List Int) : List Int := setM (put2 xs) 10 (putR (65535 - addS 0 ((put2 xs).take 20)) 2)
def buildF (h : Hdr) (ys : List Int) : Int × List Int :=
 if validH h then (if 1500 < (headL h ++ ys).length then (2, []) else (0, bldL (headL h ++ ys))) else (1, [])
def rtpB (xs : List Int) : Bool := decide (40 ≤ xs.length) && decide (xs[28]?.getD 0 = 128)
def parse0 (xs : List Int) : Hdr := ⟨1, xs[1]?.getD 0, getN xs 4 2, xs[6]?.getD 0 / 64 % 2, xs[8]?.getD 0, getN xs 12 4, getN xs 16 4, getN xs 20 2, getN xs 22 2, getN xs 26 2, 0, 0, 0, 0, 0⟩
def parse1 (xs : List Int) : Hdr := ⟨2, xs[1]?.getD 0, getN xs 4 2, xs[6]?.getD 0 / 64 % 2, xs[8]?.getD 0, getN xs 12 4, getN xs 16 4, getN xs 20 2, getN xs 22 2, getN xs 26 2, xs[29]?.getD 0 / 128, xs[29]?.getD 0 % 128, getN xs 30 2, getN xs 32 4, getN xs 36 4⟩
def parseH (xs : List Int) : Hdr := if rtpB xs then parse1 xs else parse0 xs
def parseN (xs : List Int) : Nat := if rtpB xs then 40 else 28
def parseF (xs : List Int) : Hdr × List Int × Int :=
 if xs.length < 28 ∨ 1500 < xs.length then (zeroH, [], 2)
 else if (buildF (parseH xs) (xs.drop (parseN xs))).2 = xs then (parseH xs, xs.drop (parseN xs), 0) else (zeroH, [], 4)
def ex (h : Hdr) (n s : Int) (r : List Int) : List Int :=
 69 :: h.tos :: n / 256 % 256 :: n % 256 :: h.id / 256 % 256 :: h.id % 256 :: 64 * h.fixed :: 0 :: h.ttl :: 17 :: s / 256 % 256 :: s % 256 ::
 h.frm / 16777216 % 256 :: h.frm / 65536 % 256 :: h.frm / 256 % 256 :: h.frm % 256 :: h.to / 16777216 % 256 :: h.to / 65536 % 256 :: h.to / 256 % 256 :: h.to % 256 ::
 h.fport / 256 % 256 :: h.fport % 256 :: h.tport / 256 % 256 :: h.tport % 256 :: (n - 20) / 256 % 256 :: (n - 20) % 256 :: h.check / 256 % 256 :: h.check % 256 :: r
def ex0 (h : Hdr) (r : List Int) : List Int :=
 69 :: h.tos :: 0 :: 0 :: h.id / 256 % 256 :: h.id % 256 :: 64 * h.fixed :: 0 :: h.ttl :: 17 :: 0 :: 0 ::
 h.frm / 16777216 % 256 :: h.frm / 65536 % 256 :: h.frm / 256 % 256 :: h.frm % 256 :: h.to / 16777216 % 256 :: h.to / 65536 % 256 :: h.to / 256 % 256 :: h.to % 256 ::
 h.fport / 256 % 256 :: h.fport % 256 :: h.tport / 256 % 256 :: h.tport % 256 :: 0 :: 0 :: h.check / 256 % 256 :: h.check % 256 :: r
def ext (h : Hdr) : List Int := [128, 128 * h.marker + h.type, h.seq / 256 % 256, h.seq % 256, h.time / 16777216 % 256, h.time / 65536 % 256, h.time / 256 % 256, h.time % 256,
 h.source / 16777216 % 256, h.source / 65536 % 256, h.source / 256 % 256, h.source % 256]
theorem putR2 (x : Int) : putR x 2 = [x / 256 % 256, x % 256] := by simp [putR]
theorem putR4 (x : Int) : putR x 4 = [x / 16777216 % 256, x / 65536 % 256, x / 256 % 256, x % 256] := by simp [putR]
theorem tailL_ex (h : Hdr) : tailL h = if h.kind = 2 then ext h else [] := by simp only [tailL, putR2, putR4]; rfl
theorem headL_ex (h : Hdr) (ys : List Int) : headL h ++ ys = ex0 h (tailL h ++ ys) := by
 simp only [headL, putR2, putR4, ex0, tailL, List.cons_append, List.nil_append]
theorem tailL_len (h : Hdr) : (tailL h).length = if h.kind = 2 then 12 else 0 := by
 rw [tailL_ex]; split <;> rfl
theorem headL_len (h : Hdr) : (headL h).length = if h.kind = 2 then 40 else 28 := by
 have := congrArg List.length (headL_ex h [])
 simp only [List.append_nil, ex0, List.length_cons, tailL_len] at this
 rw [this]; split <;> rfl
def sumOf (h : Hdr) (n : Int) : Int := 65535 - addS 0 ((ex h n 0 []).take 20)
theorem put2_ex (h : Hdr) (r : List Int) : put2 (ex0 h r) = ex h (28 + r.length) 0 r := by
 have e : ((ex0 h r).length : Int) = 28 + r.length := by simp [ex0]; omega
 simp only [put2, e, putR2]
 rfl
theorem bldL_ex (h : Hdr) (r : List Int) : bldL (ex0 h r) = ex h (28 + r.length) (sumOf h (28 + r.length)) r := by
 have e : (ex h (28 + r.length) 0 r).take 20 = (ex h (28 + r.length) 0 []).take 20 := rfl
 simp only [bldL, put2_ex, e, putR2, sumOf]
 rfl
theorem valid_all {h : Hdr} (hv : validH h = true) : (h.kind = 1 ∨ h.kind = 2) ∧ (0 ≤ h.tos ∧ h.tos ≤ 255) ∧ (0 ≤ h.ttl ∧ h.ttl ≤ 255) ∧ (0 ≤ h.id ∧ h.id ≤ 65535) ∧ (0 ≤ h.fport ∧ h.fport ≤ 65535) ∧ (0 ≤ h.tport ∧ h.tport ≤ 65535) ∧ (0 ≤ h.check ∧ h.check ≤ 65535) ∧
   (0 ≤ h.fixed ∧ h.fixed ≤ 1) ∧ (0 ≤ h.frm ∧ h.frm ≤ 4294967295) ∧ (0 ≤ h.to ∧ h.to ≤ 4294967295) ∧
   (h.kind = 1 → h.marker = 0 ∧ h.type = 0 ∧ h.seq = 0 ∧ h.time = 0 ∧ h.source = 0) ∧
   (h.kind = 2 → (0 ≤ h.marker ∧ h.marker ≤ 1) ∧ (0 ≤ h.type ∧ h.type ≤ 127) ∧ (0 ≤ h.seq ∧ h.seq ≤ 65535) ∧ (0 ≤ h.time ∧ h.time ≤ 4294967295) ∧ (0 ≤ h.source ∧ h.source ≤ 4294967295)) := by
 simp only [validH, commonB, Bool.and_eq_true] at hv
 obtain ⟨hk, ⟨⟨⟨⟨⟨⟨⟨⟨h1, h2⟩, h3⟩, h4⟩, h5⟩, h6⟩, h7⟩, h8⟩, h9⟩, hr⟩ := hv
 refine ⟨by simpa [kindB] using hk, inB_yes h1, inB_yes h2, inB_yes h3, inB_yes h4, inB_yes h5, inB_yes h6, inB_yes h7, inB_yes h8, inB_yes h9, fun k => ?_, fun k => ?_⟩
 · rw [restB, k] at hr
   simpa [and_assoc] using hr
 · rw [restB, k] at hr
   simp only [show ((2 : Int) == 1) = false from rfl, Bool.false_eq_true, if_false, Bool.and_eq_true] at hr
   obtain ⟨⟨⟨⟨r1, r2⟩, r3⟩, r4⟩, r5⟩ := hr
   exact ⟨inB_yes r1, inB_yes r2, inB_yes r3, inB_yes r4, inB_yes r5⟩
theorem buildF_yes {h : Hdr} (hv : validH h = true) {ys : List Int} (hl : (headL h ++ ys).length ≤ 1500) : buildF h ys = (0, bldL (headL h ++ ys)) := by
 rw [buildF, if_pos hv, if_neg (by omega)]
theorem buildF_ex {h : Hdr} (ys : List Int) : bldL (headL h ++ ys) = ex h (28 + (tailL h ++ ys).length) (sumOf h (28 + (tailL h ++ ys).length)) (tailL h ++ ys) := by
 rw [headL_ex, bldL_ex]
theorem ex_len (h : Hdr) (n s : Int) (r : List Int) : (ex h n s r).length = 28 + r.length := by simp only [ex, List.length_cons]; omega
theorem bldL_len (h : Hdr) (ys : List Int) : (bldL (headL h ++ ys)).length = (headL h ++ ys).length := by
 rw [buildF_ex, ex_len, headL_ex]; simp only [ex0, List.length_cons]; omega
theorem getN2 (xs : List Int) (o : Nat) : getN xs o 2 = 256 * (xs[o]?.getD 0) + xs[o + 1]?.getD 0 := by simp [getN]
theorem getN4 (xs : List Int) (o : Nat) : getN xs o 4 = 256 * (256 * (256 * (xs[o]?.getD 0) + xs[o + 1]?.getD 0) + xs[o + 2]?.getD 0) + xs[o + 3]?.getD 0 := by simp [getN]
theorem w16 {x : Int} (h : 0 ≤ x ∧ x ≤ 65535) : 256 * (x / 256 % 256) + x % 256 = x := by omega
theorem w32 {x : Int} (h : 0 ≤ x ∧ x ≤ 4294967295) : 256 * (256 * (256 * (x / 16777216 % 256) + x / 65536 % 256) + x / 256 % 256) + x % 256 = x := by omega
def parse0x (h : Hdr) : Hdr := ⟨1, h.tos, h.id, h.fixed, h.ttl, h.frm, h.to, h.fport, h.tport, h.check, 0, 0, 0, 0, 0⟩
theorem parse0_ex {h : Hdr} (hv : validH h = true) (n s : Int) (r : List Int) : parse0 (ex h n s r) = parse0x h := by
 obtain ⟨_, ht, htt, hi, hfp, htp, hc, hf, hfr, hto, _⟩ := valid_all hv
 have e : parse0 (ex h n s r) = ⟨1, h.tos, 256 * (h.id / 256 % 256) + h.id % 256, 64 * h.fixed / 64 % 2, h.ttl, 256 * (256 * (256 * (h.frm / 16777216 % 256) + h.frm / 65536 % 256) + h.frm / 256 % 256) + h.frm % 256,
     256 * (256 * (256 * (h.to / 16777216 % 256) + h.to / 65536 % 256) + h.to / 256 % 256) + h.to % 256, 256 * (h.fport / 256 % 256) + h.fport % 256, 256 * (h.tport / 256 % 256) + h.tport % 256, 256 * (h.check / 256 % 256) + h.check % 256, 0, 0, 0, 0, 0⟩ := by
   simp only [parse0, getN2, getN4]; rfl
 rw [e, w16 hi, w32 hfr, w32 hto, w16 hfp, w16 htp, w16 hc, show 64 * h.fixed / 64 % 2 = h.fixed by omega]; rfl
theorem parse1_of (xs : List Int) : parse1 xs = ⟨2, (parse0 xs).tos, (parse0 xs).id, (parse0 xs).fixed, (parse0 xs).ttl, (parse0 xs).frm, (parse0 xs).to, (parse0 xs).fport, (parse0 xs).tport, (parse0 xs).check, xs[29]?.getD 0 / 128, xs[29]?.getD 0 % 128, getN xs 30 2, getN xs 32 4, getN xs 36 4⟩ := rfl
def rtpH (h : Hdr) (r : List Int) : Hdr := ⟨2, h.tos, h.id, h.fixed, h.ttl, h.frm, h.to, h.fport, h.tport, h.check, r[1]?.getD 0 / 128, r[1]?.getD 0 % 128, getN r 2 2, getN r 4 4, getN r 8 4⟩
theorem parse1_ex {h : Hdr} (hv : validH h = true) (n s : Int) (r : List Int) : parse1 (ex h n s r) = rtpH h r := by
 rw [parse1_of, parse0_ex hv]
 simp only [rtpH, parse0x, getN2, getN4]
 rfl
theorem rtpB_ex (h : Hdr) (n s : Int) (r : List Int) : rtpB (ex h n s r) = (decide (12 ≤ r.length) && decide (r[0]?.getD 0 = 128)) := by
 unfold rtpB
 rw [ex_len]
 rw [show decide (40 ≤ 28 + r.length) = decide (12 ≤ r.length) from decide_eq_decide.2 (by omega)]
 rfl
theorem rtpH_ext {h : Hdr} (hv : validH h = true) (hk : h.kind = 2) (ys : List Int) : rtpH h (ext h ++ ys) = h := by
 obtain ⟨_, ht, htt, hi, hfp, htp, hc, hf, hfr, hto, _, h2⟩ := valid_all hv
 obtain ⟨hm, hty, hs, hti, hso⟩ := h2 hk
 have e : rtpH h (ext h ++ ys) = ⟨2, h.tos, h.id, h.fixed, h.ttl, h.frm, h.to, h.fport, h.tport, h.check, (128 * h.marker + h.type) / 128, (128 * h.marker + h.type) % 128, 256 * (h.seq / 256 % 256) + h.seq % 256,
     256 * (256 * (256 * (h.time / 16777216 % 256) + h.time / 65536 % 256) + h.time / 256 % 256) + h.time % 256, 256 * (256 * (256 * (h.source / 16777216 % 256) + h.source / 65536 % 256) + h.source / 256 % 256) + h.source % 256⟩ := by
   simp only [rtpH, getN2, getN4]; rfl
 rw [e, w16 hs, w32 hti, w32 hso, show (128 * h.marker + h.type) / 128 = h.marker by omega, show (128 * h.marker + h.type) % 128 = h.type by omega, ← hk]
theorem parse0x_one {h : Hdr} (hv : validH h = true) (hk : h.kind = 1) : parse0x h = h := by
 obtain ⟨_, _, _, _, _, _, _, _, _, _, h1, _⟩ := valid_all hv
 obtain ⟨e1, e2, e3, e4, e5⟩ := h1 hk
 cases h; simp_all [parse0x]
theorem b16 {a b : Int} (ha : 0 ≤ a ∧ a ≤ 255) (hb : 0 ≤ b ∧ b ≤ 255) : (256 * a + b) / 256 % 256 = a ∧ (256 * a + b) % 256 = b := by omega
theorem b32 {a b c d : Int} (ha : 0 ≤ a ∧ a ≤ 255) (hb : 0 ≤ b ∧ b ≤ 255) (hc : 0 ≤ c ∧ c ≤ 255) (hd : 0 ≤ d ∧ d ≤ 255) :
   (256 * (256 * (256 * a + b) + c) + d) / 16777216 % 256 = a ∧ (256 * (256 * (256 * a + b) + c) + d) / 65536 % 256 = b ∧ (256 * (256 * (256 * a + b) + c) + d) / 256 % 256 = c ∧ (256 * (256 * (256 * a + b) + c) + d) % 256 = d := by omega
theorem list12 {l : List Int} (h : 12 ≤ l.length) : ∃ a0 a1 a2 a3 a4 a5 a6 a7 a8 a9 a10 a11 r, l = a0 :: a1 :: a2 :: a3 :: a4 :: a5 :: a6 :: a7 :: a8 :: a9 :: a10 :: a11 :: r := by
 match l, h with
 | a0 :: a1 :: a2 :: a3 :: a4 :: a5 :: a6 :: a7 :: a8 :: a9 :: a10 :: a11 :: r, _ => exact ⟨_, _, _, _, _, _, _, _, _, _, _, _, _, rfl⟩
 | [], h => simp at h
 | [_], h => simp at h
 | [_, _], h => simp at h
 | [_, _, _], h => simp at h
 | [_, _, _, _], h => simp at h
 | [_, _, _, _, _], h => simp at h
 | [_, _, _, _, _, _], h => simp at h
 | [_, _, _, _, _, _, _], h => simp at h
 | [_, _, _, _, _, _, _, _], h => simp at h
 | [_, _, _, _, _, _, _, _, _], h => simp at h
 | [_, _, _, _, _, _, _, _, _, _], h => simp at h
 | [_, _, _, _, _, _, _, _, _, _, _], h => simp at h
theorem rtp_back (h : Hdr) {r : List Int} (hb : bytesOk r) (hl : 12 ≤ r.length) (h0 : r[0]?.getD 0 = 128) : headL (rtpH h r) ++ r.drop 12 = ex0 h r := by
 obtain ⟨a0, a1, a2, a3, a4, a5, a6, a7, a8, a9, a10, a11, s, rfl⟩ := list12 hl
 have hm := hb
 simp only [bytesOk, List.mem_cons, forall_eq_or_imp] at hm
 obtain ⟨_, m1, m2, m3, m4, m5, m6, m7, m8, m9, m10, m11, _⟩ := hm
 have e : a0 = 128 := h0
 subst e
 rw [headL_ex, tailL_ex, if_pos (show (rtpH h _).kind = 2 from rfl)]
 have d : ext (rtpH h (128 :: a1 :: a2 :: a3 :: a4 :: a5 :: a6 :: a7 :: a8 :: a9 :: a10 :: a11 :: s)) = [128, a1, a2, a3, a4, a5, a6, a7, a8, a9, a10, a11] := by
   obtain ⟨p1, p2⟩ := b16 m2 m3
   obtain ⟨q1, q2, q3, q4⟩ := b32 m4 m5 m6 m7
   obtain ⟨s1, s2, s3, s4⟩ := b32 m8 m9 m10 m11
   have f : rtpH h (128 :: a1 :: a2 :: a3 :: a4 :: a5 :: a6 :: a7 :: a8 :: a9 :: a10 :: a11 :: s) = ⟨2, h.tos, h.id, h.fixed, h.ttl, h.frm, h.to, h.fport, h.tport, h.check, a1 / 128, a1 % 128, 256 * a2 + a3, 256 * (256 * (256 * a4 + a5) + a6) + a7, 256 * (256 * (256 * a8 + a9) + a10) + a11⟩ := by
     simp only [rtpH, getN2, getN4]; rfl
   rw [f]
   simp only [ext, p1, p2, q1, q2, q3, q4, s1, s2, s3, s4, show 128 * (a1 / 128) + a1 % 128 = a1 by omega]
 rw [d]
 rfl
theorem rtpH_valid {h : Hdr} (hv : validH h = true) {r : List Int} (hb : bytesOk r) : validH (rtpH h r) = true := by
 simp only [validH, Bool.and_eq_true] at hv ⊢
 refine ⟨rfl, hv.2.1, ?_⟩
 have h1 := getD_byte hb 1
 have h2 := getN_rng hb 2 2
 have h4 := getN_rng hb 4 4
 have h8 := getN_rng hb 8 4
 have p2 : (256 : Int) ^ 2 = 65536 := rfl
 have p4 : (256 : Int) ^ 4 = 4294967296 := rfl
 rw [p2] at h2
 rw [p4] at h4 h8
 have inB_mk : ∀ {n m : Int}, 0 ≤ n → n ≤ m → inB n m = true := fun a b => by simp [inB, a, b]
 simp only [restB, rtpH, show ((2 : Int) == 1) = false from rfl, Bool.false_eq_true, if_false, Bool.and_eq_true]
 exact ⟨⟨⟨⟨inB_mk (by omega) (by omega), inB_mk (by omega) (by omega)⟩, inB_mk h2.1 (by omega)⟩, inB_mk h4.1 (by omega)⟩, inB_mk h8.1 (by omega)⟩
theorem build_parse {h : Hdr} (hv : validH h = true) {ys : List Int} (hb : bytesOk ys) (hl : (headL h ++ ys).length ≤ 1500) :
   parseF (bldL (headL h ++ ys)) = (parseH (bldL (headL h ++ ys)), (bldL (headL h ++ ys)).drop (parseN (bldL (headL h ++ ys))), 0) ∧
   buildF (parseH (bldL (headL h ++ ys))) ((bldL (headL h ++ ys)).drop (parseN (bldL (headL h ++ ys)))) = (0, bldL (headL h ++ ys)) ∧ validH (parseH (bldL (headL h ++ ys))) = true ∧
   ((h.kind = 1 ∧ 12 ≤ ys.length ∧ ys[0]?.getD 0 = 128) ∨ parseH (bldL (headL h ++ ys)) = h ∧ (bldL (headL h ++ ys)).drop (parseN (bldL (headL h ++ ys))) = ys) := by
 have hlen := bldL_len h ys
 have hl28 : 28 ≤ (headL h ++ ys).length := by rw [List.length_append, headL_len]; split <;> omega
 have key : buildF (parseH (bldL (headL h ++ ys))) ((bldL (headL h ++ ys)).drop (parseN (bldL (headL h ++ ys)))) = (0, bldL (headL h ++ ys)) ∧ validH (parseH (bldL (headL h ++ ys))) = true ∧
   ((h.kind = 1 ∧ 12 ≤ ys.length ∧ ys[0]?.getD 0 = 128) ∨ parseH (bldL (headL h ++ ys)) = h ∧ (bldL (headL h ++ ys)).drop (parseN (bldL (headL h ++ ys))) = ys) := by
   rcases (valid_all hv).1 with hk | hk
   · have ht : tailL h = [] := by rw [tailL_ex, if_neg (by omega)]
     have e := buildF_ex (h := h) ys
     rw [ht, List.nil_append] at e
     by_cases hr : 12 ≤ ys.length ∧ ys[0]?.getD 0 = 128
     · have hB : rtpB (bldL (headL h ++ ys)) = true := by rw [e, rtpB_ex]; simp [hr.1, hr.2]
       have hP : parseH (bldL (headL h ++ ys)) = rtpH h ys := by rw [parseH, if_pos hB, e, parse1_ex hv]
       have hN : (bldL (headL h ++ ys)).drop (parseN (bldL (headL h ++ ys))) = ys.drop 12 := by
         rw [parseN, if_pos hB, e]
         show (ex h _ _ ys).drop (28 + 12) = _
         rw [← List.drop_drop]; rfl
       have hx : headL (rtpH h ys) ++ ys.drop 12 = headL h ++ ys := by rw [rtp_back h hb hr.1 hr.2, headL_ex, ht]; rfl
       rw [hP, hN]
       refine ⟨?_, rtpH_valid hv hb, .inl ⟨hk, hr⟩⟩
       rw [buildF_yes (rtpH_valid hv hb) (by rw [hx]; exact hl), hx]
     · have hB : rtpB (bldL (headL h ++ ys)) = false := by
         rw [e, rtpB_ex, ← Bool.decide_and]
         exact decide_eq_false hr
       have hP : parseH (bldL (headL h ++ ys)) = h := by rw [parseH, hB, e]; exact (parse0_ex hv _ _ _).trans (parse0x_one hv hk)
       have hN : (bldL (headL h ++ ys)).drop (parseN (bldL (headL h ++ ys))) = ys := by rw [parseN, hB, e]; rfl
       rw [hP, hN]
       exact ⟨buildF_yes hv hl, hv, .inr ⟨rfl, rfl⟩⟩
   · have ht : tailL h = ext h := by rw [tailL_ex, if_pos hk]
     have e := buildF_ex (h := h) ys
     rw [ht] at e
     have hB : rtpB (bldL (headL h ++ ys)) = true := by
       rw [e, rtpB_ex]
       simp [ext]
     have hP : parseH (bldL (headL h ++ ys)) = h := by rw [parseH, if_pos hB, e, parse1_ex hv, rtpH_ext hv hk]
     have hN : (bldL (headL h ++ ys)).drop (parseN (bldL (headL h ++ ys))) = ys := by rw [parseN, if_pos hB, e]; rfl
     rw [hP, hN]
     exact ⟨buildF_yes hv hl, hv, .inr ⟨rfl, rfl⟩⟩
 refine ⟨?_, key⟩
 rw [parseF, if_neg (by omega), key.1, if_pos rfl]
end Go.Proofs.YtlnkofpcidngoaaDoor
namespace Go.Proofs.YtlnkofpcidngoaaDoor
open Go.ChangeShapes Go.WideShapes Go.ChangeAt Go.RowKit
namespace Sched2
open Sched (NPred Stable lst Closed dstOf bef chk1 chk_pair chk_edge listed_of_bef newsL newsL_congr put_size put_defers put_get look_same nq_wp tq_wp nq tq uniq dst_lt lst_set closed_set acts_reg EndN putNews endN_inst putNews_reg cnt cnt_set cnt_zero all_of_ready)
variable (P : Program) (ops : Array Oper) (W : World) (I : World → Prop)
def gq (o : Oper) (a : Act) (w : World) (v : Value) (late : Bool) : Prop :=
 match (execOp a.eval o).run P w with
 | .ok (.value u) w' => w' = w ∧ u = v
 | .ok .skip w' => w' = w ∧ v = undef
 | .ok (.enter f args) w' => w' = w ∧ Calls P f args w (fun e w'' => e = .returned v ∧ (late = true → w = w'') ∧ Gr w w'')
 | _ => False
def Walk1 (late news ord : List Nat) (Q : Act → List (Option Tmp × NPred) → Prop) : List Oper → Nat → Act → List (Option Tmp × NPred) → Prop
 | [], _, a, L => Q a L
 | o :: r, k, a, L =>
   if ord.contains k then Walk1 late news ord Q r (k + 1) a L
   else if news.contains k then
     Region.wanted o (yielded ops a.tmps) = true ∧ ∃ N : NPred, Stable N ∧ (∀ w, Gr W w → nq P o a w N) ∧ Walk1 late news ord Q r (k + 1) a (L ++ [(o.dst, N)])
   else if Region.wanted o (yielded ops a.tmps) then
     ∃ v, (∀ w, (if late.contains k then I w else Gr W w) → gq P o a w v (late.contains k)) ∧ Walk1 late news ord Q r (k + 1) (a.put o.dst v) L
   else Walk1 late news ord Q r (k + 1) (a.put o.dst undef) L
def Walk2 (tight : Bool) (Q : Act → World → Prop) : List Oper → Act → World → Prop
 | [], a, w => Q a w
 | o :: r, a, w =>
   if Region.wanted o (yielded ops a.tmps) then tq P o a w (fun a' w' => ((tight = true ∧ r = []) ∨ I w') ∧ Walk2 tight Q r a' w') else Walk2 tight Q r (a.put o.dst undef) w
def chk2 (ops : Array Oper) (B : Array Nat) (late news ord : List Nat) (tight : Bool) : Bool :=
 (!tight || late.all fun j => match ord[ord.length - 1]? with | some q => bef B q j | none => true) &&
 (ord.all fun k => decide (k < ops.size)) && decide ord.Nodup &&
 (news.all fun k => decide (k < ops.size) && !ord.contains k) && (late.all fun k => decide (k < ops.size) && !news.contains k && !ord.contains k) &&
 ((List.range ops.size).all fun j => ord.contains j || late.contains j || (match ord with | [] => true | q :: _ => bef B q j)) &&
 ((List.range ord.length).all fun s => decide (s = 0) || bef B (ord.getD s 0) (ord.getD (s - 1) 0)) &&
 ((List.range ops.size).all fun i => match ops[i]? with
   | none => false
   | some o => ord.contains i || (news.all fun k => match dstOf ops k with | some t => !(o.looksAt ops).contains t | none => true)) &&
 ((List.range ops.size).all fun i => match ops[i]? with
   | none => false
   | some o => (List.range ops.size).all fun j => match dstOf ops j with
     | none => true
     | some t => !(o.looksAt ops).contains t || (if ord.contains i then ord.contains j || (decide (j < i) && bef B i j) else !ord.contains j || (decide (i < j) && bef B j i)))
variable {P ops W I}
variable {B : Array Nat} {late news ord : List Nat} {tight : Bool}
structure Chk (ops : Array Oper) (B : Array Nat) (late news ord : List Nat) (tight : Bool) : Prop where
 last : tight = true → ∀ q, ord[ord.length - 1]? = some q → ∀ j, late.contains j = true → bef B q j = true
 ord_lt : ∀ k, ord.contains k = true → k < ops.size
 nodup : ord.Nodup
 news_no : ∀ k, news.contains k = true → k < ops.size ∧ ord.contains k = false
 late_no : ∀ k, late.contains k = true → k < ops.size ∧ news.contains k = false ∧ ord.contains k = false
 first : ∀ q, ord[0]? = some q → ∀ j, j < ops.size → ord.contains j = false → late.contains j = false → bef B q j = true
 chain : ∀ s p q, ord[s]? = some p → ord[s + 1]? = some q → bef B q p = true
 look_new : ∀ i o, ops[i]? = some o → ord.contains i = false → ∀ k t, news.contains k = true → dstOf ops k = some t → t ∉ o.looksAt ops
 look_head : ∀ i o, ops[i]? = some o → ord.contains i = false → ∀ j t, dstOf ops j = some t → t ∈ o.looksAt ops → ord.contains j = true → i < j ∧ bef B j i = true
 look_last : ∀ i o, ops[i]? = some o → ord.contains i = true → ∀ j t, dstOf ops j = some t → t ∈ o.looksAt ops → ord.contains j = false → j < i ∧ bef B i j = true
theorem chk_of (h : chk2 ops B late news ord tight = true) : Chk ops B late news ord tight := by
 simp only [chk2, Bool.and_eq_true, decide_eq_true_eq] at h
 obtain ⟨⟨⟨⟨⟨⟨⟨⟨h0, h1⟩, h2⟩, h3⟩, h4⟩, h5⟩, h6⟩, h7⟩, h8⟩ := h
 refine ⟨fun ht q hq j hj => ?_, fun k hk => ?_, h2, fun k hk => ?_, fun k hk => ?_, fun q hq j hj ho hl => ?_, fun s p q hp hq => ?_, fun i o ho hi k t hk hd => ?_, fun i o ho hi j t hd ht hj => ?_, fun i o ho hi j t hd ht hj => ?_⟩
 · rw [ht, Bool.not_true, Bool.false_or] at h0
   have := List.all_eq_true.1 h0 j (by simpa using hj)
   rw [hq] at this; exact this
 · have := List.all_eq_true.1 h1 k (by simpa using hk); simpa using this
 · have := List.all_eq_true.1 h3 k (by simpa using hk)
   simp only [Bool.and_eq_true, decide_eq_true_eq, Bool.not_eq_true'] at this
   exact this
 · have := List.all_eq_true.1 h4 k (by simpa using hk)
   simp only [Bool.and_eq_true, decide_eq_true_eq, Bool.not_eq_true'] at this
   exact ⟨this.1.1, this.1.2, this.2⟩
 · have := List.all_eq_true.1 h5 j (List.mem_range.2 hj)
   rw [ho, hl] at this
   cases ord with
   | nil => simp at hq
   | cons x r => simp at hq; subst hq; simpa using this
 · have hlt := (List.getElem?_eq_some_iff.1 hq).1
   have := List.all_eq_true.1 h6 (s + 1) (List.mem_range.2 hlt)
   simp only [List.getD_eq_getElem?_getD, hq, Nat.add_sub_cancel, hp, Option.getD_some] at this
   simpa using this
 · have := List.all_eq_true.1 h7 i (List.mem_range.2 (Array.getElem?_eq_some_iff.1 ho).1)
   simp only [ho, hi, Bool.false_or] at this
   have h9 := List.all_eq_true.1 this k (by simpa using hk)
   rw [hd] at h9
   simpa using h9
 · have := List.all_eq_true.1 h8 i (List.mem_range.2 (Array.getElem?_eq_some_iff.1 ho).1)
   simp only [ho] at this
   have h9 := List.all_eq_true.1 this j (List.mem_range.2 (dst_lt hd))
   simp only [hd, hi, hj] at h9
   simp at h9
   rcases h9 with h9 | h9
   · exact absurd ht h9
   · exact h9
 · have := List.all_eq_true.1 h8 i (List.mem_range.2 (Array.getElem?_eq_some_iff.1 ho).1)
   simp only [ho] at this
   have h9 := List.all_eq_true.1 this j (List.mem_range.2 (dst_lt hd))
   simp only [hd, hi, hj] at h9
   simp at h9
   rcases h9 with h9 | h9
   · exact absurd ht h9
   · exact h9
def FixOK (P : Program) (ops : Array Oper) (W : World) (I : World → Prop) (late : List Nat) (i : Nat) (a : Act) (v : Value) : Prop := ∃ o, ops[i]? = some o ∧
 ((Region.wanted o (yielded ops a.tmps) = true ∧ ∀ w, (if late.contains i then I w else Gr W w) → gq P o a w v (late.contains i)) ∨ (Region.wanted o (yielded ops a.tmps) = false ∧ v = undef))
def NewOK (P : Program) (ops : Array Oper) (W : World) (i : Nat) (a : Act) (N : NPred) : Prop := ∃ o, ops[i]? = some o ∧ Region.wanted o (yielded ops a.tmps) = true ∧ Stable N ∧ ∀ w, Gr W w → nq P o a w N
def StepOK (P : Program) (ops : Array Oper) (W : World) (I : World → Prop) (late news ord : List Nat) (i : Nat) (a a1 : Act) (v : Value) (N : NPred) : Prop :=
 (ord.contains i = true → a1 = a) ∧ (ord.contains i = false → news.contains i = true → a1 = a ∧ NewOK P ops W i a N) ∧
 (ord.contains i = false → news.contains i = false → a1 = a.put (dstOf ops i) v ∧ FixOK P ops W I late i a v)
theorem walk1_ext (hno : ∀ k, news.contains k = true → ord.contains k = false) {Q : Act → List (Option Tmp × NPred) → Prop} : ∀ (l : List Oper) (k : Nat) (a : Act) (L : List (Option Tmp × NPred)), (∀ j, j < l.length → l[j]? = ops[k + j]?) → Walk1 P ops W I late news ord Q l k a L →
   ∃ (A : Nat → Act) (v : Nat → Value) (N : Nat → NPred), A k = a ∧
     (∀ i, k ≤ i → i < k + l.length → StepOK P ops W I late news ord i (A i) (A (i + 1)) (v i) (N i)) ∧
     Q (A (k + l.length)) (L ++ newsL ops news N l.length k)
 | [], k, a, L, _, h => ⟨fun _ => a, fun _ => undef, fun _ _ _ _ _ => True, rfl, fun i h1 h2 => by simp at h2; omega, by simpa [newsL, Walk1] using h⟩
 | o :: r, k, a, L, hl, h => by
   have ho : ops[k]? = some o := by simpa using (hl 0 (by simp)).symm
   have hl' : ∀ j, j < r.length → r[j]? = ops[k + 1 + j]? := fun j hj => by
     have := hl (j + 1) (by simpa using hj)
     simpa [Nat.add_assoc, Nat.add_comm 1 j] using this
   have hd : dstOf ops k = o.dst := by simp [dstOf, ho]
   have hlen : k + (o :: r).length = k + 1 + r.length := by simp; omega
   have join : ∀ (a1 : Act) (L1 : List (Option Tmp × NPred)) (v0 : Value) (N0 : NPred), Walk1 P ops W I late news ord Q r (k + 1) a1 L1 →
       StepOK P ops W I late news ord k a a1 v0 N0 → (L1 = L ++ (if news.contains k then [(dstOf ops k, N0)] else [])) → ∃ (A : Nat → Act) (v : Nat → Value) (N : Nat → NPred), A k = a ∧
     (∀ i, k ≤ i → i < k + (o :: r).length → StepOK P ops W I late news ord i (A i) (A (i + 1)) (v i) (N i)) ∧
     Q (A (k + (o :: r).length)) (L ++ newsL ops news N (o :: r).length k) := by
     intro a1 L1 v0 N0 hw hk hL
     obtain ⟨A, v, N, hA, hstep, hQ⟩ := walk1_ext hno r (k + 1) a1 L1 hl' hw
     refine ⟨fun i => if i = k then a else A i, fun i => if i = k then v0 else v i, fun i => if i = k then N0 else N i, by simp, ?_, ?_⟩
     · intro i h1 h2
       by_cases hik : i = k
       · subst hik
         simp only [if_true, show ¬ i + 1 = i from by omega, if_false, hA]
         exact hk
       · have := hstep i (by omega) (by omega)
         simp only [hik, if_false, show ¬ i + 1 = k from by omega]
         exact this
     · have e1 : ¬ k + (o :: r).length = k := by simp
       show Q (if k + (o :: r).length = k then a else A (k + (o :: r).length)) _
       rw [if_neg e1, hlen]
       rw [hL] at hQ
       simp only [List.length_cons, newsL, if_true]
       rw [newsL_congr (N' := N) r.length (k + 1) (fun i hi => by simp [show ¬ i = k from by omega])]
       simpa [List.append_assoc] using hQ
   unfold Walk1 at h
   by_cases hor : ord.contains k = true
   · rw [if_pos hor] at h
     have hnk : news.contains k = false := by
       cases hn : news.contains k
       · rfl
       · rw [hno k hn] at hor; cases hor
     exact join a L undef (fun _ _ _ _ => True) h ⟨fun _ => rfl, fun e => (by rw [hor] at e; cases e), fun e => (by rw [hor] at e; cases e)⟩ (by rw [hnk]; simp)
   · have horf : ord.contains k = false := by simpa using hor
     rw [if_neg hor] at h
     by_cases hn : news.contains k = true
     · rw [if_pos hn] at h
       obtain ⟨hw, N0, hs, hq, hr⟩ := h
       exact join a _ undef N0 hr ⟨fun e => absurd e hor, fun _ _ => ⟨rfl, o, ho, hw, hs, hq⟩, fun _ e => (by rw [hn] at e; cases e)⟩ (by rw [if_pos hn, hd])
     · have hnf : news.contains k = false := by simpa using hn
       rw [if_neg hn] at h
       by_cases hw : Region.wanted o (yielded ops a.tmps) = true
       · rw [if_pos hw] at h
         obtain ⟨v0, hq, hr⟩ := h
         exact join _ L v0 (fun _ _ _ _ => True) hr ⟨fun e => absurd e hor, fun _ e => (by rw [hnf] at e; cases e), fun _ _ => ⟨by rw [hd], o, ho, .inl ⟨hw, hq⟩⟩⟩ (by rw [if_neg hn]; simp)
       · rw [if_neg hw] at h
         exact join _ L undef (fun _ _ _ _ => True) h ⟨fun e => absurd e hor, fun _ e => (by rw [hnf] at e; cases e), fun _ _ => ⟨by rw [hd], o, ho, .inr ⟨by simpa using hw, rfl⟩⟩⟩ (by rw [if_neg hn]; simp)
theorem gq_wp {o : Oper} {a a' : Act} {w : World} {v : Value} {lt : Bool} {K : Act → World → Prop} {Q : Exit → Act → World → Prop} (he : execOp a.eval o = execOp a'.eval o) (h : gq P o a' w v lt) (hk : ∀ w', Gr w w' → K (a.put o.dst v) w') : o.wp P a w K Q := by
 unfold Oper.wp
 unfold gq at h
 rw [he]
 generalize (execOp a'.eval o).run P w = r at *
 cases r with
 | ok n w' =>
   cases n <;> simp only [Oper.upon] at h ⊢
   case value u => obtain ⟨rfl, rfl⟩ := h; exact hk _ (Gr.refl _)
   case skip => obtain ⟨rfl, rfl⟩ := h; exact hk _ (Gr.refl _)
   case enter f args =>
     obtain ⟨rfl, hc⟩ := h
     exact hc.mono fun e w'' ⟨he, _, hw''⟩ => by subst he; exact hk _ hw''
 | halt x w' => exact h.elim
theorem gq_late {o : Oper} {a a' : Act} {w : World} {v : Value} {K : Act → World → Prop} {Q : Exit → Act → World → Prop} (he : execOp a.eval o = execOp a'.eval o) (h : gq P o a' w v true) (hk : K (a.put o.dst v) w) : o.wp P a w K Q := by
 unfold Oper.wp
 unfold gq at h
 rw [he]
 generalize (execOp a'.eval o).run P w = r at *
 cases r with
 | ok n w' =>
   cases n <;> simp only [Oper.upon] at h ⊢
   case value u => obtain ⟨rfl, rfl⟩ := h; exact hk
   case skip => obtain ⟨rfl, rfl⟩ := h; exact hk
   case enter f args =>
     obtain ⟨rfl, hc⟩ := h
     exact hc.mono fun e w'' ⟨he, hw, _⟩ => by subst he; obtain rfl := hw (by simp); exact hk
 | halt x w' => exact h.elim
structure Inv1 (ops : Array Oper) (W : World) (news ord : List Nat) (a0 : Act) (v : Nat → Value) (N : Nat → NPred) (listed : Array Bool) (a : Act) (w : World) : Prop where
 size : listed.size = ops.size
 closed : Closed ops listed
 later : ∀ i, ord.contains i = true → lst listed i = false
 gr : Gr W w
 dfs : a.defers = a0.defers
 sz : a.tmps.size = a0.tmps.size
 regs : ∃ (nv : Nat → Value) (lo hi : Nat → Nat),
   (∀ t, t < a0.tmps.size → ∀ j, dstOf ops j = some t → lst listed j = true → a.tmps[t]? = some (if news.contains j then nv j else v j)) ∧
   (∀ t, t < a0.tmps.size → (∀ j, dstOf ops j = some t → lst listed j = false) → a.tmps[t]? = a0.tmps[t]?) ∧
   (∀ j, news.contains j = true → lst listed j = true → N j (lo j) (hi j) (nv j) w ∧ W.heap.size ≤ lo j ∧ lo j ≤ hi j ∧ hi j ≤ w.heap.size) ∧
   (∀ i j, i ≠ j → news.contains i = true → news.contains j = true → lst listed i = true → lst listed j = true → hi i ≤ lo j ∨ hi j ≤ lo i)
section
variable {a0 : Act} {v : Nat → Value} {N : Nat → NPred} {listed : Array Bool} {a : Act} {w w' : World}
theorem steps_skip {A : Nat → Act} (hstep : ∀ i, i < ops.size → StepOK P ops W I late news ord i (A i) (A (i + 1)) (v i) (N i)) :
   ∀ i, i < ops.size → ((news ++ ord).contains i = true → A (i + 1) = A i) ∧ ((news ++ ord).contains i = false → A (i + 1) = (A i).put (dstOf ops i) (v i)) := by
 intro i hi
 obtain ⟨h1, h2, h3⟩ := hstep i hi
 refine ⟨fun h => ?_, fun h => ?_⟩
 · cases ho : ord.contains i
   · have hn : news.contains i = true := by
       simp only [List.contains_eq_mem, List.mem_append, decide_eq_true_eq, decide_eq_false_iff_not] at h ho ⊢
       exact h.resolve_right ho
     exact (h2 ho hn).1
   · exact h1 ho
 · have hn : news.contains i = false ∧ ord.contains i = false := by
     simp only [List.contains_eq_mem, List.mem_append, decide_eq_false_iff_not, not_or] at h ⊢
     exact h
   exact (h3 hn.2 hn.1).1
theorem skip_no {j : Nat} (h1 : news.contains j = false) (h2 : ord.contains j = false) : (news ++ ord).contains j = false := by
 simp only [List.contains_eq_mem, List.mem_append, decide_eq_false_iff_not, not_or] at *
 exact ⟨h1, h2⟩
theorem skip_get {j : Nat} (h : (news ++ ord).contains j = false) : news.contains j = false ∧ ord.contains j = false := by
 simp only [List.contains_eq_mem, List.mem_append, decide_eq_false_iff_not, not_or] at *
 exact h
theorem look1 (hch : chk1 ops B = true) (hc : Chk ops B late news ord tight) {A : Nat → Act} (hA0 : A 0 = a0)
   (hstep : ∀ i, i < ops.size → ((news ++ ord).contains i = true → A (i + 1) = A i) ∧ ((news ++ ord).contains i = false → A (i + 1) = (A i).put (dstOf ops i) (v i)))
   (inv : Inv1 ops W news ord a0 v N listed a w) {i : Nat} {o : Oper} (hi : ord.contains i = false) (ho : ops[i]? = some o) (hr : ∀ e ∈ o.after, Region.binds .any e = true → lst listed e.on = true) (hun : lst listed i = false) :
   ∀ t ∈ o.looksAt ops, a.tmps[t]? = (A i).tmps[t]? := by
 intro t ht
 have hin := (Array.getElem?_eq_some_iff.1 ho).1
 obtain ⟨h1, h2, h3⟩ := acts_reg hch hstep i (Nat.le_of_lt hin)
 rw [hA0] at h1 h2 h3
 rcases Nat.lt_or_ge t a0.tmps.size with hlt | hge
 · obtain ⟨nv, lo, hi', r1, r2, _, _⟩ := inv.regs
   have hnl : ∀ j, dstOf ops j = some t → news.contains j = false := by
     intro j hj
     cases hnj : news.contains j
     · rfl
     · exact absurd ht (hc.look_new i o ho hi j t hnj hj)
   by_cases hex : ∃ j, dstOf ops j = some t
   · obtain ⟨j, hj⟩ := hex
     rcases ((chk_pair hch ho (dst_lt hj)).2 t hj).2 ht with ⟨hji, hb⟩ | ⟨hij, hb⟩
     · have hl := listed_of_bef hch inv.closed i o ho hr j hb (dst_lt hj)
       have hoj : ord.contains j = false := by
         cases h : ord.contains j
         · rfl
         · have := (hc.look_head i o ho hi j t hj ht h).1; omega
       rw [r1 t hlt j hj hl, (h3 t hlt).1 j hji (skip_no (hnl j hj) hoj) hj, hnl j hj]; rfl
     · have hl : lst listed j = false := by
         cases hlj : lst listed j
         · rfl
         · obtain ⟨oj, hoj⟩ : ∃ oj, ops[j]? = some oj := ⟨ops[j]'(dst_lt hj), Array.getElem?_eq_getElem _⟩
           have := listed_of_bef hch inv.closed j oj hoj (fun e he hbb => inv.closed j oj hoj hlj e he hbb) i hb hin
           rw [hun] at this; cases this
       rw [r2 t hlt (fun j' hj' => by rw [uniq hch hj' hj]; exact hl), (h3 t hlt).2 (fun j' hj' _ hd => by rw [uniq hch hd hj] at hj'; omega)]
   · rw [r2 t hlt (fun j hj => absurd ⟨j, hj⟩ hex), (h3 t hlt).2 (fun j _ _ hd => hex ⟨j, hd⟩)]
 · rw [Array.getElem?_eq_none (by rw [inv.sz]; exact hge), Array.getElem?_eq_none (by rw [h2]; exact hge)]
theorem inv1_fix (hch : chk1 ops B = true) (hst : ∀ j, news.contains j = true → Stable (N j)) (inv : Inv1 ops W news ord a0 v N listed a w) {i : Nat} {o : Oper} (hi : ord.contains i = false) (ho : ops[i]? = some o)
   (hr : ∀ e ∈ o.after, Region.binds .any e = true → lst listed e.on = true) (hn : news.contains i = false) (hg : Gr w w') :
   Inv1 ops W news ord a0 v N (listed.setIfInBounds i true) (a.put o.dst (v i)) w' := by
 have hin : i < listed.size := by rw [inv.size]; exact (Array.getElem?_eq_some_iff.1 ho).1
 have hd : dstOf ops i = o.dst := by simp [dstOf, ho]
 obtain ⟨nv, lo, hi', r1, r2, r3, r4⟩ := inv.regs
 have notnew : ∀ j, news.contains j = true → j ≠ i := fun j hj e => by rw [e, hn] at hj; cases hj
 refine ⟨by simp [inv.size], closed_set hin ho inv.closed hr, fun k hk => ?_, inv.gr.trans hg, by rw [put_defers, inv.dfs], by rw [put_size, inv.sz], nv, lo, hi', ?_, ?_, ?_, ?_⟩
 · rw [lst_set hin, if_neg (fun e => by rw [e, hk] at hi; cases hi)]; exact inv.later k hk
 · intro t ht j hj hl
   rw [put_get _ _ _ _ (by rw [inv.sz]; exact ht)]
   rw [lst_set hin] at hl
   by_cases hij : i = j
   · subst hij; rw [if_pos (by rw [← hd]; exact hj), hn]; rfl
   · rw [if_neg (fun e => hij (uniq hch (by rw [hd]; exact e) hj)), r1 t ht j hj (by rw [if_neg hij] at hl; exact hl)]
 · intro t ht hall
   rw [put_get _ _ _ _ (by rw [inv.sz]; exact ht), if_neg (fun e => by have := hall i (by rw [hd]; exact e); rw [lst_set hin] at this; simp at this)]
   exact r2 t ht fun j hj => by
     have := hall j hj
     rw [lst_set hin] at this
     split at this
     · cases this
     · exact this
 · intro j hj hl
   rw [lst_set hin, if_neg (Ne.symm (notnew j hj))] at hl
   obtain ⟨q1, q2, q3, q4⟩ := r3 j hj hl
   exact ⟨hst j hj _ _ _ _ _ q1 hg, q2, q3, Nat.le_trans q4 hg.size⟩
 · intro k j hkj hk hj hlk hlj
   rw [lst_set hin, if_neg (Ne.symm (notnew k hk))] at hlk
   rw [lst_set hin, if_neg (Ne.symm (notnew j hj))] at hlj
   exact r4 k j hkj hk hj hlk hlj
theorem inv1_new (hch : chk1 ops B = true) (hst : ∀ j, news.contains j = true → Stable (N j)) (inv : Inv1 ops W news ord a0 v N listed a w) {i : Nat} {o : Oper} (hi : ord.contains i = false) (ho : ops[i]? = some o)
   (hr : ∀ e ∈ o.after, Region.binds .any e = true → lst listed e.on = true) (hun : lst listed i = false) (hn : news.contains i = true) (hg : Gr w w') {x : Value} (hN : N i w.heap.size w'.heap.size x w') :
   Inv1 ops W news ord a0 v N (listed.setIfInBounds i true) (a.put o.dst x) w' := by
 have hin : i < listed.size := by rw [inv.size]; exact (Array.getElem?_eq_some_iff.1 ho).1
 have hd : dstOf ops i = o.dst := by simp [dstOf, ho]
 obtain ⟨nv, lo, hi', r1, r2, r3, r4⟩ := inv.regs
 refine ⟨by simp [inv.size], closed_set hin ho inv.closed hr, fun k hk => ?_, inv.gr.trans hg, by rw [put_defers, inv.dfs], by rw [put_size, inv.sz],
   fun j => if j = i then x else nv j, fun j => if j = i then w.heap.size else lo j, fun j => if j = i then w'.heap.size else hi' j, ?_, ?_, ?_, ?_⟩
 · rw [lst_set hin, if_neg (fun e => by rw [e, hk] at hi; cases hi)]; exact inv.later k hk
 · intro t ht j hj hl
   rw [put_get _ _ _ _ (by rw [inv.sz]; exact ht)]
   rw [lst_set hin] at hl
   by_cases hij : i = j
   · subst hij; rw [if_pos (by rw [← hd]; exact hj), hn]; simp
   · rw [if_neg (fun e => hij (uniq hch (by rw [hd]; exact e) hj)), r1 t ht j hj (by rw [if_neg hij] at hl; exact hl)]
     simp [Ne.symm hij]
 · intro t ht hall
   rw [put_get _ _ _ _ (by rw [inv.sz]; exact ht), if_neg (fun e => by have := hall i (by rw [hd]; exact e); rw [lst_set hin] at this; simp at this)]
   exact r2 t ht fun j hj => by
     have := hall j hj
     rw [lst_set hin] at this
     split at this
     · cases this
     · exact this
 · intro j hj hl
   by_cases hji : j = i
   · subst hji
     simp only [if_true]
     exact ⟨hN, inv.gr.size, hg.size, Nat.le_refl _⟩
   · rw [lst_set hin, if_neg (Ne.symm hji)] at hl
     obtain ⟨q1, q2, q3, q4⟩ := r3 j hj hl
     simp only [hji, if_false]
     exact ⟨hst j hj _ _ _ _ _ q1 hg, q2, q3, Nat.le_trans q4 hg.size⟩
 · intro k j hkj hk hj hlk hlj
   rw [lst_set hin] at hlk hlj
   by_cases hki : k = i
   · subst hki
     have hjk : ¬ j = k := fun e => hkj e.symm
     rw [if_neg hkj] at hlj
     simp only [if_true, hjk, if_false]
     exact .inr (r3 j hj hlj).2.2.2
   · rw [if_neg (Ne.symm hki)] at hlk
     by_cases hji : j = i
     · subst hji
       simp only [if_true, hki, if_false]
       exact .inl (r3 k hk hlk).2.2.2
     · rw [if_neg (Ne.symm hji)] at hlj
       simp only [hki, hji, if_false]
       exact r4 k j hkj hk hj hlk hlj
def lasts (ops : Array Oper) (ord : List Nat) : List Oper := ord.filterMap (ops[·]?)
structure Inv2 (P : Program) (ops : Array Oper) (I : World → Prop) (tight : Bool) (Q' : Act → World → Prop) (late news ord : List Nat) (a0 : Act) (v : Nat → Value) (p : Nat) (listed : Array Bool) (a : Act) (w : World) : Prop where
 size : listed.size = ops.size
 closed : Closed ops listed
 iw : (∀ j, late.contains j = true → lst listed j = true) ∨ I w
 done : ∀ s q, ord[s]? = some q → s < p → lst listed q = true
 todo : ∀ s q, ord[s]? = some q → p ≤ s → lst listed q = false
 head : ∀ j, j < ops.size → ord.contains j = false → late.contains j = false → lst listed j = true
 dfs : a.defers = a0.defers
 sz : a.tmps.size = a0.tmps.size
 ideal : ∃ A : Act, Walk2 P ops I tight Q' (lasts ops (ord.drop p)) A w ∧ A.defers = a0.defers ∧ A.tmps.size = a0.tmps.size ∧ ∀ t, t < a0.tmps.size →
   (∀ j, late.contains j = true → lst listed j = false → dstOf ops j = some t → a.tmps[t]? = a0.tmps[t]?) ∧
   ((∀ j, late.contains j = true → lst listed j = false → dstOf ops j ≠ some t) → a.tmps[t]? = A.tmps[t]?) ∧
   (∀ j, ord.contains j = false → news.contains j = false → dstOf ops j = some t → A.tmps[t]? = some (v j)) ∧
   ((∀ j, (ord.contains j = false ∨ ∃ s, s < p ∧ ord[s]? = some j) → dstOf ops j ≠ some t) → A.tmps[t]? = a0.tmps[t]?)
variable {Q' : Act → World → Prop}
theorem inv2_start (hch : chk1 ops B = true) (hc : Chk ops B late news ord tight) {A : Nat → Act} (hA0 : A 0 = a0)
   (hstep : ∀ i, i < ops.size → ((news ++ ord).contains i = true → A (i + 1) = A i) ∧ ((news ++ ord).contains i = false → A (i + 1) = (A i).put (dstOf ops i) (v i)))
   (inv : Inv1 ops W news ord a0 v N listed a w) (hall : ∀ j, j < ops.size → ord.contains j = false → late.contains j = false → lst listed j = true) (hI : I w)
   (H : EndN W w (fun a' => Walk2 P ops I tight Q' (lasts ops ord) a' w) (newsL ops news N ops.size 0) [] (A ops.size)) : Inv2 P ops I tight Q' late news ord a0 v 0 listed a w := by
 have hnl : ∀ j, news.contains j = true → lst listed j = true := fun j hj => by
   obtain ⟨h1, h2⟩ := hc.news_no j hj
   refine hall j h1 h2 ?_
   cases h : late.contains j
   · rfl
   · rw [(hc.late_no j h).2.1] at hj; cases hj
 obtain ⟨nv, lo, hi', r1, r2, r3, r4⟩ := inv.regs
 have hk := endN_inst (nv := nv) (lo := lo) (hi := hi') (fun i j hij hi hj => r4 i j hij hi hj (hnl i hi) (hnl j hj)) ops.size 0 [] (A ops.size) (fun j _ _ hj => r3 j hj (hnl j hj)) (fun _ _ _ _ p hp => by cases hp) H
 obtain ⟨g1, g2, g3⟩ := acts_reg hch hstep ops.size (Nat.le_refl _)
 rw [hA0] at g1 g2 g3
 obtain ⟨f1, f2, f3⟩ := putNews_reg hch (news := news) (nv := nv) ops.size 0 (A ops.size)
 refine ⟨inv.size, inv.closed, .inr hI, fun s q _ h2 => by omega, fun s q hq _ => inv.later q (by simpa using List.mem_of_getElem? hq), hall, inv.dfs, inv.sz, putNews ops news nv ops.size 0 (A ops.size), hk, by rw [f1, g1], by rw [f2, g2], fun t ht => ?_⟩
 obtain ⟨f4, f5⟩ := f3 t (by rw [g2]; exact ht)
 obtain ⟨g4, g5⟩ := g3 t ht
 have hfix : ∀ j, ord.contains j = false → news.contains j = false → dstOf ops j = some t → (putNews ops news nv ops.size 0 (A ops.size)).tmps[t]? = some (v j) := fun j hoj hnj hd => by
   rw [f5 (fun j' _ _ hn' hd' => by have := uniq hch hd' hd; rw [this, hnj] at hn'; cases hn'), g4 j (dst_lt hd) (skip_no hnj hoj) hd]
 have hnone : (∀ j, ord.contains j = false → dstOf ops j ≠ some t) → (putNews ops news nv ops.size 0 (A ops.size)).tmps[t]? = a0.tmps[t]? := fun hno => by
   rw [f5 (fun j' _ h2 h3 => hno j' (hc.news_no j' h3).2), g5 fun j hj h3 => hno j (skip_get h3).2]
 refine ⟨fun j hl hun hd => ?_, fun hno => ?_, hfix, fun hno => hnone fun j hj => hno j (.inl hj)⟩
 · exact r2 t ht fun j' hj' => by rw [uniq hch hj' hd]; exact hun
 · by_cases hex : ∃ j, ord.contains j = false ∧ dstOf ops j = some t
   · obtain ⟨j, hj, hd⟩ := hex
     have hl : lst listed j = true := by
       cases h : late.contains j
       · exact hall j (dst_lt hd) hj h
       · cases h2 : lst listed j
         · exact absurd hd (hno j h h2)
         · rfl
     rw [r1 t ht j hd hl]
     cases hnj : news.contains j
     · rw [hfix j hj hnj hd]; rfl
     · rw [f4 j (by omega) (by have := dst_lt hd; omega) hnj hd]; rfl
   · rw [hnone (fun j hj hd => hex ⟨j, hj, hd⟩)]
     refine r2 t ht fun j hd => ?_
     exact inv.later j (by
       cases h : ord.contains j
       · exact absurd ⟨j, h, hd⟩ hex
       · rfl)
theorem inv2_late (hch : chk1 ops B = true) (hc : Chk ops B late news ord tight) {p : Nat} (inv : Inv2 P ops I tight Q' late news ord a0 v p listed a w) {i : Nat} {o : Oper} (hl : late.contains i = true) (ho : ops[i]? = some o)
   (hr : ∀ e ∈ o.after, Region.binds .any e = true → lst listed e.on = true) : Inv2 P ops I tight Q' late news ord a0 v p (listed.setIfInBounds i true) (a.put o.dst (v i)) w := by
 have hin : i < listed.size := by rw [inv.size]; exact (Array.getElem?_eq_some_iff.1 ho).1
 have hd : dstOf ops i = o.dst := by simp [dstOf, ho]
 obtain ⟨_, hln, hlo⟩ := hc.late_no i hl
 obtain ⟨A, h1, h2, h3, h4⟩ := inv.ideal
 have up : ∀ j, lst listed j = true → lst (listed.setIfInBounds i true) j = true := fun j h => by rw [lst_set hin]; split <;> simp [h]
 refine ⟨by simp [inv.size], closed_set hin ho inv.closed hr, inv.iw.imp (fun h j hj => up j (h j hj)) id, fun s q hq hs => up q (inv.done s q hq hs), fun s q hq hs => ?_, fun j hj0 hj1 hj2 => up j (inv.head j hj0 hj1 hj2), by rw [put_defers, inv.dfs], by rw [put_size, inv.sz],
   A, h1, h2, h3, fun t ht => ?_⟩
 · have hqo : ord.contains q = true := by simpa using List.mem_of_getElem? hq
   rw [lst_set hin, if_neg (fun e => by rw [e, hqo] at hlo; cases hlo)]; exact inv.todo s q hq hs
 · obtain ⟨c1, c2, c3, c4⟩ := h4 t ht
   rw [put_get _ _ _ _ (by rw [inv.sz]; exact ht)]
   refine ⟨fun j hlj hun hdj => ?_, fun hno => ?_, c3, c4⟩
   · rw [lst_set hin] at hun
     by_cases hij : i = j
     · subst hij; simp at hun
     · rw [if_neg hij] at hun
       rw [if_neg (fun e => hij (uniq hch (by rw [hd]; exact e) hdj))]
       exact c1 j hlj hun hdj
   · by_cases hdi : o.dst = some t
     · rw [if_pos hdi, c3 i hlo hln (by rw [hd]; exact hdi)]
     · rw [if_neg hdi]
       refine c2 fun j hlj hun hdj => ?_
       by_cases hij : i = j
       · subst hij; exact hdi (by rw [← hd]; exact hdj)
       · exact hno j hlj (by rw [lst_set hin, if_neg hij]; exact hun) hdj
theorem inv2_next (hch : chk1 ops B = true) (hc : Chk ops B late news ord tight) {p q : Nat} (inv : Inv2 P ops I tight Q' late news ord a0 v p listed a w) {o : Oper} (hq : ord[p]? = some q) (ho : ops[q]? = some o) (hI : (∀ j, late.contains j = true → lst listed j = true) ∨ I w')
   (hr : ∀ e ∈ o.after, Region.binds .any e = true → lst listed e.on = true) {A : Act} {x : Value} (hW : Walk2 P ops I tight Q' (lasts ops (ord.drop (p + 1))) (A.put o.dst x) w') (h2 : A.defers = a0.defers) (h3 : A.tmps.size = a0.tmps.size)
   (h4 : ∀ t, t < a0.tmps.size →
   (∀ j, late.contains j = true → lst listed j = false → dstOf ops j = some t → a.tmps[t]? = a0.tmps[t]?) ∧
   ((∀ j, late.contains j = true → lst listed j = false → dstOf ops j ≠ some t) → a.tmps[t]? = A.tmps[t]?) ∧
   (∀ j, ord.contains j = false → news.contains j = false → dstOf ops j = some t → A.tmps[t]? = some (v j)) ∧
   ((∀ j, (ord.contains j = false ∨ ∃ s, s < p ∧ ord[s]? = some j) → dstOf ops j ≠ some t) → A.tmps[t]? = a0.tmps[t]?)) : Inv2 P ops I tight Q' late news ord a0 v (p + 1) (listed.setIfInBounds q true) (a.put o.dst x) w' := by
 have hpn := (Array.getElem?_eq_some_iff.1 ho).1
 have hin : q < listed.size := by rw [inv.size]; exact hpn
 have hd : dstOf ops q = o.dst := by simp [dstOf, ho]
 have hqo : ord.contains q = true := by simpa using List.mem_of_getElem? hq
 have up : ∀ j, lst listed j = true → lst (listed.setIfInBounds q true) j = true := fun j h => by rw [lst_set hin]; split <;> simp [h]
 have notq : ∀ j, ord.contains j = false → q ≠ j := fun j hj e => by rw [← e, hqo] at hj; cases hj
 refine ⟨by simp [inv.size], closed_set hin ho inv.closed hr, hI.imp (fun h j hj => up j (h j hj)) id, fun s r hr1 hs => ?_, fun s r hr1 hs => ?_, fun j hj0 hj1 hj2 => up j (inv.head j hj0 hj1 hj2), by rw [put_defers, inv.dfs], by rw [put_size, inv.sz],
   A.put o.dst x, hW, by rw [put_defers, h2], by rw [put_size, h3], fun t ht => ?_⟩
 · by_cases hsp : s = p
   · subst hsp
     rw [hq] at hr1; cases hr1
     rw [lst_set hin]; simp
   · exact up r (inv.done s r hr1 (by omega))
 · have hne : q ≠ r := fun e => by
     subst e
     have hp1 := (List.getElem?_eq_some_iff.1 hq)
     have hs1 := (List.getElem?_eq_some_iff.1 hr1)
     obtain ⟨hp1, e1⟩ := hp1
     obtain ⟨hs1, e2⟩ := hs1
     exact List.pairwise_iff_getElem.1 hc.nodup p s hp1 hs1 (by omega) (e1.trans e2.symm)
   rw [lst_set hin, if_neg hne]; exact inv.todo s r hr1 (by omega)
 · obtain ⟨c1, c2, c3, c4⟩ := h4 t ht
   rw [put_get _ _ _ _ (by rw [inv.sz]; exact ht), put_get _ _ _ _ (by rw [h3]; exact ht)]
   refine ⟨fun j hlj hun hdj => ?_, fun hno => ?_, fun j hj hnj hdj => ?_, fun hno => ?_⟩
   · have hne := notq j (hc.late_no j hlj).2.2
     rw [lst_set hin, if_neg hne] at hun
     rw [if_neg (fun e => hne (uniq hch (by rw [hd]; exact e) hdj))]
     exact c1 j hlj hun hdj
   · split
     · rfl
     · exact c2 fun j hlj hun hdj => hno j hlj (by rw [lst_set hin, if_neg (notq j (hc.late_no j hlj).2.2)]; exact hun) hdj
   · rw [if_neg (fun e => notq j hj (uniq hch (by rw [hd]; exact e) hdj))]
     exact c3 j hj hnj hdj
   · rw [if_neg (fun e => hno q (.inr ⟨p, by omega, hq⟩) (by rw [hd]; exact e))]
     exact c4 fun j hj => hno j (hj.imp id fun ⟨s, hs, e⟩ => ⟨s, by omega, e⟩)
theorem lasts_cons {p q : Nat} {o : Oper} (hq : ord[p]? = some q) (ho : ops[q]? = some o) : lasts ops (ord.drop p) = o :: lasts ops (ord.drop (p + 1)) := by
 obtain ⟨hp, e⟩ := List.getElem?_eq_some_iff.1 hq
 rw [List.drop_eq_getElem_cons hp, lasts, List.filterMap_cons, e, ho]; rfl
theorem sched_any (hch : chk1 ops B = true) (hc : Chk ops B late news ord tight) (hsel : Region.noSelect ops = true) {Q : Exit → Act → World → Prop} {A : Nat → Act} (hA0 : A 0 = a0)
   (hGI : ∀ w, Gr W w → I w)
   (hstep : ∀ i, i < ops.size → StepOK P ops W I late news ord i (A i) (A (i + 1)) (v i) (N i))
   (hend : ∀ w', Gr W w' → EndN W w' (fun a' => Walk2 P ops I tight (Q .normal) (lasts ops ord) a' w') (newsL ops news N ops.size 0) [] (A ops.size)) :
   ∀ (fuel : Nat) (listed : Array Bool) (a : Act) (w : World), cnt listed ops.size = fuel → (Inv1 ops W news ord a0 v N listed a w ∨ ∃ p, Inv2 P ops I tight (Q .normal) late news ord a0 v p listed a w) → wpAny P .any ops Q fuel listed a w := by
 have hst1 := steps_skip hstep
 have hstable : ∀ j, news.contains j = true → Stable (N j) := fun j hj => by
   obtain ⟨h1, h2⟩ := hc.news_no j hj
   obtain ⟨_, _, _, _, h, _⟩ := (hstep j h1).2.1 h2 hj
   exact h
 have ordmem : ∀ q, ord.contains q = true → ∃ s, ord[s]? = some q := fun q hq => by
   have : q ∈ ord := by simpa using hq
   obtain ⟨s, hs, e⟩ := List.getElem_of_mem this
   exact ⟨s, by rw [List.getElem?_eq_getElem hs, e]⟩
 -- at the end
 have fin : ∀ (listed : Array Bool) (a : Act) (w : World), (∀ i, i < ops.size → lst listed i = true) → (Inv1 ops W news ord a0 v N listed a w ∨ ∃ p, Inv2 P ops I tight (Q .normal) late news ord a0 v p listed a w) → Q .normal a w := by
   intro listed a w hall inv
   have h2 : ∃ p, Inv2 P ops I tight (Q .normal) late news ord a0 v p listed a w := by
     rcases inv with inv | h
     · exact ⟨0, inv2_start hch hc hA0 hst1 inv (fun j hj _ _ => hall j hj) (hGI w inv.gr) (hend w inv.gr)⟩
     · exact h
   obtain ⟨p, inv⟩ := h2
   have hp : ord.length ≤ p := by
     rcases Nat.lt_or_ge p ord.length with h | h
     · have hq : ord[p]? = some ord[p] := List.getElem?_eq_getElem h
       have := inv.todo p _ hq (Nat.le_refl _)
       rw [hall _ (hc.ord_lt _ (by simp))] at this; cases this
     · exact h
   obtain ⟨A', h1, h2, h3, h4⟩ := inv.ideal
   rw [List.drop_eq_nil_of_le hp] at h1
   have e : a = A' := by
     have ht : a.tmps = A'.tmps := by
       apply Array.ext_getElem?
       intro t
       rcases Nat.lt_or_ge t a0.tmps.size with h | h
       · exact (h4 t h).2.1 fun j hl hun _ => by rw [hall j (hc.late_no j hl).1] at hun; cases hun
       · rw [Array.getElem?_eq_none (by rw [inv.sz]; exact h), Array.getElem?_eq_none (by rw [h3]; exact h)]
     have hd : a.defers = A'.defers := by rw [inv.dfs, h2]
     cases a; cases A'; simp_all
   rw [e]; exact h1
 -- one operation of the chain
 have chain : ∀ (fuel : Nat) (listed : Array Bool) (a : Act) (w : World) (p q : Nat) (o : Oper), ord[p]? = some q → (∀ a' w', (∃ q', Inv2 P ops I tight (Q .normal) late news ord a0 v q' (listed.setIfInBounds q true) a' w') → wpAny P .any ops Q fuel (listed.setIfInBounds q true) a' w') →
     Inv2 P ops I tight (Q .normal) late news ord a0 v p listed a w → ops[q]? = some o → (∀ e ∈ o.after, Region.binds .any e = true → lst listed e.on = true) → wpOp P ops Q q (wpAny P .any ops Q fuel (listed.setIfInBounds q true)) a w := by
   intro fuel listed a w p q o hq ih inv ho hr
   have hqo : ord.contains q = true := by simpa using List.mem_of_getElem? hq
   obtain ⟨A', h1, h2, h3, h4⟩ := inv.ideal
   rw [lasts_cons hq ho] at h1
   have look := look_same (ops := ops) (o := o) (a := a) (a' := A') (fun cs b => Region.noSelect_spec hsel q o cs b ho) (fun t ht => by
     rcases Nat.lt_or_ge t a0.tmps.size with h | h
     · refine (h4 t h).2.1 fun j hl hun hd => ?_
       have hb := (hc.look_last q o ho hqo j t hd ht (hc.late_no j hl).2.2).2
       have := listed_of_bef hch inv.closed q o ho hr j hb (dst_lt hd)
       rw [hun] at this; cases this
     · rw [Array.getElem?_eq_none (by rw [inv.sz]; exact h), Array.getElem?_eq_none (by rw [h3]; exact h)])
   unfold wpOp
   rw [ho]
   simp only
   rw [look.2]
   unfold Walk2 at h1
   by_cases hw : Region.wanted o (yielded ops A'.tmps) = true
   · rw [if_pos hw] at h1 ⊢
     refine .inl (tq_wp look.1 h1 fun x w' hK => ih _ _ ⟨p + 1, inv2_next hch hc inv hq ho (hK.1.imp (fun ⟨ht, he⟩ j hj => ?_) id) hr hK.2 h2 h3 h4⟩)
     have hlast : p + 1 = ord.length := by
       have hp := (List.getElem?_eq_some_iff.1 hq).1
       rcases Nat.lt_or_ge (p + 1) ord.length with h | h
       · have h5 : ord[p + 1]? = some ord[p + 1] := List.getElem?_eq_getElem h
         have h6 := hc.ord_lt ord[p + 1] (by simp)
         rw [lasts_cons h5 (Array.getElem?_eq_getElem h6)] at he
         cases he
       · omega
     exact listed_of_bef hch inv.closed q o ho hr j (hc.last ht q (by rw [← hlast]; simpa using hq) j hj) (hc.late_no j hj).1
   · rw [if_neg hw] at h1 ⊢
     exact ih _ _ ⟨p + 1, inv2_next hch hc inv hq ho inv.iw hr h1 h2 h3 h4⟩
 intro fuel
 induction fuel with
 | zero =>
   intro listed a w hcn inv
   have hall := cnt_zero ops.size hcn
   refine ⟨?_, fin listed a w hall inv⟩
   rw [List.eq_nil_iff_forall_not_mem]
   intro i hi
   obtain ⟨h0, o, ho, _⟩ := mem_ready.1 hi
   have hin := (Array.getElem?_eq_some_iff.1 ho).1
   have hs : listed.size = ops.size := by rcases inv with inv | ⟨_, inv⟩ <;> exact inv.size
   have h1 := hall i hin
   unfold lst at h1
   have hsz : i < listed.size := by omega
   simp only [Array.getD_eq_getD_getElem?, Array.getElem?_eq_getElem hsz, Option.getD_some] at h0 h1
   rw [h1] at h0; cases h0
 | succ fuel ih =>
   intro listed a w hcn inv
   have hs : listed.size = ops.size := by rcases inv with inv | ⟨_, inv⟩ <;> exact inv.size
   refine ⟨fun h => fin listed a w (all_of_ready hch hs h) inv, fun i hi => ?_⟩
   obtain ⟨h0, o, ho, hr⟩ := mem_ready.1 hi
   have hin := (Array.getElem?_eq_some_iff.1 ho).1
   have hun : lst listed i = false := by
     have hsz : i < listed.size := by omega
     unfold lst
     simp only [Array.getD_eq_getD_getElem?, Array.getElem?_eq_getElem hsz, Option.getD_some] at h0 ⊢
     exact h0
   have hcnt : cnt (listed.setIfInBounds i true) ops.size = fuel := by
     have := cnt_set (listed := listed) (by omega) hun ops.size
     rw [if_pos hin] at this; omega
   have ih2 : ∀ a' w', (∃ q, Inv2 P ops I tight (Q .normal) late news ord a0 v q (listed.setIfInBounds i true) a' w') → wpAny P .any ops Q fuel (listed.setIfInBounds i true) a' w' := fun a' w' h => ih _ _ _ hcnt (.inr h)
   have hd : dstOf ops i = o.dst := by simp [dstOf, ho]
   cases hoi : ord.contains i
   · rcases inv with inv | ⟨p, inv⟩
     · have hl := look1 hch hc hA0 hst1 inv hoi ho hr hun
       have look := look_same (ops := ops) (o := o) (a := a) (a' := A i) (fun cs b => Region.noSelect_spec hsel i o cs b ho) hl
       unfold wpOp
       rw [ho]
       simp only
       rw [look.2]
       cases hn : news.contains i
       · obtain ⟨_, o', ho', hfix⟩ := (hstep i hin).2.2 hoi hn
         rw [ho] at ho'; cases ho'
         rcases hfix with ⟨hw, hq⟩ | ⟨hw, hv⟩
         · rw [if_pos hw]
           exact .inl (gq_wp look.1 (hq w (by split; exact hGI w inv.gr; exact inv.gr)) fun w' hg => ih _ _ _ hcnt (.inl (inv1_fix hch hstable inv hoi ho hr hn hg)))
         · rw [if_neg (by rw [hw]; simp), ← hv]
           exact ih _ _ _ hcnt (.inl (inv1_fix hch hstable inv hoi ho hr hn (Gr.refl w)))
       · obtain ⟨_, o', ho', hw, _, hq⟩ := (hstep i hin).2.1 hoi hn
         rw [ho] at ho'; cases ho'
         rw [if_pos hw]
         exact .inl (nq_wp look.1 (hq w inv.gr) fun x w' hg hN => ih _ _ _ hcnt (.inl (inv1_new hch hstable inv hoi ho hr hun hn hg hN)))
     · have hl : late.contains i = true := by
         cases h : late.contains i
         · rw [inv.head i hin hoi h] at hun; cases hun
         · rfl
       have hn := (hc.late_no i hl).2.1
       obtain ⟨A', h1, h2, h3, h4⟩ := inv.ideal
       obtain ⟨g1, g2, g3⟩ := acts_reg hch hst1 i (Nat.le_of_lt hin)
       rw [hA0] at g1 g2 g3
       have hl1 : ∀ t ∈ o.looksAt ops, a.tmps[t]? = (A i).tmps[t]? := by
         intro t ht
         rcases Nat.lt_or_ge t a0.tmps.size with h | h
         · obtain ⟨c1, c2, c3, c4⟩ := h4 t h
           by_cases hex : ∃ j, dstOf ops j = some t
           · obtain ⟨j, hj⟩ := hex
             rcases ((chk_pair hch ho (dst_lt hj)).2 t hj).2 ht with ⟨hji, hb⟩ | ⟨hij, hb⟩
             · have hlj := listed_of_bef hch inv.closed i o ho hr j hb (dst_lt hj)
               have hnj : news.contains j = false := by
                 cases hnj : news.contains j
                 · rfl
                 · exact absurd ht (hc.look_new i o ho hoi j t hnj hj)
               have hoj : ord.contains j = false := by
                 cases h5 : ord.contains j
                 · rfl
                 · have := (hc.look_head i o ho hoi j t hj ht h5).1; omega
               rw [c2 (fun j' _ hun' hd' => by rw [uniq hch hd' hj, hlj] at hun'; cases hun'), c3 j hoj hnj hj, (g3 t h).1 j hji (skip_no hnj hoj) hj]
             · have hlj : lst listed j = false := by
                 cases hlj : lst listed j
                 · rfl
                 · obtain ⟨oj, hoj⟩ : ∃ oj, ops[j]? = some oj := ⟨ops[j]'(dst_lt hj), Array.getElem?_eq_getElem _⟩
                   have := listed_of_bef hch inv.closed j oj hoj (fun e he hbb => inv.closed j oj hoj hlj e he hbb) i hb hin
                   rw [hun] at this; cases this
               have hA : (A i).tmps[t]? = a0.tmps[t]? := (g3 t h).2 fun j' hj' _ hd' => by rw [uniq hch hd' hj] at hj'; omega
               rw [hA]
               cases hoj : ord.contains j
               · have hlate2 : late.contains j = true := by
                   cases h6 : late.contains j
                   · rw [inv.head j (dst_lt hj) hoj h6] at hlj; cases hlj
                   · rfl
                 exact c1 j hlate2 hlj hj
               · rw [c2 (fun j' hl' _ hd' => by have := uniq hch hd' hj; rw [this] at hl'; rw [(hc.late_no j hl').2.2] at hoj; cases hoj),
                   c4 fun j' hj' hd' => by
                     have e := uniq hch hd' hj
                     subst e
                     rcases hj' with hj' | ⟨s, hs, hsj⟩
                     · rw [hj'] at hoj; cases hoj
                     · rw [inv.done s j' hsj hs] at hlj; cases hlj]
           · rw [c2 (fun j' _ _ hd' => hex ⟨j', hd'⟩), c4 (fun j' _ hd' => hex ⟨j', hd'⟩), (g3 t h).2 fun j' _ _ hd' => hex ⟨j', hd'⟩]
         · rw [Array.getElem?_eq_none (by rw [inv.sz]; exact h), Array.getElem?_eq_none (by rw [g2]; exact h)]
       have look := look_same (ops := ops) (o := o) (a := a) (a' := A i) (fun cs b => Region.noSelect_spec hsel i o cs b ho) hl1
       obtain ⟨_, o', ho', hfix⟩ := (hstep i hin).2.2 hoi hn
       rw [ho] at ho'; cases ho'
       unfold wpOp
       rw [ho]
       simp only
       rw [look.2]
       rcases hfix with ⟨hw, hq⟩ | ⟨hw, hv⟩
       · rw [if_pos hw]
         have hq' := hq w (by
           rw [if_pos hl]
           rcases inv.iw with h | h
           · rw [h i hl] at hun; cases hun
           · exact h)
         rw [hl] at hq'
         exact .inl (gq_late look.1 hq' (ih2 _ _ ⟨p, inv2_late hch hc inv hl ho hr⟩))
       · rw [if_neg (by rw [hw]; simp), ← hv]
         exact ih2 _ _ ⟨p, inv2_late hch hc inv hl ho hr⟩
   · obtain ⟨s, hs⟩ := ordmem i hoi
     rcases inv with inv | ⟨p, inv⟩
     · have hs0 : s = 0 := by
         cases s with
         | zero => rfl
         | succ s =>
           obtain ⟨h5, _⟩ := List.getElem?_eq_some_iff.1 hs
           have hp : ord[s]? = some ord[s] := List.getElem?_eq_getElem (by omega)
           have hpo : ord.contains ord[s] = true := by simp
           have := listed_of_bef hch inv.closed i o ho hr _ (hc.chain s _ i hp hs) (hc.ord_lt _ hpo)
           rw [inv.later _ hpo] at this; cases this
       subst hs0
       have hall : ∀ j, j < ops.size → ord.contains j = false → late.contains j = false → lst listed j = true := fun j hj hoj hlj =>
         listed_of_bef hch inv.closed i o ho hr j (hc.first i hs j hj hoj hlj) hj
       exact chain fuel listed a w 0 i o hs ih2 (inv2_start hch hc hA0 hst1 inv hall (hGI w inv.gr) (hend w inv.gr)) ho hr
     · have hsp : s = p := by
         rcases Nat.lt_or_ge s p with h | h
         · rw [inv.done s i hs h] at hun; cases hun
         · by_cases hne : s = p
           · exact hne
           · obtain ⟨s', rfl⟩ : ∃ s', s = s' + 1 := ⟨s - 1, by omega⟩
             obtain ⟨h5, _⟩ := List.getElem?_eq_some_iff.1 hs
             have hp : ord[s']? = some ord[s'] := List.getElem?_eq_getElem (by omega)
             have hpo : ord.contains ord[s'] = true := by simp
             have := listed_of_bef hch inv.closed i o ho hr _ (hc.chain s' _ i hp hs) (hc.ord_lt _ hpo)
             rw [inv.todo s' _ hp (by omega)] at this; cases this
       subst hsp
       exact chain fuel listed a w s i o hs ih2 inv ho hr
end
theorem walk1_nil {Q : Act → List (Option Tmp × NPred) → Prop} {k : Nat} {a : Act} {L : List (Option Tmp × NPred)} (h : Q a L) : Walk1 P ops W I late news ord Q [] k a L := h
theorem walk1_ord {Q : Act → List (Option Tmp × NPred) → Prop} {o : Oper} {r : List Oper} {k : Nat} {a : Act} {L : List (Option Tmp × NPred)} (ho : ord.contains k = true) (h : Walk1 P ops W I late news ord Q r (k + 1) a L) : Walk1 P ops W I late news ord Q (o :: r) k a L := by
 unfold Walk1; rw [if_pos ho]; exact h
theorem walk1_no {Q : Act → List (Option Tmp × NPred) → Prop} {o : Oper} {r : List Oper} {k : Nat} {a : Act} {L : List (Option Tmp × NPred)} (ho : ord.contains k = false) (hn : news.contains k = false) (hw : Region.wanted o (yielded ops a.tmps) = false)
   (h : ∀ K : Act → Prop, (∀ a', Walk1 P ops W I late news ord Q r (k + 1) a' L → K a') → K (a.put o.dst undef)) : Walk1 P ops W I late news ord Q (o :: r) k a L := by
 have h := h _ (fun _ h => h)
 unfold Walk1; rw [if_neg (by rw [ho]; simp), if_neg (by rw [hn]; simp), if_neg (by rw [hw]; simp)]; exact h
theorem walk1_gr {Q : Act → List (Option Tmp × NPred) → Prop} {o : Oper} {r : List Oper} {k : Nat} {a : Act} {L : List (Option Tmp × NPred)} (ho : ord.contains k = false) (hn : news.contains k = false) (hl : late.contains k = false) (hw : Region.wanted o (yielded ops a.tmps) = true)
   (h : ∀ K : Act → Prop, (∀ a', Walk1 P ops W I late news ord Q r (k + 1) a' L → K a') → ∃ v, (∀ w, Gr W w → gq P o a w v false) ∧ K (a.put o.dst v)) : Walk1 P ops W I late news ord Q (o :: r) k a L := by
 obtain ⟨v, hq, h⟩ := h _ (fun _ h => h)
 unfold Walk1; rw [if_neg (by rw [ho]; simp), if_neg (by rw [hn]; simp), if_pos hw]; exact ⟨v, fun w hw' => by rw [hl] at hw' ⊢; exact hq w hw', h⟩
theorem walk1_late {Q : Act → List (Option Tmp × NPred) → Prop} {o : Oper} {r : List Oper} {k : Nat} {a : Act} {L : List (Option Tmp × NPred)} (ho : ord.contains k = false) (hn : news.contains k = false) (hl : late.contains k = true) (hw : Region.wanted o (yielded ops a.tmps) = true)
   (h : ∀ K : Act → Prop, (∀ a', Walk1 P ops W I late news ord Q r (k + 1) a' L → K a') → ∃ v, (∀ w, I w → gq P o a w v true) ∧ K (a.put o.dst v)) : Walk1 P ops W I late news ord Q (o :: r) k a L := by
 obtain ⟨v, hq, h⟩ := h _ (fun _ h => h)
 unfold Walk1; rw [if_neg (by rw [ho]; simp), if_neg (by rw [hn]; simp), if_pos hw]; exact ⟨v, fun w hw' => by rw [hl] at hw' ⊢; exact hq w hw', h⟩
theorem walk1_new {Q : Act → List (Option Tmp × NPred) → Prop} {o : Oper} {r : List Oper} {k : Nat} {a : Act} {L : List (Option Tmp × NPred)} (N : NPred) (ho : ord.contains k = false) (hn : news.contains k = true) (hw : Region.wanted o (yielded ops a.tmps) = true)
   (hs : Stable N) (hq : ∀ w, Gr W w → nq P o a w N) (h : Walk1 P ops W I late news ord Q r (k + 1) a (L ++ [(o.dst, N)])) : Walk1 P ops W I late news ord Q (o :: r) k a L := by
 unfold Walk1; rw [if_neg (by rw [ho]; simp), if_pos hn]; exact ⟨hw, N, hs, hq, h⟩
theorem walk1_box {Q : Act → List (Option Tmp × NPred) → Prop} {o : Oper} {r : List Oper} {k : Nat} {a : Act} {L : List (Option Tmp × NPred)} (ho : ord.contains k = false) (hn : news.contains k = true) (hw : Region.wanted o (yielded ops a.tmps) = true)
   (h : ∃ ob, (∀ w, Gr W w → nq P o a w (Sched.NBlock ob)) ∧ Walk1 P ops W I late news ord Q r (k + 1) a (L ++ [(o.dst, Sched.NBlock ob)])) : Walk1 P ops W I late news ord Q (o :: r) k a L := by
 obtain ⟨ob, hq, h⟩ := h
 exact walk1_new (Sched.NBlock ob) ho hn hw (Sched.NBlock.stable ob) hq h
theorem walk2_nil {Q : Act → World → Prop} {a : Act} {w : World} (h : Q a w) : Walk2 P ops I tight Q [] a w := h
theorem walk2_no {Q : Act → World → Prop} {o : Oper} {r : List Oper} {a : Act} {w : World} (hw : Region.wanted o (yielded ops a.tmps) = false) (h : ∀ K : Act → Prop, (∀ a', Walk2 P ops I tight Q r a' w → K a') → K (a.put o.dst undef)) : Walk2 P ops I tight Q (o :: r) a w := by
 have h := h _ (fun _ h => h)
 unfold Walk2; rw [if_neg (by rw [hw]; simp)]; exact h
theorem walk2_go {Q : Act → World → Prop} {o : Oper} {r : List Oper} {a : Act} {w : World} (hw : Region.wanted o (yielded ops a.tmps) = true) (h : ∀ K : Act → World → Prop, (∀ a w, ((tight = true ∧ r = []) ∨ I w) → Walk2 P ops I tight Q r a w → K a w) → tq P o a w K) : Walk2 P ops I tight Q (o :: r) a w := by
 unfold Walk2; rw [if_pos hw]; exact h _ (fun _ _ h1 h2 => ⟨h1, h2⟩)
attribute [go_sem] gq
theorem wp_region_sched {id : Nat} {Q : Exit → Act → World → Prop} {a : Act} {W : World} {l : List Oper} (I : World → Prop) (late news ord : List Nat) (tight : Bool) (hGI : ∀ w, Gr W w → I w) (hm : P.follows .mixedOrders = true)
   (hchk : (Region.noSelect l.toArray && chk1 l.toArray (Region.before l.toArray) && chk2 l.toArray (Region.before l.toArray) late news ord tight) = true)
   (h : Walk1 P l.toArray W I late news ord (fun a' L => ∀ w', Gr W w' → EndN W w' (fun a'' => Walk2 P l.toArray I tight (Q .normal) (lasts l.toArray ord) a'' w') L [] a') l 0 a []) :
   (Code.region id l.toArray true).wp P Q a W := by
 simp only [Bool.and_eq_true] at hchk
 obtain ⟨⟨hsel, hch⟩, hc2⟩ := hchk
 have hc := chk_of hc2
 obtain ⟨A, v, N, hA0, hstep, hend⟩ := walk1_ext (fun k hk => (hc.news_no k hk).2) l 0 a [] (fun j hj => by simp) h
 refine wp_region_any hm (sched_any hch hc hsel (A := A) (v := v) (N := N) hA0 hGI (fun i hi => hstep i (Nat.zero_le _) (by simpa using hi)) (fun w' hw' => ?_) _ _ _ _ ?_ (.inl ?_))
 · simpa using hend w' hw'
 · have : ∀ k, k ≤ l.toArray.size → cnt (Array.replicate l.toArray.size false) k = k := by
     intro k
     induction k with
     | zero => intro _; rfl
     | succ k ih =>
       intro hk
       have e : lst (Array.replicate l.toArray.size false) k = false := by
         unfold lst; simp only [Array.getD_eq_getD_getElem?]; rw [Array.getElem?_eq_getElem (by simp only [Array.size_replicate]; omega)]; simp
       simp only [cnt, e, ih (by omega)]; simp
   exact this _ (Nat.le_refl _)
 · have e : ∀ k, lst (Array.replicate l.toArray.size false) k = false := by
     intro k
     unfold lst
     simp only [Array.getD_eq_getD_getElem?, Array.getElem?_replicate]
     split <;> rfl
   have no : ∀ {k : Nat} {p : Prop}, lst (Array.replicate l.toArray.size false) k = true → p := fun {k p} h => by rw [e k] at h; cases h
   exact ⟨by simp, fun i o ho hl => no hl, fun i _ => e i, ⟨rfl, rfl, rfl, Nat.le_refl _, fun _ _ _ => rfl⟩, rfl, rfl,
     fun _ => undef, fun _ => 0, fun _ => 0, fun t ht j hj hl => no hl, fun t ht _ => rfl, fun j hj hl => no hl, fun i j _ _ _ hl _ => no hl⟩
end Sched2
end Go.Proofs.YtlnkofpcidngoaaDoor
