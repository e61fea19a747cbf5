/- Layer 05 (packet): Valid of the program. -/
import Derived.Test.YtlnkofpcidngoaaDoorA0
import Derived.Test.YtlnkofpcidngoaaDoorA3
import Derived.Test.YtlnkofpcidngoaaDoorA4
import Derived.Deep.Cut
namespace Go.Proofs.YtlnkofpcidngoaaDoor
open Go.ChangeShapes Go.WideShapes Go.ChangeAt Go.RowKit
def commonP (h : Hdr) : Bool := allB 255 [h.tos, h.ttl] && (allB 65535 [h.id, h.fport, h.tport, h.check] && (allB 1 [h.fixed] && allB 4294967295 [h.frm, h.to]))
theorem common_eq (h : Hdr) : commonP h = commonB h := by
 simp only [commonP, commonB, allB, List.all_cons, List.all_nil, Bool.and_true]
 cases inB h.tos 255 <;> cases inB h.ttl 255 <;> cases inB h.id 65535 <;> cases inB h.fport 65535 <;> cases inB h.tport 65535 <;> cases inB h.check 65535 <;> cases inB h.fixed 1 <;> cases inB h.frm 4294967295 <;> cases inB h.to 4294967295 <;> rfl
def HOk (h : Hdr) : Prop := i64 h.kind ∧ i64 h.tos ∧ i64 h.id ∧ i64 h.fixed ∧ i64 h.ttl ∧ i64 h.frm ∧ i64 h.to ∧ i64 h.fport ∧ i64 h.tport ∧ i64 h.check ∧ i64 h.marker ∧ i64 h.type ∧ i64 h.seq ∧ i64 h.time ∧ i64 h.source
theorem rdl {w : World} (xs : List Int) (hx : ∀ x ∈ xs, i64 x) (len : Nat) (hl : xs.length = len) (hm : len ≤ 100) : Rd .i64 (w.alloc (.cells (xs.map (Value.int .i64)).toArray 3)) (some ⟨w.heap.size, 0, none⟩) len xs :=
 rd_new xs _ _ len hl (by simp only [maxLen]; omega) (fun y hy => WalkArith.wf_i64 (hx y hy))
theorem upto1 {g a : Int} {F : Bool} (h : allB g [a] = F) (w1 : World) (h1 : i64 a) : Calls Tryd.prog 102 #[.int .i64 g, .slice (some ⟨w1.heap.size, 0, none⟩) 1 1] (w1.alloc (.cells #[.int .i64 a] 3)) fun e w' => e = .returned (.bool F) ∧ w1.alloc (.cells #[.int .i64 a] 3) = w' :=
 h ▸ upto_any g _ 1 1 [a] _ (rdl [a] (by simpa using h1) 1 rfl (by omega))
theorem upto2 {g a b : Int} {F : Bool} (h : allB g [a, b] = F) (w1 : World) (h1 : i64 a) (h2 : i64 b) : Calls Tryd.prog 102 #[.int .i64 g, .slice (some ⟨w1.heap.size, 0, none⟩) 2 2] (w1.alloc (.cells #[.int .i64 a, .int .i64 b] 3)) fun e w' => e = .returned (.bool F) ∧ w1.alloc (.cells #[.int .i64 a, .int .i64 b] 3) = w' :=
 h ▸ upto_any g _ 2 2 [a, b] _ (rdl [a, b] (by simp; exact ⟨h1, h2⟩) 2 rfl (by omega))
theorem upto4 {g a b c d : Int} {F : Bool} (h : allB g [a, b, c, d] = F) (w1 : World) (h1 : i64 a) (h2 : i64 b) (h3 : i64 c) (h4 : i64 d) : Calls Tryd.prog 102 #[.int .i64 g, .slice (some ⟨w1.heap.size, 0, none⟩) 4 4] (w1.alloc (.cells #[.int .i64 a, .int .i64 b, .int .i64 c, .int .i64 d] 3)) fun e w' => e = .returned (.bool F) ∧ w1.alloc (.cells #[.int .i64 a, .int .i64 b, .int .i64 c, .int .i64 d] 3) = w' :=
 h ▸ upto_any g _ 4 4 [a, b, c, d] _ (rdl [a, b, c, d] (by simp; exact ⟨h1, h2, h3, h4⟩) 4 rfl (by omega))
theorem HBlk.at {g : Nat} {h : Hdr} {w : World} (hb : HBlk g h w) (i : Nat) {v : Value} (hv : (HVal h).cells[i]? = some v) : w.cell? ⟨g, i, none⟩ = some v := by
 rw [cell_of_block hb]; exact hv
set_option maxRecDepth 100000 in
set_option maxHeartbeats 4000000 in
theorem pvalid_any (h : Hdr) (w : World) (ho : HOk h) : Calls Tryd.prog 94 #[HVal h] w fun e w' => e = .returned (.bool (validH h)) ∧ Gr w w' := by
 obtain ⟨o0, o1, o2, o3, o4, o5, o6, o7, o8, o9, o10, o11, o12, o13, o14⟩ := ho
 have O := zqd (And.intro o1 (And.intro o4 (And.intro o2 (And.intro o7 (And.intro o8 (And.intro o9 (And.intro o3 (And.intro o5 o6))))))))
 have O2 := zqd (And.intro o10 (And.intro o11 (And.intro o12 (And.intro o13 o14))))
 clear o0 o1 o2 o3 o4 o5 o6 o7 o8 o9 o10 o11 o12 o13 o14
 go_enter Tryd.func94, Tryd.ntmps94
 go_upto_region 1 with (fail)
 obtain ⟨w1, hw1⟩ : ∃ y, y = w.alloc (.cells #[.int .i64 h.kind, .int .i64 h.tos, .int .i64 h.id, .int .i64 h.fixed, .int .i64 h.ttl, .int .i64 h.frm, .int .i64 h.to, .int .i64 h.fport, .int .i64 h.tport, .int .i64 h.check, .int .i64 h.marker, .int .i64 h.type, .int .i64 h.seq, .int .i64 h.time, .int .i64 h.source] 49) := ⟨_, rfl⟩
 rw [← hw1]
 have HB1 := zqd (show HBlk w.heap.size h w1 by rw [hw1]; exact heap_alloc_new _ _)
 have HG1 := zqd (show Gr w w1 by rw [hw1]; exact Gr.alloc _ _)
 clear hw1
 obtain ⟨C, hC⟩ : ∃ C, commonP h = C := ⟨_, rfl⟩
 have HC := zqd hC
 clear hC
 go_cut [3] from 4 (fun s wc => s = .bool C ∧ Gr w wc ∧ HBlk w.heap.size h wc)
 case first =>
  obtain ⟨E1, h1⟩ : ∃ b, allB 255 [h.tos, h.ttl] = b := ⟨_, rfl⟩
  obtain ⟨E2, h2⟩ : ∃ b, allB 65535 [h.id, h.fport, h.tport, h.check] = b := ⟨_, rfl⟩
  obtain ⟨E3, h3⟩ : ∃ b, allB 1 [h.fixed] = b := ⟨_, rfl⟩
  obtain ⟨E4, h4⟩ : ∃ b, allB 4294967295 [h.frm, h.to] = b := ⟨_, rfl⟩
  have HCP := zqd (show C = (E1 && (E2 && (E3 && E4))) by rw [← HC.out, commonP, h1, h2, h3, h4])
  have H1 := zqd h1
  have H2 := zqd h2
  have H3 := zqd h3
  have H4 := zqd h4
  clear h1 h2 h3 h4
  have c1 := HB1.out.at 1 rfl
  have c4 := HB1.out.at 4 rfl
  go_wp2_with fail
  refine (upto2 H1.out w1 O.out.1 O.out.2.1).mono ?_
  rintro e w' ⟨rfl, rfl⟩
  obtain ⟨w2, hw2⟩ : ∃ y, y = (w1).alloc (.cells #[.int .i64 h.tos, .int .i64 h.ttl] 3) := ⟨_, rfl⟩
  rw [← hw2]
  have hg2 : Gr w1 w2 := by rw [hw2]; exact Gr.alloc _ _
  have HB2 := zqd ((HB1).out.kept hg2)
  have HG2 := zqd ((HG1).out.trans hg2)
  clear hw2 hg2
  clear c1 c4
  cases E1
  ·have hCf : C = false := HCP.out
   subst hCf
   go_wp2_with fail
   go_meet
   exact ⟨rfl, HG2.out, HB2.out⟩
  have c2 := HB2.out.at 2 rfl
  have c7 := HB2.out.at 7 rfl
  have c8 := HB2.out.at 8 rfl
  have c9 := HB2.out.at 9 rfl
  go_wp2_with fail
  refine (upto4 H2.out w2 O.out.2.2.1 O.out.2.2.2.1 O.out.2.2.2.2.1 O.out.2.2.2.2.2.1).mono ?_
  rintro e w' ⟨rfl, rfl⟩
  obtain ⟨w3, hw2⟩ : ∃ y, y = (w2).alloc (.cells #[.int .i64 h.id, .int .i64 h.fport, .int .i64 h.tport, .int .i64 h.check] 3) := ⟨_, rfl⟩
  rw [← hw2]
  have hg2 : Gr w2 w3 := by rw [hw2]; exact Gr.alloc _ _
  have HB3 := zqd ((HB2).out.kept hg2)
  have HG3 := zqd ((HG2).out.trans hg2)
  clear hw2 hg2
  clear c2 c7 c8 c9
  cases E2
  ·have hCf : C = false := HCP.out
   subst hCf
   go_wp2_with fail
   go_meet
   exact ⟨rfl, HG3.out, HB3.out⟩
  have c3 := HB3.out.at 3 rfl
  go_wp2_with fail
  refine (upto1 H3.out w3 O.out.2.2.2.2.2.2.1).mono ?_
  rintro e w' ⟨rfl, rfl⟩
  obtain ⟨w4, hw2⟩ : ∃ y, y = (w3).alloc (.cells #[.int .i64 h.fixed] 3) := ⟨_, rfl⟩
  rw [← hw2]
  have hg2 : Gr w3 w4 := by rw [hw2]; exact Gr.alloc _ _
  have HB4 := zqd ((HB3).out.kept hg2)
  have HG4 := zqd ((HG3).out.trans hg2)
  clear hw2 hg2
  clear c3
  cases E3
  ·have hCf : C = false := HCP.out
   subst hCf
   go_wp2_with fail
   go_meet
   exact ⟨rfl, HG4.out, HB4.out⟩
  have c5 := HB4.out.at 5 rfl
  have c6 := HB4.out.at 6 rfl
  go_wp2_with fail
  refine (upto2 H4.out w4 O.out.2.2.2.2.2.2.2.1 O.out.2.2.2.2.2.2.2.2).mono ?_
  rintro e w' ⟨rfl, rfl⟩
  obtain ⟨w5, hw2⟩ : ∃ y, y = (w4).alloc (.cells #[.int .i64 h.frm, .int .i64 h.to] 3) := ⟨_, rfl⟩
  rw [← hw2]
  have hg2 : Gr w4 w5 := by rw [hw2]; exact Gr.alloc _ _
  have HB5 := zqd ((HB4).out.kept hg2)
  have HG5 := zqd ((HG4).out.trans hg2)
  clear hw2 hg2
  clear c5 c6
  obtain rfl : C = E4 := HCP.out
  go_wp2_with fail
  go_meet
  exact ⟨rfl, HG5.out, HB5.out⟩
 case rest =>
  obtain ⟨rfl, hgc, hbc⟩ := hcut
  have HGC := zqd hgc
  have HBC := zqd hbc
  have HV := zqd (show validH h = (kindB h && (C && restB h)) by rw [validH, ← common_eq, HC.out])
  clear hgc hbc HB1 HG1 HC
  have c0 := HBC.out.at 0 rfl
  by_cases hk1 : h.kind = 1
  ·have k1 : (h.kind == 1) = true := by simpa using hk1
   have HW := zqd (show validH h = (C && (h.marker == 0 && h.type == 0 && h.seq == 0 && h.time == 0 && h.source == 0)) by rw [HV.out, kindB, restB, k1]; simp)
   clear hk1
   have c10 := HBC.out.at 10 rfl
   have c11 := HBC.out.at 11 rfl
   have c12 := HBC.out.at 12 rfl
   have c13 := HBC.out.at 13 rfl
   have c14 := HBC.out.at 14 rfl
   cases C
   ·go_wp2_with fail
    go_ret
    exact ⟨ret_bool HW.out.symm, HGC.out⟩
   ·go_wp2_with fail
    all_goals (go_ret; exact ⟨ret_bool (by rw [HW.out]; simp_all), HGC.out⟩)
  ·by_cases hk2 : h.kind = 2
   ·have k1 : (h.kind == 1) = false := by simpa using hk1
    have k2 : (h.kind == 2) = true := by simpa using hk2
    obtain ⟨E1, h1⟩ : ∃ b, allB 1 [h.marker] = b := ⟨_, rfl⟩
    obtain ⟨E2, h2⟩ : ∃ b, allB 127 [h.type] = b := ⟨_, rfl⟩
    obtain ⟨E3, h3⟩ : ∃ b, allB 65535 [h.seq] = b := ⟨_, rfl⟩
    obtain ⟨E4, h4⟩ : ∃ b, allB 4294967295 [h.time, h.source] = b := ⟨_, rfl⟩
    have HW := zqd (show validH h = (C && (E1 && (E2 && (E3 && E4)))) by
     rw [HV.out, kindB, restB, k1, k2, ← h1, ← h2, ← h3, ← h4]
     simp [allB, Bool.and_assoc])
    have H1 := zqd h1
    have H2 := zqd h2
    have H3 := zqd h3
    have H4 := zqd h4
    clear h1 h2 h3 h4 hk1 hk2 HV
    cases C
    ·go_wp2_with fail
     go_ret
     exact ⟨ret_bool HW.out.symm, HGC.out⟩
    have c10 := HBC.out.at 10 rfl
    go_wp2_with fail
    refine (upto1 H1.out wc O2.out.1).mono ?_
    rintro e w' ⟨rfl, rfl⟩
    obtain ⟨w2, hw2⟩ : ∃ y, y = (wc).alloc (.cells #[.int .i64 h.marker] 3) := ⟨_, rfl⟩
    rw [← hw2]
    have hg2 : Gr wc w2 := by rw [hw2]; exact Gr.alloc _ _
    have HB2 := zqd ((HBC).out.kept hg2)
    have HG2 := zqd ((HGC).out.trans hg2)
    clear hw2 hg2
    clear c0 c10
    cases E1
    ·go_wp2_with fail
     go_ret
     exact ⟨ret_bool HW.out.symm, HG2.out⟩
    have c11 := HB2.out.at 11 rfl
    go_wp2_with fail
    refine (upto1 H2.out w2 O2.out.2.1).mono ?_
    rintro e w' ⟨rfl, rfl⟩
    obtain ⟨w3, hw2⟩ : ∃ y, y = (w2).alloc (.cells #[.int .i64 h.type] 3) := ⟨_, rfl⟩
    rw [← hw2]
    have hg2 : Gr w2 w3 := by rw [hw2]; exact Gr.alloc _ _
    have HB3 := zqd ((HB2).out.kept hg2)
    have HG3 := zqd ((HG2).out.trans hg2)
    clear hw2 hg2
    clear c11
    cases E2
    ·go_wp2_with fail
     go_ret
     exact ⟨ret_bool HW.out.symm, HG3.out⟩
    have c12 := HB3.out.at 12 rfl
    go_wp2_with fail
    refine (upto1 H3.out w3 O2.out.2.2.1).mono ?_
    rintro e w' ⟨rfl, rfl⟩
    obtain ⟨w4, hw2⟩ : ∃ y, y = (w3).alloc (.cells #[.int .i64 h.seq] 3) := ⟨_, rfl⟩
    rw [← hw2]
    have hg2 : Gr w3 w4 := by rw [hw2]; exact Gr.alloc _ _
    have HB4 := zqd ((HB3).out.kept hg2)
    have HG4 := zqd ((HG3).out.trans hg2)
    clear hw2 hg2
    clear c12
    cases E3
    ·go_wp2_with fail
     go_ret
     exact ⟨ret_bool HW.out.symm, HG4.out⟩
    have c13 := HB4.out.at 13 rfl
    have c14 := HB4.out.at 14 rfl
    go_wp2_with fail
    refine (upto2 H4.out w4 O2.out.2.2.2.1 O2.out.2.2.2.2).mono ?_
    rintro e w' ⟨rfl, rfl⟩
    obtain ⟨w5, hw2⟩ : ∃ y, y = (w4).alloc (.cells #[.int .i64 h.time, .int .i64 h.source] 3) := ⟨_, rfl⟩
    rw [← hw2]
    have hg2 : Gr w4 w5 := by rw [hw2]; exact Gr.alloc _ _
    have HB5 := zqd ((HB4).out.kept hg2)
    have HG5 := zqd ((HG4).out.trans hg2)
    clear hw2 hg2
    clear c13 c14
    go_wp2_with fail
    go_ret
    exact ⟨ret_bool HW.out.symm, HG5.out⟩
   ·have k1 : (h.kind == 1) = false := by simpa using hk1
    have k2 : (h.kind == 2) = false := by simpa using hk2
    have hv : validH h = false := by rw [HV.out, kindB, k1, k2]; rfl
    have HW := zqd hv
    clear hv HV hk1 hk2
    go_wp2_with fail
    go_ret
    exact ⟨ret_bool HW.out.symm, HGC.out⟩
end Go.Proofs.YtlnkofpcidngoaaDoor