/- Layer 29 (harq): processes; Valid of both sides. -/
import Derived.Test.YtcleegibdcphiaaDoorHarD
import Derived.Test.YtcleegibdcphiaaDoorMemC
namespace Go.Proofs.YtcleegibdcphiaaDoor
open Go.ChangeShapes Go.WideShapes Go.ChangeAt Go.RowKit

structure Pc where
  act : Bool
  a : Option Addr
  len : Nat
  cap : Nat
  coded : Int
  fresh : Int
  ver : Int
  tries : Int
def PCells (p : Pc) : Array Value := #[.bool p.act, .slice p.a p.len p.cap, .int .i64 p.coded, .int .i64 p.fresh, .int .i64 p.ver, .int .i64 p.tries]
def PVal (p : Pc) : Value := .agg #[.bool p.act, .slice p.a p.len p.cap, .int .i64 p.coded, .int .i64 p.fresh, .int .i64 p.ver, .int .i64 p.tries]
def PBlk (g : Nat) (p : Pc) (w : World) : Prop := w.heap[g]? = some (.cells (PCells p) 24 (0, 0))
theorem PBlk.kept {g : Nat} {p : Pc} {w w' : World} (h : PBlk g p w) (hg : Gr w w') : PBlk g p w' := (hg.block g (heap_lt h) (by simp)).trans h
def inPc (p : Pc) : Bool := decide (0 ≤ p.fresh ∧ p.fresh ≤ 1 ∧ 0 ≤ p.ver ∧ p.ver < 4 ∧ 0 ≤ p.tries ∧ p.tries ≤ 32)
def sizedB (n : Int) : Bool := decide (1 ≤ n ∧ n ≤ 256)
def codedB (n : Int) : Bool := decide (1 ≤ n ∧ n ≤ 1152)
def validPc (p : Pc) : Bool := inPc p && (!p.act || sizedB p.len && codedB p.coded)
theorem sized_any (n : Int) (w : World) : Calls Tryd.prog 36 #[.int .i64 n] w fun e w' => e = .returned (.bool (sizedB n)) ∧ w = w' := by
  unfold sizedB
  go_enter Tryd.func36, Tryd.ntmps36
  by_cases h1 : 1 ≤ n
  · by_cases h2 : n ≤ 256
    · rw [decide_eq_true (And.intro h1 h2)]
      go_wp2_with fail
      go_ret
      exact ⟨rfl, rfl⟩
    · rw [decide_eq_false (fun h => h2 h.2)]
      go_wp2_with fail
      go_ret
      exact ⟨rfl, rfl⟩
  · rw [decide_eq_false (fun h => h1 h.1)]
    go_wp2_with fail
    go_ret
    exact ⟨rfl, rfl⟩
theorem coded_any (n : Int) (w : World) : Calls Tryd.prog 37 #[.int .i64 n] w fun e w' => e = .returned (.bool (codedB n)) ∧ w = w' := by
  unfold codedB
  go_enter Tryd.func37, Tryd.ntmps37
  by_cases h1 : 1 ≤ n
  · by_cases h2 : n ≤ 1152
    · rw [decide_eq_true (And.intro h1 h2)]
      go_wp2_with fail
      go_ret
      exact ⟨rfl, rfl⟩
    · rw [decide_eq_false (fun h => h2 h.2)]
      go_wp2_with fail
      go_ret
      exact ⟨rfl, rfl⟩
  · rw [decide_eq_false (fun h => h1 h.1)]
    go_wp2_with fail
    go_ret
    exact ⟨rfl, rfl⟩
theorem inPc_no {p : Pc} (h : ¬ (0 ≤ p.fresh ∧ p.fresh ≤ 1 ∧ 0 ≤ p.ver ∧ p.ver < 4 ∧ 0 ≤ p.tries ∧ p.tries ≤ 32)) : validPc p = false := by
  unfold validPc inPc; rw [decide_eq_false h]; rfl
theorem inPc_yes {p : Pc} (h : 0 ≤ p.fresh ∧ p.fresh ≤ 1 ∧ 0 ≤ p.ver ∧ p.ver < 4 ∧ 0 ≤ p.tries ∧ p.tries ≤ 32) : validPc p = (!p.act || sizedB p.len && codedB p.coded) := by
  unfold validPc inPc; rw [decide_eq_true h]; rfl
theorem sized_is {n : Int} {b : Bool} (h : sizedB n = b) (w : World) : Calls Tryd.prog 36 #[.int .i64 n] w fun e w' => e = .returned (.bool b) ∧ w = w' := h ▸ sized_any n w
theorem coded_is {n : Int} {b : Bool} (h : codedB n = b) (w : World) : Calls Tryd.prog 37 #[.int .i64 n] w fun e w' => e = .returned (.bool b) ∧ w = w' := h ▸ coded_any n w
set_option maxRecDepth 20000 in
set_option maxHeartbeats 2000000 in
theorem hvalid_any (p : Pc) (w : World) : Calls Tryd.prog 15 #[PVal p] w fun e w' => e = .returned (.bool (validPc p)) ∧ Gr w w' := by
  unfold PVal
  obtain ⟨R, hR⟩ : ∃ R, validPc p = R := ⟨_, rfl⟩
  rw [hR]
  have HVR := Lib.hid hR
  clear hR
  go_enter Tryd.func15, Tryd.ntmps15
  go_upto_region 1 with (fail)
  obtain ⟨w1, hw1⟩ : ∃ y, y = w.alloc (.cells #[.bool p.act, .slice p.a p.len p.cap, .int .i64 p.coded, .int .i64 p.fresh, .int .i64 p.ver, .int .i64 p.tries] 24) := ⟨_, rfl⟩
  rw [← hw1]
  have hb : PBlk w.heap.size p w1 := by rw [hw1]; exact heap_alloc_new _ _
  have HG1 := Lib.hid (show Gr w w1 by rw [hw1]; exact Gr.alloc _ _)
  unfold PBlk PCells at hb
  have c0 : w1.cell? ⟨w.heap.size, 0, none⟩ = some (.bool p.act) := by rw [cell_of_block hb]; rfl
  have c1 : w1.cell? ⟨w.heap.size, 1, none⟩ = some (.slice p.a p.len p.cap) := by rw [cell_of_block hb]; rfl
  have c2 : w1.cell? ⟨w.heap.size, 2, none⟩ = some (.int .i64 p.coded) := by rw [cell_of_block hb]; rfl
  have c3 : w1.cell? ⟨w.heap.size, 3, none⟩ = some (.int .i64 p.fresh) := by rw [cell_of_block hb]; rfl
  have c4 : w1.cell? ⟨w.heap.size, 4, none⟩ = some (.int .i64 p.ver) := by rw [cell_of_block hb]; rfl
  have c5 : w1.cell? ⟨w.heap.size, 5, none⟩ = some (.int .i64 p.tries) := by rw [cell_of_block hb]; rfl
  clear hw1 hb
  by_cases h1 : 0 ≤ p.fresh
  case neg =>
    go_wp2_with fail
    go_ret
    exact ⟨by rw [show R = false by rw [← HVR.out, inPc_no (by intro h; omega)]]; rfl, HG1.out⟩
  by_cases h2 : p.fresh ≤ 1
  case neg =>
    go_wp2_with fail
    go_ret
    exact ⟨by rw [show R = false by rw [← HVR.out, inPc_no (by intro h; omega)]]; rfl, HG1.out⟩
  by_cases h3 : 0 ≤ p.ver
  case neg =>
    go_wp2_with fail
    go_ret
    exact ⟨by rw [show R = false by rw [← HVR.out, inPc_no (by intro h; omega)]]; rfl, HG1.out⟩
  by_cases h4 : p.ver < 4
  case neg =>
    go_wp2_with fail
    go_ret
    exact ⟨by rw [show R = false by rw [← HVR.out, inPc_no (by intro h; omega)]]; rfl, HG1.out⟩
  by_cases h5 : 0 ≤ p.tries
  case neg =>
    go_wp2_with fail
    go_ret
    exact ⟨by rw [show R = false by rw [← HVR.out, inPc_no (by intro h; omega)]]; rfl, HG1.out⟩
  by_cases h6 : p.tries ≤ 32
  case neg =>
    go_wp2_with fail
    go_ret
    exact ⟨by rw [show R = false by rw [← HVR.out, inPc_no (by intro h; omega)]]; rfl, HG1.out⟩
  have hv := inPc_yes (p := p) (by omega)
  rw [HVR.out] at hv
  have HV := Lib.hid hv
  clear hv
  go_upto_region 3 with (fail)
  by_cases ha : p.act = true
  · rw [ha] at c0
    obtain ⟨B, hB⟩ : ∃ B, sizedB p.len = B := ⟨_, rfl⟩
    obtain ⟨C, hC⟩ : ∃ C, codedB p.coded = C := ⟨_, rfl⟩
    have HB := Lib.hid hB
    have HC := Lib.hid hC
    clear hB hC
    go_wp2_with fail
    refine (sized_is HB.out w1).mono ?_
    rintro e w' ⟨rfl, rfl⟩
    cases B with
    | false =>
      go_wp2_with fail
      go_ret
      exact ⟨by rw [HV.out, ha, HB.out]; rfl, HG1.out⟩
    | true =>
      go_wp2_with fail
      refine (coded_is HC.out w1).mono ?_
      rintro e w' ⟨rfl, rfl⟩
      go_wp2_with fail
      go_ret
      exact ⟨by rw [HV.out, ha, HB.out, HC.out]; rfl, HG1.out⟩
  · have ha' : p.act = false := by simpa using ha
    rw [ha'] at c0
    go_wp2_with fail
    go_ret
    exact ⟨by rw [HV.out, ha']; rfl, HG1.out⟩
set_option maxRecDepth 20000 in
set_option maxHeartbeats 2000000 in
theorem rhvalid_any (p : Pc) (w : World) : Calls Tryd.prog 16 #[PVal p] w fun e w' => e = .returned (.bool (validPc p)) ∧ Gr w w' := by
  unfold PVal
  obtain ⟨R, hR⟩ : ∃ R, validPc p = R := ⟨_, rfl⟩
  rw [hR]
  have HVR := Lib.hid hR
  clear hR
  go_enter Tryd.func16, Tryd.ntmps16
  go_upto_region 1 with (fail)
  obtain ⟨w1, hw1⟩ : ∃ y, y = w.alloc (.cells #[.bool p.act, .slice p.a p.len p.cap, .int .i64 p.coded, .int .i64 p.fresh, .int .i64 p.ver, .int .i64 p.tries] 24) := ⟨_, rfl⟩
  rw [← hw1]
  have hb : PBlk w.heap.size p w1 := by rw [hw1]; exact heap_alloc_new _ _
  have HG1 := Lib.hid (show Gr w w1 by rw [hw1]; exact Gr.alloc _ _)
  unfold PBlk PCells at hb
  have c0 : w1.cell? ⟨w.heap.size, 0, none⟩ = some (.bool p.act) := by rw [cell_of_block hb]; rfl
  have c1 : w1.cell? ⟨w.heap.size, 1, none⟩ = some (.slice p.a p.len p.cap) := by rw [cell_of_block hb]; rfl
  have c2 : w1.cell? ⟨w.heap.size, 2, none⟩ = some (.int .i64 p.coded) := by rw [cell_of_block hb]; rfl
  have c3 : w1.cell? ⟨w.heap.size, 3, none⟩ = some (.int .i64 p.fresh) := by rw [cell_of_block hb]; rfl
  have c4 : w1.cell? ⟨w.heap.size, 4, none⟩ = some (.int .i64 p.ver) := by rw [cell_of_block hb]; rfl
  have c5 : w1.cell? ⟨w.heap.size, 5, none⟩ = some (.int .i64 p.tries) := by rw [cell_of_block hb]; rfl
  clear hw1 hb
  by_cases h1 : 0 ≤ p.fresh
  case neg =>
    go_wp2_with fail
    go_ret
    exact ⟨by rw [show R = false by rw [← HVR.out, inPc_no (by intro h; omega)]]; rfl, HG1.out⟩
  by_cases h2 : p.fresh ≤ 1
  case neg =>
    go_wp2_with fail
    go_ret
    exact ⟨by rw [show R = false by rw [← HVR.out, inPc_no (by intro h; omega)]]; rfl, HG1.out⟩
  by_cases h3 : 0 ≤ p.ver
  case neg =>
    go_wp2_with fail
    go_ret
    exact ⟨by rw [show R = false by rw [← HVR.out, inPc_no (by intro h; omega)]]; rfl, HG1.out⟩
  by_cases h4 : p.ver < 4
  case neg =>
    go_wp2_with fail
    go_ret
    exact ⟨by rw [show R = false by rw [← HVR.out, inPc_no (by intro h; omega)]]; rfl, HG1.out⟩
  by_cases h5 : 0 ≤ p.tries
  case neg =>
    go_wp2_with fail
    go_ret
    exact ⟨by rw [show R = false by rw [← HVR.out, inPc_no (by intro h; omega)]]; rfl, HG1.out⟩
  by_cases h6 : p.tries ≤ 32
  case neg =>
    go_wp2_with fail
    go_ret
    exact ⟨by rw [show R = false by rw [← HVR.out, inPc_no (by intro h; omega)]]; rfl, HG1.out⟩
  have hv := inPc_yes (p := p) (by omega)
  rw [HVR.out] at hv
  have HV := Lib.hid hv
  clear hv
  go_upto_region 3 with (fail)
  by_cases ha : p.act = true
  · rw [ha] at c0
    by_cases k1 : 1 ≤ p.len
    case neg =>
      have hs : (sizedB p.len && codedB p.coded) = false := by
        unfold sizedB codedB
        rw [Bool.and_eq_false_iff]
        first
          | exact .inl (decide_eq_false (by omega))
          | exact .inr (decide_eq_false (by omega))
      have HS := Lib.hid hs
      clear hs
      go_wp2_with fail
      go_ret
      exact ⟨by rw [HV.out, ha, HS.out]; rfl, HG1.out⟩
    by_cases k2 : p.len ≤ 256
    case neg =>
      have hs : (sizedB p.len && codedB p.coded) = false := by
        unfold sizedB codedB
        rw [Bool.and_eq_false_iff]
        first
          | exact .inl (decide_eq_false (by omega))
          | exact .inr (decide_eq_false (by omega))
      have HS := Lib.hid hs
      clear hs
      go_wp2_with fail
      go_ret
      exact ⟨by rw [HV.out, ha, HS.out]; rfl, HG1.out⟩
    by_cases k3 : 1 ≤ p.coded
    case neg =>
      have hs : (sizedB p.len && codedB p.coded) = false := by
        unfold sizedB codedB
        rw [Bool.and_eq_false_iff]
        first
          | exact .inl (decide_eq_false (by omega))
          | exact .inr (decide_eq_false (by omega))
      have HS := Lib.hid hs
      clear hs
      go_wp2_with fail
      go_ret
      exact ⟨by rw [HV.out, ha, HS.out]; rfl, HG1.out⟩
    by_cases k4 : p.coded ≤ 1152
    case neg =>
      have hs : (sizedB p.len && codedB p.coded) = false := by
        unfold sizedB codedB
        rw [Bool.and_eq_false_iff]
        first
          | exact .inl (decide_eq_false (by omega))
          | exact .inr (decide_eq_false (by omega))
      have HS := Lib.hid hs
      clear hs
      go_wp2_with fail
      go_ret
      exact ⟨by rw [HV.out, ha, HS.out]; rfl, HG1.out⟩
    have hs : (sizedB p.len && codedB p.coded) = true := by
      unfold sizedB codedB
      rw [decide_eq_true (show 1 ≤ (p.len : Int) ∧ (p.len : Int) ≤ 256 by omega), decide_eq_true (And.intro k3 k4)]; rfl
    have HS := Lib.hid hs
    clear hs
    go_wp2_with fail
    go_ret
    exact ⟨by rw [HV.out, ha, HS.out]; rfl, HG1.out⟩
  · have ha' : p.act = false := by simpa using ha
    rw [ha'] at c0
    go_wp2_with fail
    go_ret
    exact ⟨by rw [HV.out, ha']; rfl, HG1.out⟩
end Go.Proofs.YtcleegibdcphiaaDoor
