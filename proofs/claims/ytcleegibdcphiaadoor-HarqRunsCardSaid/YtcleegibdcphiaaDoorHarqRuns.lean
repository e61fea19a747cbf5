/- The law HarqRuns: its walk. -/
import Derived.Test.YtcleegibdcphiaaDoorHarL
import Derived.Test.YtcleegibdcphiaaDoorHarO
import Derived.Test.YtcleegibdcphiaaDoorHarP
import Derived.Test.YtcleegibdcphiaaDoorHarQ
import Derived.Test.YtcleegibdcphiaaDoorHarI
import Derived.Test.YtcleegibdcphiaaDoorNews
import Derived.Test.YtcleegibdcphiaaDoorRLen
import Derived.Test.YtcleegibdcphiaaDoorCodePos
import Derived.Test.YtcleegibdcphiaaDoorCodeEnc
import Derived.Test.YtcleegibdcphiaaDoorRefDec
import Derived.Test.YtcleegibdcphiaaDoorCodeDec
import Derived.Test.YtcleegibdcphiaaDoorHarN
import Derived.Test.YtcleegibdcphiaaDoorHarR
import Derived.Test.YtcleegibdcphiaaDoorHarT
import Derived.Test.YtcleegibdcphiaaDoorBase
import Derived.Test.YtcleegibdcphiaaDoorMem2
import Derived.Test.YtcleegibdcphiaaDoorRollInts
import Derived.Test.YtcleegibdcphiaaDoorHarS

/- Layer 29 (harq), plain: the reference's check value. -/
namespace Go.Proofs.YtcleegibdcphiaaDoor
open Go.ChangeShapes Go.WideShapes Go.ChangeAt Go.RowKit
open Cod

theorem bitI_val_fin : ∀ a b c d e f g h : Fin 2, bitI (valL [(a.val : Int), (b.val : Int), (c.val : Int), (d.val : Int), (e.val : Int), (f.val : Int), (g.val : Int), (h.val : Int)]) = [(a.val : Int), (b.val : Int), (c.val : Int), (d.val : Int), (e.val : Int), (f.val : Int), (g.val : Int), (h.val : Int)] := by decide +kernel
theorem bitI_val {l : List Int} (hl : l.length = 8) (hb : isBits l) : bitI (valL l) = l := by
  match l, hl with
  | [a, b, c, d, e, f, g, h], _ =>
    have k : ∀ x ∈ [a, b, c, d, e, f, g, h], ∃ y : Fin 2, x = (y.val : Int) := fun x hx => by
      rcases hb x hx with h0 | h0
      · exact ⟨0, by rw [h0]; rfl⟩
      · exact ⟨1, by rw [h0]; rfl⟩
    obtain ⟨a', rfl⟩ := k a (by simp)
    obtain ⟨b', rfl⟩ := k b (by simp)
    obtain ⟨c', rfl⟩ := k c (by simp)
    obtain ⟨d', rfl⟩ := k d (by simp)
    obtain ⟨e', rfl⟩ := k e (by simp)
    obtain ⟨f', rfl⟩ := k f (by simp)
    obtain ⟨g', rfl⟩ := k g (by simp)
    obtain ⟨h', rfl⟩ := k h (by simp)
    exact bitI_val_fin a' b' c' d' e' f' g' h'
theorem packL_succ (D : List Int) (m : Nat) : packL D (m + 1) = valL (D.take 8) :: packL (D.drop 8) m := by
  unfold packL
  rw [List.range_succ_eq_map, List.map_cons, List.map_map]
  congr 1
  apply List.map_congr_left
  intro p _
  simp only [Function.comp, List.drop_drop]
  congr 3
  omega
theorem bits_pack : ∀ (m : Nat) (D : List Int), D.length = 8 * m → isBits D → bitsL (packL D m) = D
  | 0, D, h, _ => by
    have e : D = [] := List.eq_nil_of_length_eq_zero (by omega)
    subst e; rfl
  | m + 1, D, h, hb => by
    have hd : isBits (D.drop 8) := fun x hx => hb x (List.mem_of_mem_drop hx)
    rw [packL_succ, bitsL_cons, bits_pack m (D.drop 8) (by rw [List.length_drop]; omega) hd, bitI_val (by rw [List.length_take]; omega) (isBits_take hb 8), List.take_append_drop]
theorem packL_len (D : List Int) (m : Nat) : (packL D m).length = m := by simp [packL]
theorem packL_rng {D : List Int} (hb : isBits D) (m : Nat) : ∀ x ∈ packL D m, 0 ≤ x ∧ x ≤ 255 := by
  intro x hx
  unfold packL at hx
  rw [List.mem_map] at hx
  obtain ⟨p, _, rfl⟩ := hx
  have hbt : isBits ((D.drop (8 * p)).take 8) := fun y hy => hb y (List.mem_of_mem_drop (List.mem_of_mem_take hy))
  have h := valL_rng _ _ rfl hbt
  have hl : ((D.drop (8 * p)).take 8).length ≤ 8 := by rw [List.length_take]; omega
  have h2 : (2 : Int) ^ ((D.drop (8 * p)).take 8).length ≤ 256 := by
    have : ∀ k : Nat, k ≤ 8 → (2 : Int) ^ k ≤ 256 := by decide
    exact this _ hl
  omega
theorem packL_split (D : List Int) (n : Nat) : packL D (n + 2) = packL D n ++ [(packL D (n + 2))[n]?.getD 0, (packL D (n + 2))[n + 1]?.getD 0] := by
  have e : packL D n = (packL D (n + 2)).take n := by
    unfold packL
    rw [← List.map_take, List.take_range, Nat.min_eq_left (by omega)]
  have h1 := take_one (packL D (n + 2)) n (by rw [packL_len]; omega)
  have h2 := take_one (packL D (n + 2)) (n + 1) (by rw [packL_len]; omega)
  rw [List.take_of_length_le (by rw [packL_len]; exact Nat.le_refl _), h1, ← e] at h2
  rw [List.append_assoc] at h2
  exact h2
/-- The reference's test is the program's. -/
theorem check_same {D : List Int} {n : Nat} (hl : D.length = 8 * n + 16) (hb : isBits D) :
    (wordL (packL D n) = D) ↔ (256 * (packL D (n + 2))[n]?.getD 0 + (packL D (n + 2))[n + 1]?.getD 0 = sum16 (packL D n)) := by
  have hD := bits_pack (n + 2) D (by omega) hb
  have hs := packL_split D n
  have r0 : 0 ≤ (packL D (n + 2))[n]?.getD 0 ∧ (packL D (n + 2))[n]?.getD 0 ≤ 255 := by
    rw [List.getElem?_eq_getElem (by rw [packL_len]; omega)]
    exact packL_rng hb _ _ (List.getElem_mem _)
  have r1 : 0 ≤ (packL D (n + 2))[n + 1]?.getD 0 ∧ (packL D (n + 2))[n + 1]?.getD 0 ≤ 255 := by
    rw [List.getElem?_eq_getElem (by rw [packL_len]; omega)]
    exact packL_rng hb _ _ (List.getElem_mem _)
  obtain ⟨t0, h0⟩ : ∃ t0, (packL D (n + 2))[n]?.getD 0 = t0 := ⟨_, rfl⟩
  obtain ⟨t1, h1⟩ : ∃ t1, (packL D (n + 2))[n + 1]?.getD 0 = t1 := ⟨_, rfl⟩
  rw [h0, h1] at hs
  rw [h0] at r0
  rw [h1] at r1
  rw [h0, h1]
  have hD2 : bitsL (packL D n) ++ bitsL [t0, t1] = D := by rw [← bitsL_append, ← hs]; exact hD
  have hsr := sum16_rng (packL D n)
  obtain ⟨s, hss⟩ : ∃ s, sum16 (packL D n) = s := ⟨_, rfl⟩
  rw [hss] at hsr ⊢
  have hw : wordL (packL D n) = bitsL (packL D n) ++ bitsL [s / 256, s % 256] := by unfold wordL; rw [hss]
  rw [hw]
  constructor
  · intro h
    have h2 := List.append_cancel_left (h.trans hD2.symm)
    have p1 := pack_bits [s / 256, s % 256] (by intro x hx; simp only [List.mem_cons, List.not_mem_nil, or_false] at hx; rcases hx with rfl | rfl <;> omega)
    have p2 := pack_bits [t0, t1] (by intro x hx; simp only [List.mem_cons, List.not_mem_nil, or_false] at hx; rcases hx with rfl | rfl <;> omega)
    rw [h2] at p1
    have p3 : [s / 256, s % 256] = [t0, t1] := p1.symm.trans p2
    injection p3 with q1 q2
    injection q2 with q2 _
    omega
  · intro h
    have q1 : s / 256 = t0 := by omega
    have q2 : s % 256 = t1 := by omega
    rw [q1, q2]
    exact hD2
end Go.Proofs.YtcleegibdcphiaaDoor

/- Layer 29 (harq): the reference's Soft, known, Same, SameCollector. -/
namespace Go.Proofs.YtcleegibdcphiaaDoor
open Go.ChangeShapes Go.WideShapes Go.ChangeAt Go.RowKit
open Cod

theorem okB_lo {x : Int} (h : x < -127) : okB x = false := by
  cases hb : okB x
  · rfl
  · have := (okB_iff x).1 hb; omega
theorem okB_hi {x : Int} (h : 127 < x) : okB x = false := by
  cases hb : okB x
  · rfl
  · have := (okB_iff x).1 hb; omega
theorem rsoft_any (a : Option Addr) (len cap : Nat) (xs : List Int) (w : World) (hr : Rd .i64 w a len xs) :
    Calls Tryd.prog 56 #[.slice a len cap] w fun e w' => e = .returned (.bool (softB xs)) ∧ w = w' := by
  have HR := Lib.hid hr
  have HL := Lib.hid hr.1
  have hm := hr.2.2.1
  simp only [maxLen] at hm
  clear hr
  obtain ⟨B, hB⟩ : ∃ B, softB xs = B := ⟨_, rfl⟩
  rw [hB]
  have HB := Lib.hid hB
  clear hB
  go_enter Tryd.func56, Tryd.ntmps56
  go_wp2_with fail
  go_loop [3] (fun i => ∃ k : Nat, k ≤ len ∧ i = .int .i64 k ∧ softB (xs.take k) = true) (fun i => len - (intOf i).toNat)
  case atStart => exact ⟨0, by omega, rfl, rfl⟩
  case round =>
    obtain ⟨k, hk, rfl, hs⟩ := hrel
    have HS := Lib.hid hs
    clear hs
    by_cases hlt : k < len
    · obtain ⟨b, off, ea, _, hc⟩ := HR.out.some (by omega)
      subst ea
      have ck := hc k hlt
      have htk := softB_take (xs := xs) (k := k) (by rw [HL.out]; exact hlt)
      have hno := softB_no (xs := xs) (k := k) (by rw [HL.out]; exact hlt)
      obtain ⟨x, hx⟩ : ∃ x, xs[k]?.getD 0 = x := ⟨_, rfl⟩
      rw [hx] at ck htk hno
      have HTK := Lib.hid htk
      have HNO := Lib.hid hno
      clear hc hx htk hno
      by_cases h1 : x < -127
      · have HBF := Lib.hid (show B = false by rw [← HB.out, HNO.out (okB_lo h1)])
        go_wp2_with fail
        go_ret
        exact ⟨by rw [HBF.out]; rfl, rfl⟩
      · by_cases h2 : 127 < x
        · have HBF := Lib.hid (show B = false by rw [← HB.out, HNO.out (okB_hi h2)])
          go_wp2_with fail
          go_ret
          exact ⟨by rw [HBF.out]; rfl, rfl⟩
        · have hx := (okB_iff x).2 (by omega)
          have HX := Lib.hid hx
          clear hx
          go_wp2_with fail
          go_round
          case rel => exact ⟨k + 1, by omega, by go_num, by rw [HTK.out, HS.out, HX.out]; rfl⟩
          case measure => (simp [intOf] <;> omega)
    · obtain rfl : k = len := by omega
      have hs := HS.out
      rw [List.take_of_length_le (by rw [HL.out]; exact Nat.le_refl _), HB.out] at hs
      have HS2 := Lib.hid hs
      clear hs
      go_wp2_with fail
      go_ret
      exact ⟨by rw [HS2.out]; rfl, rfl⟩
theorem anB_sz {a : An} (h : ¬ (1 ≤ a.size ∧ a.size ≤ 256 ∧ 1 ≤ a.coded ∧ a.coded ≤ 1152)) : anB a = false := by
  cases hb : anB a
  · rfl
  · unfold anB sizedB codedB at hb
    simp only [Bool.and_eq_true, decide_eq_true_eq] at hb
    omega
set_option maxRecDepth 20000 in
set_option maxHeartbeats 2000000 in
theorem rknown_any (a : An) (w : World) : Calls Tryd.prog 55 #[AVal a] w fun e w' => e = .returned (.bool (anB a)) ∧ Gr w w' := by
  obtain ⟨R, hR⟩ : ∃ R, anB a = R := ⟨_, rfl⟩
  rw [hR]
  have HVR := Lib.hid hR
  clear hR
  unfold AVal
  go_enter Tryd.func55, Tryd.ntmps55
  go_upto_region 1 with (fail)
  obtain ⟨w1, hw1⟩ : ∃ y, y = w.alloc (.cells #[.int .i64 a.proc, .int .i64 a.fresh, .int .i64 a.ver, .int .i64 a.size, .int .i64 a.coded] 29) := ⟨_, rfl⟩
  have hb : ABlk w.heap.size a w1 := by rw [hw1]; exact heap_alloc_new _ _
  rw [← hw1]
  have HG1 := Lib.hid (show Gr w w1 by rw [hw1]; exact Gr.alloc _ _)
  have c0 := ablk_at hb 0 (v := .int .i64 a.proc) rfl
  have c1 := ablk_at hb 1 (v := .int .i64 a.fresh) rfl
  have c2 := ablk_at hb 2 (v := .int .i64 a.ver) rfl
  have c3 := ablk_at hb 3 (v := .int .i64 a.size) rfl
  have c4 := ablk_at hb 4 (v := .int .i64 a.coded) rfl
  clear hw1 hb
  by_cases h1 : 0 ≤ a.proc
  case neg =>
    have hn : R = false := by rw [← HVR.out]; exact anB_no (by omega)
    have HN := Lib.hid hn
    clear hn
    go_wp2_with fail
    go_ret
    exact ⟨by rw [HN.out]; rfl, HG1.out⟩
  by_cases h2 : a.proc < 4
  case neg =>
    have hn : R = false := by rw [← HVR.out]; exact anB_no (by omega)
    have HN := Lib.hid hn
    clear hn
    go_wp2_with fail
    go_ret
    exact ⟨by rw [HN.out]; rfl, HG1.out⟩
  by_cases h3 : a.fresh = 0
  · have HF := Lib.hid h3
    rw [h3] at c1
    clear h3
    by_cases h5 : 0 ≤ a.ver
    case neg =>
      have hn : R = false := by rw [← HVR.out]; exact anB_no (by omega)
      have HN := Lib.hid hn
      clear hn
      go_wp2_with fail
      go_ret
      exact ⟨by rw [HN.out]; rfl, HG1.out⟩
    by_cases h6 : a.ver < 4
    case neg =>
      have hn : R = false := by rw [← HVR.out]; exact anB_no (by omega)
      have HN := Lib.hid hn
      clear hn
      go_wp2_with fail
      go_ret
      exact ⟨by rw [HN.out]; rfl, HG1.out⟩
    by_cases k1 : 1 ≤ a.size
    case neg =>
      have hn : R = false := by rw [← HVR.out]; exact anB_sz (by omega)
      have HN := Lib.hid hn
      clear hn
      go_wp2_with fail
      go_ret
      exact ⟨by rw [HN.out]; rfl, HG1.out⟩
    by_cases k2 : a.size ≤ 256
    case neg =>
      have hn : R = false := by rw [← HVR.out]; exact anB_sz (by omega)
      have HN := Lib.hid hn
      clear hn
      go_wp2_with fail
      go_ret
      exact ⟨by rw [HN.out]; rfl, HG1.out⟩
    by_cases k3 : 1 ≤ a.coded
    case neg =>
      have hn : R = false := by rw [← HVR.out]; exact anB_sz (by omega)
      have HN := Lib.hid hn
      clear hn
      go_wp2_with fail
      go_ret
      exact ⟨by rw [HN.out]; rfl, HG1.out⟩
    by_cases k4 : a.coded ≤ 1152
    case neg =>
      have hn : R = false := by rw [← HVR.out]; exact anB_sz (by omega)
      have HN := Lib.hid hn
      clear hn
      go_wp2_with fail
      go_ret
      exact ⟨by rw [HN.out]; rfl, HG1.out⟩
    have hn : R = true := by
      rw [← HVR.out, anB_yes (by have := HF.out; omega)]
      unfold sizedB codedB
      rw [decide_eq_true (by omega), decide_eq_true (by omega)]; rfl
    have HN := Lib.hid hn
    clear hn
    go_wp2_with fail
    go_ret
    exact ⟨by rw [HN.out]; rfl, HG1.out⟩
  by_cases h4 : a.fresh = 1
  · have HF := Lib.hid h4
    rw [h4] at c1
    clear h3 h4
    by_cases h5 : 0 ≤ a.ver
    case neg =>
      have hn : R = false := by rw [← HVR.out]; exact anB_no (by omega)
      have HN := Lib.hid hn
      clear hn
      go_wp2_with fail
      go_ret
      exact ⟨by rw [HN.out]; rfl, HG1.out⟩
    by_cases h6 : a.ver < 4
    case neg =>
      have hn : R = false := by rw [← HVR.out]; exact anB_no (by omega)
      have HN := Lib.hid hn
      clear hn
      go_wp2_with fail
      go_ret
      exact ⟨by rw [HN.out]; rfl, HG1.out⟩
    by_cases k1 : 1 ≤ a.size
    case neg =>
      have hn : R = false := by rw [← HVR.out]; exact anB_sz (by omega)
      have HN := Lib.hid hn
      clear hn
      go_wp2_with fail
      go_ret
      exact ⟨by rw [HN.out]; rfl, HG1.out⟩
    by_cases k2 : a.size ≤ 256
    case neg =>
      have hn : R = false := by rw [← HVR.out]; exact anB_sz (by omega)
      have HN := Lib.hid hn
      clear hn
      go_wp2_with fail
      go_ret
      exact ⟨by rw [HN.out]; rfl, HG1.out⟩
    by_cases k3 : 1 ≤ a.coded
    case neg =>
      have hn : R = false := by rw [← HVR.out]; exact anB_sz (by omega)
      have HN := Lib.hid hn
      clear hn
      go_wp2_with fail
      go_ret
      exact ⟨by rw [HN.out]; rfl, HG1.out⟩
    by_cases k4 : a.coded ≤ 1152
    case neg =>
      have hn : R = false := by rw [← HVR.out]; exact anB_sz (by omega)
      have HN := Lib.hid hn
      clear hn
      go_wp2_with fail
      go_ret
      exact ⟨by rw [HN.out]; rfl, HG1.out⟩
    have hn : R = true := by
      rw [← HVR.out, anB_yes (by have := HF.out; omega)]
      unfold sizedB codedB
      rw [decide_eq_true (by omega), decide_eq_true (by omega)]; rfl
    have HN := Lib.hid hn
    clear hn
    go_wp2_with fail
    go_ret
    exact ⟨by rw [HN.out]; rfl, HG1.out⟩
  have e3 : (a.fresh == 0) = false := by simpa using h3
  have e4 : (a.fresh == 1) = false := by simpa using h4
  have hn : R = false := by rw [← HVR.out]; exact anB_no (by omega)
  have HN := Lib.hid hn
  clear hn
  go_wp2_with fail
  go_ret
  exact ⟨by rw [HN.out]; rfl, HG1.out⟩
set_option maxRecDepth 20000 in
set_option maxHeartbeats 2000000 in
theorem sameP_yes (p q : Pc) (blk : List Int) (w : World) (h1 : p.act = q.act) (h2 : p.coded = q.coded) (h3 : p.fresh = q.fresh) (h4 : p.ver = q.ver) (h5 : p.tries = q.tries) (hp : Rd .u8 w p.a p.len blk) (hq : Rd .u8 w q.a q.len blk) :
    Calls Tryd.prog 14 #[PVal p, PVal q] w fun e w' => e = .returned (.bool true) ∧ Gr w w' := by
  have HP := Lib.hid hp
  have HQ := Lib.hid hq
  have HE := Lib.hid (And.intro h1 (And.intro h2 (And.intro h3 (And.intro h4 h5))))
  clear h1 h2 h3 h4 h5 hp hq
  unfold PVal
  go_enter Tryd.func14, Tryd.ntmps14
  go_upto_region 1 with (fail)
  obtain ⟨w1, hw1⟩ : ∃ y, y = w.alloc (.cells #[.bool p.act, .slice p.a p.len p.cap, .int .i64 p.coded, .int .i64 p.fresh, .int .i64 p.ver, .int .i64 p.tries] 24) := ⟨_, rfl⟩
  rw [← hw1]
  obtain ⟨w2, hw2⟩ : ∃ y, y = w1.alloc (.cells #[.bool q.act, .slice q.a q.len q.cap, .int .i64 q.coded, .int .i64 q.fresh, .int .i64 q.ver, .int .i64 q.tries] 24) := ⟨_, rfl⟩
  rw [← hw2]
  have hg1 : Gr w w1 := by rw [hw1]; exact Gr.alloc _ _
  have hg2 : Gr w1 w2 := by rw [hw2]; exact Gr.alloc _ _
  have hs : w1.heap.size = w.heap.size + 1 := by rw [hw1]; simp
  have hb1 : PBlk w.heap.size p w2 := PBlk.kept (show PBlk w.heap.size p w1 by rw [hw1]; exact heap_alloc_new _ _) hg2
  have hb2 : PBlk (w.heap.size + 1) q w2 := by rw [hw2, ← hs]; exact heap_alloc_new _ _
  have HG := Lib.hid (hg1.trans hg2)
  have HB1 := Lib.hid hb1
  have HB2 := Lib.hid hb2
  clear hw1 hw2 hg1 hg2 hs hb1 hb2
  obtain ⟨k0, hk0⟩ : ∃ k0, w.heap.size = k0 := ⟨_, rfl⟩
  rw [hk0]
  obtain ⟨k1, hk1⟩ : ∃ k1, k0 + 1 = k1 := ⟨_, rfl⟩
  rw [hk1]
  have hbb1 := HB1.out
  have hbb2 := HB2.out
  rw [hk0] at hbb1
  rw [hk0, hk1] at hbb2
  have HK0 := Lib.hid hk0
  clear hk0 hk1
  have a0 := pblk_at hbb1 0 (v := .bool p.act) rfl
  have a1 := pblk_at hbb1 1 (v := .slice p.a p.len p.cap) rfl
  have a2 := pblk_at hbb1 2 (v := .int .i64 p.coded) rfl
  have a3 := pblk_at hbb1 3 (v := .int .i64 p.fresh) rfl
  have a4 := pblk_at hbb1 4 (v := .int .i64 p.ver) rfl
  have a5 := pblk_at hbb1 5 (v := .int .i64 p.tries) rfl
  have b0 := pblk_at hbb2 0 (v := .bool p.act) (by rw [HE.out.1]; rfl)
  have b1 := pblk_at hbb2 1 (v := .slice q.a q.len q.cap) rfl
  have b2 := pblk_at hbb2 2 (v := .int .i64 p.coded) (by rw [HE.out.2.1]; rfl)
  have b3 := pblk_at hbb2 3 (v := .int .i64 p.fresh) (by rw [HE.out.2.2.1]; rfl)
  have b4 := pblk_at hbb2 4 (v := .int .i64 p.ver) (by rw [HE.out.2.2.2.1]; rfl)
  have b5 := pblk_at hbb2 5 (v := .int .i64 p.tries) (by rw [HE.out.2.2.2.2]; rfl)
  clear hbb1 hbb2 HB1 HB2
  go_wp2_with fail
  refine (same_bytes24 p.a q.a p.len p.cap q.len q.cap blk blk w2 (rd_gr HP.out HG.out) (rd_gr HQ.out HG.out)).mono ?_
  rw [decide_eq_true (rfl : blk = blk)]
  rintro e w3 ⟨rfl, hg3⟩
  have HG3 := Lib.hid (HG.out.trans hg3)
  have a2 := hg3.cell a2
  have a3 := hg3.cell a3
  have a4 := hg3.cell a4
  have a5 := hg3.cell a5
  have b2 := hg3.cell b2
  have b3 := hg3.cell b3
  have b4 := hg3.cell b4
  have b5 := hg3.cell b5
  clear hg3
  go_wp2_with fail
  go_ret
  exact ⟨rfl, HG3.out⟩
set_option maxRecDepth 20000 in
set_option maxHeartbeats 2000000 in
theorem sameC_yes (p q : Cl) (xs : List Int) (w : World) (h1 : p.fresh = q.fresh) (h2 : p.size = q.size) (h3 : p.some = q.some) (h4 : p.done = q.done) (hp : Rd .i64 w p.a p.len xs) (hq : Rd .i64 w q.a q.len xs) :
    Calls Tryd.prog 25 #[CVal p, CVal q] w fun e w' => e = .returned (.bool true) ∧ Gr w w' := by
  have hl : q.len = p.len := by rw [← hp.1, ← hq.1]
  have hm := hp.2.2.1
  simp only [maxLen] at hm
  have HP := Lib.hid hp
  have HQ := Lib.hid hq
  have HL := Lib.hid hl
  have HE := Lib.hid (And.intro h1 (And.intro h2 (And.intro h3 h4)))
  clear h1 h2 h3 h4 hp hq hl
  unfold CVal
  go_enter Tryd.func25, Tryd.ntmps25
  go_upto_region 1 with (fail)
  obtain ⟨w1, hw1⟩ : ∃ y, y = w.alloc (.cells #[.int .i64 p.fresh, .int .i64 p.size, .slice p.a p.len p.cap, .bool p.some, .bool p.done] 27) := ⟨_, rfl⟩
  rw [← hw1]
  obtain ⟨w2, hw2⟩ : ∃ y, y = w1.alloc (.cells #[.int .i64 q.fresh, .int .i64 q.size, .slice q.a q.len q.cap, .bool q.some, .bool q.done] 27) := ⟨_, rfl⟩
  rw [← hw2]
  have hg1 : Gr w w1 := by rw [hw1]; exact Gr.alloc _ _
  have hg2 : Gr w1 w2 := by rw [hw2]; exact Gr.alloc _ _
  have hs : w1.heap.size = w.heap.size + 1 := by rw [hw1]; simp
  have hb1 : CBlk w.heap.size p w2 := CBlk.kept (show CBlk w.heap.size p w1 by rw [hw1]; exact heap_alloc_new _ _) hg2
  have hb2 : CBlk (w.heap.size + 1) q w2 := by rw [hw2, ← hs]; exact heap_alloc_new _ _
  have HG := Lib.hid (hg1.trans hg2)
  obtain ⟨k0, hk0⟩ : ∃ k0, w.heap.size = k0 := ⟨_, rfl⟩
  rw [hk0] at hb1 hb2
  rw [hk0]
  obtain ⟨k1, hk1⟩ : ∃ k1, k0 + 1 = k1 := ⟨_, rfl⟩
  rw [hk1] at hb2
  rw [hk1]
  have HB1 := Lib.hid hb1
  have HB2 := Lib.hid hb2
  clear hw1 hw2 hg1 hg2 hs hb1 hb2 hk0 hk1
  have a0 := cblk_at HB1.out 0 (v := .int .i64 p.fresh) rfl
  have a1 := cblk_at HB1.out 1 (v := .int .i64 p.size) rfl
  have a2 := cblk_at HB1.out 2 (v := .slice p.a p.len p.cap) rfl
  have a3 := cblk_at HB1.out 3 (v := .bool p.some) rfl
  have a4 := cblk_at HB1.out 4 (v := .bool p.done) rfl
  have b0 := cblk_at HB2.out 0 (v := .int .i64 p.fresh) (by rw [HE.out.1]; rfl)
  have b1 := cblk_at HB2.out 1 (v := .int .i64 p.size) (by rw [HE.out.2.1]; rfl)
  have b2 := cblk_at HB2.out 2 (v := .slice q.a p.len q.cap) (by rw [← HL.out]; rfl)
  have b3 := cblk_at HB2.out 3 (v := .bool p.some) (by rw [HE.out.2.2.1]; rfl)
  have b4 := cblk_at HB2.out 4 (v := .bool p.done) (by rw [HE.out.2.2.2]; rfl)
  go_upto_region 3 with (fail)
  clear a0 a1 a3 a4 b0 b1 b3 b4
  go_wp2_with fail
  clear a2 b2
  go_loopw [5] (fun i wr => ∃ k : Nat, k ≤ p.len ∧ i = .int .i64 k ∧ Gr w2 wr) (fun i _ => p.len - (intOf i).toNat)
  case atStart => exact ⟨0, by omega, rfl, Gr.refl _⟩
  case round =>
    obtain ⟨k, hk, rfl, hg⟩ := hrel
    have HGr := Lib.hid hg
    have a2 := cblk_at (HB1.out.kept hg) 2 (v := .slice p.a p.len p.cap) rfl
    clear hg
    by_cases hlt : k < p.len
    · obtain ⟨c1, o1, e1, _, q1⟩ := HP.out.some (by omega)
      obtain ⟨c2, o2, e2, _, q2⟩ := HQ.out.some (by rw [HL.out]; omega)
      obtain ⟨x, hx⟩ : ∃ x, xs[k]?.getD 0 = x := ⟨_, rfl⟩
      have d1 : ∀ u, Gr wr u → u.cell? ⟨c1, o1 + k, none⟩ = Option.some (.int .i64 x) := fun u h => by rw [← hx]; exact ((HG.out.trans HGr.out).trans h).cell (q1 k hlt)
      have d2 : ∀ u, Gr wr u → u.cell? ⟨c2, o2 + k, none⟩ = Option.some (.int .i64 x) := fun u h => by rw [← hx]; exact ((HG.out.trans HGr.out).trans h).cell (q2 k (by rw [HL.out]; exact hlt))
      have a3 : ∀ u, Gr wr u → u.cell? ⟨k0, 2, none⟩ = Option.some (.slice (Option.some ⟨c1, o1, none⟩) p.len p.cap) := fun u h => cblk_at ((HB1.out.kept HGr.out).kept h) 2 (by rw [← e1]; rfl)
      have a4 : ∀ u, Gr wr u → u.cell? ⟨k1, 2, none⟩ = Option.some (.slice (Option.some ⟨c2, o2, none⟩) p.len q.cap) := fun u h => cblk_at ((HB2.out.kept HGr.out).kept h) 2 (by rw [← e2, ← HL.out]; rfl)
      clear hx q1 q2 e1 e2
      go_upto_region 6 with (fail)
      clear a2
      refine Sched.wp_region_sched 11 [] [] (by kernel_rfl) (by kernel_rfl) ?_
      simp only [List.take_succ_cons, List.take_zero, List.drop_succ_cons, List.drop_zero]
      repeat (first | (refine Sched.walk1_no rfl rfl (fun K hK => ?_); simp only [Act.put, List.setIfInBounds_toArray, List.set_cons_zero, List.set_cons_succ]; refine hK _ ?_; clear hK K) | (refine Sched.walk1_gr rfl rfl rfl (fun K hK => ?_); apply Exists.intro; refine ⟨fun w1 hw1 => ?_, ?_⟩; (focus (go_simp; (try go_ints); (try (simp only [IntWalk.iteOmega]; go_simp)); first | done | fail | (with_reducible rfl) | (with_reducible exact ⟨rfl, rfl⟩))); simp only [Act.put, List.setIfInBounds_toArray, List.set_cons_zero, List.set_cons_succ]; refine hK _ ?_; clear hK K) | (refine Sched.walk1_pure rfl rfl rfl (fun K hK => ?_); apply Exists.intro; refine ⟨fun w1 => ?_, ?_⟩; (focus (go_simp; (try go_ints); (try (simp only [IntWalk.iteOmega]; go_simp)); first | done | (with_reducible rfl) | (with_reducible exact ⟨rfl, rfl⟩))); simp only [Act.put, List.setIfInBounds_toArray, List.set_cons_zero, List.set_cons_succ]; refine hK _ ?_; clear hK K) | (refine Sched.walk1_box rfl rfl ?_; apply Exists.intro; refine ⟨fun w1 hw1 => ?_, ?_⟩; (focus (go_simp; exact ⟨Gr.alloc _ _, rfl, by simp, heap_alloc_new _ _⟩))))
      refine Sched.walk1_nil ?_
      intro wq hwq
      dsimp only [Sched.EndN, List.nil_append, List.cons_append, Act.put]
      (try simp only [List.setIfInBounds_toArray, List.set_cons_zero, List.set_cons_succ])
      repeat (first | (refine Sched.walk2_no rfl (fun K hK => ?_); simp only [Act.put, List.setIfInBounds_toArray, List.set_cons_zero, List.set_cons_succ]; refine hK _ ?_; clear hK K) | (refine Sched.walk2_go rfl (fun K hK => ?_); go_simp; (try go_ints); (try (simp only [IntWalk.iteOmega]; go_simp)); first | (refine hK _ _ ?_; clear hK K) | fail))
      refine Sched.walk2_nil ?_
      have HW := Lib.hid hwq
      clear d1 d2 a3 a4 hwq
      go_wp2_with fail
      go_roundw
      case rel => exact ⟨k + 1, by omega, by go_num, HGr.out.trans HW.out⟩
      case measure => (simp [intOf] <;> omega)
    · obtain rfl : k = p.len := by omega
      go_wp2_with fail
      go_ret
      exact ⟨rfl, HG.out.trans HGr.out⟩
end Go.Proofs.YtcleegibdcphiaaDoor

/- Layer 29 (harq): Start of the reference . -/
namespace Go.Proofs.YtcleegibdcphiaaDoor
open Go.ChangeShapes Go.WideShapes Go.ChangeAt Go.RowKit

theorem Sched2.walk2_app29 {P : Program} {ops : Array Oper} {I : World → Prop} {tight : Bool} {Q : Act → World → Prop} {o : Oper} {r : List Oper} {a : Act} {w : World} (hw : Region.wanted o (yielded ops a.tmps) = true) (s x : Operand) (t : TypeId)
    (ho : o.op = .call { callee := .builtin .append, args := #[s, x], argTypes := #[t, t] }) {vs vx v' : Value} {w' : World} (hs : a.eval s = vs) (hx : a.eval x = vx)
    (hrun : (Builtin.append_ #[t, t] o.type #[vs, vx]).run P w = .ok v' w') (hI : (tight = true ∧ r = []) ∨ I w') (h : Sched2.Walk2 P ops I tight Q r (a.put o.dst v') w') : Sched2.Walk2 P ops I tight Q (o :: r) a w := by
  refine Sched2.walk2_go hw fun K hK => ?_
  unfold Sched.tq execOp
  simp only [ho, resolve, invoke, builtin, Sem.run_bind, Sem.run_pure, Result.andThen_ok, List.map_toArray, List.map_cons, List.map_nil, hs, hx, hrun]
  exact hK _ _ hI h
theorem own_nil29 {B lo : Nat} {w : World} (hB : B ≤ lo) (h : w.heap[lo]? = some (.cells #[] 5 (0, 0))) : OwnI B 5 .u8 w (some ⟨lo, 0, none⟩) 0 0 [] :=
  ⟨⟨rfl, .inr ⟨lo, 0, #[], rfl, hB, h, Nat.le_refl _, by simp [maxLen], rfl, rfl⟩⟩, by simp⟩
theorem rhvalid_is {p : Pc} {V : Bool} (h : validPc p = V) (w : World) : Calls Tryd.prog 16 #[PVal p] w fun e w' => e = .returned (.bool V) ∧ Gr w w' := h ▸ rhvalid_any p w
def RProcPost (q : Pc) (l : List Int) (E : Int) (w : World) (e : Ending) (w' : World) : Prop := ∃ a' c', e = .returned (.tuple #[PVal { q with a := a', cap := c' }, .int .i64 E]) ∧ Rd .u8 w' a' q.len l ∧ Gr w w'
set_option maxRecDepth 20000 in
set_option maxHeartbeats 2000000 in
theorem rstart_any (p : Pc) (blk : List Int) (x : Option Addr) (len cap : Nat) (ys : List Int) (n : Int) (w : World) (hr : Rd .u8 w p.a p.len blk) (hy : Rd .u8 w x len ys) (hl2 : len ≤ 17592186044000) :
    Calls Tryd.prog 13 #[PVal p, .slice x len cap, .int .i64 n] w (RProcPost (startQ p len n) (startL p blk ys len n) (startE p len n) w) := by
  have HR := Lib.hid hr
  have HY := Lib.hid hy
  clear hr hy
  unfold PVal
  go_enter Tryd.func13, Tryd.ntmps13
  go_upto_region 1 with (fail)
  obtain ⟨w0, hw0⟩ : ∃ y, y = w.alloc (.cells #[.bool p.act, .slice p.a p.len p.cap, .int .i64 p.coded, .int .i64 p.fresh, .int .i64 p.ver, .int .i64 p.tries] 24) := ⟨_, rfl⟩
  have hb0 : PBlk w.heap.size p w0 := by rw [hw0]; exact heap_alloc_new _ _
  have hg0 : Gr w w0 := by rw [hw0]; exact Gr.alloc _ _
  have hs0 : w0.heap.size = w.heap.size + 1 := by rw [hw0]; simp
  rw [← hw0]
  obtain ⟨w1, hw1⟩ : ∃ y, y = w0.alloc (.cells #[.bool false, .slice none 0 0, .int .i64 0, .int .i64 0, .int .i64 0, .int .i64 0] 24) := ⟨_, rfl⟩
  have hg1 : Gr w0 w1 := by rw [hw1]; exact Gr.alloc _ _
  have hz1 : PBlk (w.heap.size + 1) zeroP w1 := by rw [hw1, ← hs0]; exact heap_alloc_new _ _
  rw [← hw1]
  have HB1 := Lib.hid (hb0.kept hg1)
  have HZ1 := Lib.hid hz1
  have HG1 := Lib.hid (hg0.trans hg1)
  clear hw0 hw1 hb0 hg0 hg1 hz1 hs0
  obtain ⟨V, hV⟩ : ∃ V, validPc p = V := ⟨_, rfl⟩
  have HV := Lib.hid hV
  clear hV
  have hb' := (HB1).out
  unfold PBlk PCells at hb'
  have HB1U := Lib.hid hb'
  clear hb'
  go_wp2_with (refine wpList_load_w rfl 24 _ rfl w.heap.size rfl 24 _ _ _ HB1U.out Tryd.underlying24 rfl (by kernel_rfl) ?_)
  refine (rhvalid_is HV.out w1).mono ?_
  rintro e w2 ⟨rfl, hg2⟩
  have HB2 := Lib.hid (HB1.out.kept hg2)
  have HZ2 := Lib.hid (HZ1.out.kept hg2)
  have HG2 := Lib.hid (HG1.out.trans hg2)
  clear hg2 HB1 HZ1 HG1 HB1U
  have hb' := (HB2).out
  unfold PBlk PCells at hb'
  have HB2U := Lib.hid hb'
  clear hb'
  cases V
  · have hE : startE p len n = 1 := by unfold startE; rw [if_pos HV.out]
    have HQ := Lib.hid (show startQ p len n = p by unfold startQ; rw [hE]; rfl)
    have HLL := Lib.hid (show startL p blk ys len n = blk by unfold startL; rw [hE]; rfl)
    have HE := Lib.hid hE
    clear hE
    obtain ⟨w9, hw9⟩ : ∃ y, y = w2.setCells (w.heap.size + 1) 0 (PList p) := ⟨_, rfl⟩
    have hz9 := pblk_put HZ2.out p
    have hg9 := grown_setCells_new HG2.out (show w.heap.size ≤ w.heap.size + 1 by omega) (PList p) 0
    rw [← hw9] at hz9 hg9
    have HTH := Lib.hid (pblk_there HZ2.out)
    have HZ9 := Lib.hid hz9
    have HG9 := Lib.hid hg9
    have HW9 := Lib.hid hw9
    clear hw9 hz9 hg9
    go_wp2_with (first | (refine wpList_load_w rfl 24 _ rfl w.heap.size rfl 24 _ _ _ HB2U.out Tryd.underlying24 rfl (by kernel_rfl) ?_) | (refine wpList_store_mid rfl 24 _ _ rfl (w.heap.size + 1) 0 (PList p).toArray rfl rfl HTH.out (by kernel_rfl) (plist_one _) ?_; rw [← HW9.out]))
    refine bodyPost_ret (results_cell_row1 Tryd.results13 _ _ (w.heap.size + 1) _ _ _ _ rfl HZ9.out Tryd.underlying24 rfl (by kernel_rfl)) rfl ?_
    rw [HQ.out, HLL.out, HE.out]
    exact ⟨p.a, p.cap, rfl, rd_gr HR.out HG9.out, HG9.out⟩
  have hnv : ¬ validPc p = false := by rw [HV.out]; simp
  have HNV := Lib.hid hnv
  clear hnv
  have c0 := pblk_at HB2.out 0 (v := .bool p.act) rfl
  by_cases ha : p.act = true
  · rw [ha] at c0
    have HA := Lib.hid ha
    clear ha
    have hE : startE p len n = 62 := by unfold startE; rw [if_neg HNV.out, if_pos HA.out]
    have HQ := Lib.hid (show startQ p len n = p by unfold startQ; rw [hE]; rfl)
    have HLL := Lib.hid (show startL p blk ys len n = blk by unfold startL; rw [hE]; rfl)
    have HE := Lib.hid hE
    clear hE
    obtain ⟨w9, hw9⟩ : ∃ y, y = w2.setCells (w.heap.size + 1) 0 (PList p) := ⟨_, rfl⟩
    have hz9 := pblk_put HZ2.out p
    have hg9 := grown_setCells_new HG2.out (show w.heap.size ≤ w.heap.size + 1 by omega) (PList p) 0
    rw [← hw9] at hz9 hg9
    have HTH := Lib.hid (pblk_there HZ2.out)
    have HZ9 := Lib.hid hz9
    have HG9 := Lib.hid hg9
    have HW9 := Lib.hid hw9
    clear hw9 hz9 hg9
    go_wp2_with (first | (refine wpList_load_w rfl 24 _ rfl w.heap.size rfl 24 _ _ _ HB2U.out Tryd.underlying24 rfl (by kernel_rfl) ?_) | (refine wpList_store_mid rfl 24 _ _ rfl (w.heap.size + 1) 0 (PList p).toArray rfl rfl HTH.out (by kernel_rfl) (plist_one _) ?_; rw [← HW9.out]))
    refine bodyPost_ret (results_cell_row1 Tryd.results13 _ _ (w.heap.size + 1) _ _ _ _ rfl HZ9.out Tryd.underlying24 rfl (by kernel_rfl)) rfl ?_
    rw [HQ.out, HLL.out, HE.out]
    exact ⟨p.a, p.cap, rfl, rd_gr HR.out HG9.out, HG9.out⟩
  have ha' : p.act = false := by simpa using ha
  rw [ha'] at c0
  have HA := Lib.hid ha
  clear ha ha'
  by_cases k1 : 1 ≤ len
  case neg =>
    have hE : startE p len n = 2 := by unfold startE; rw [if_neg HNV.out, if_neg HA.out, if_pos (by unfold sizedB; exact decide_eq_false (by omega))]
    have HQ := Lib.hid (show startQ p len n = p by unfold startQ; rw [hE]; rfl)
    have HLL := Lib.hid (show startL p blk ys len n = blk by unfold startL; rw [hE]; rfl)
    have HE := Lib.hid hE
    clear hE
    obtain ⟨w9, hw9⟩ : ∃ y, y = w2.setCells (w.heap.size + 1) 0 (PList p) := ⟨_, rfl⟩
    have hz9 := pblk_put HZ2.out p
    have hg9 := grown_setCells_new HG2.out (show w.heap.size ≤ w.heap.size + 1 by omega) (PList p) 0
    rw [← hw9] at hz9 hg9
    have HTH := Lib.hid (pblk_there HZ2.out)
    have HZ9 := Lib.hid hz9
    have HG9 := Lib.hid hg9
    have HW9 := Lib.hid hw9
    clear hw9 hz9 hg9
    go_wp2_with (first | (refine wpList_load_w rfl 24 _ rfl w.heap.size rfl 24 _ _ _ HB2U.out Tryd.underlying24 rfl (by kernel_rfl) ?_) | (refine wpList_store_mid rfl 24 _ _ rfl (w.heap.size + 1) 0 (PList p).toArray rfl rfl HTH.out (by kernel_rfl) (plist_one _) ?_; rw [← HW9.out]))
    refine bodyPost_ret (results_cell_row1 Tryd.results13 _ _ (w.heap.size + 1) _ _ _ _ rfl HZ9.out Tryd.underlying24 rfl (by kernel_rfl)) rfl ?_
    rw [HQ.out, HLL.out, HE.out]
    exact ⟨p.a, p.cap, rfl, rd_gr HR.out HG9.out, HG9.out⟩
  by_cases k2 : len ≤ 256
  case neg =>
    have hE : startE p len n = 2 := by unfold startE; rw [if_neg HNV.out, if_neg HA.out, if_pos (by unfold sizedB; exact decide_eq_false (by omega))]
    have HQ := Lib.hid (show startQ p len n = p by unfold startQ; rw [hE]; rfl)
    have HLL := Lib.hid (show startL p blk ys len n = blk by unfold startL; rw [hE]; rfl)
    have HE := Lib.hid hE
    clear hE
    obtain ⟨w9, hw9⟩ : ∃ y, y = w2.setCells (w.heap.size + 1) 0 (PList p) := ⟨_, rfl⟩
    have hz9 := pblk_put HZ2.out p
    have hg9 := grown_setCells_new HG2.out (show w.heap.size ≤ w.heap.size + 1 by omega) (PList p) 0
    rw [← hw9] at hz9 hg9
    have HTH := Lib.hid (pblk_there HZ2.out)
    have HZ9 := Lib.hid hz9
    have HG9 := Lib.hid hg9
    have HW9 := Lib.hid hw9
    clear hw9 hz9 hg9
    go_wp2_with (first | (refine wpList_load_w rfl 24 _ rfl w.heap.size rfl 24 _ _ _ HB2U.out Tryd.underlying24 rfl (by kernel_rfl) ?_) | (refine wpList_store_mid rfl 24 _ _ rfl (w.heap.size + 1) 0 (PList p).toArray rfl rfl HTH.out (by kernel_rfl) (plist_one _) ?_; rw [← HW9.out]))
    refine bodyPost_ret (results_cell_row1 Tryd.results13 _ _ (w.heap.size + 1) _ _ _ _ rfl HZ9.out Tryd.underlying24 rfl (by kernel_rfl)) rfl ?_
    rw [HQ.out, HLL.out, HE.out]
    exact ⟨p.a, p.cap, rfl, rd_gr HR.out HG9.out, HG9.out⟩
  have HNS := Lib.hid (show ¬ sizedB len = false by unfold sizedB; rw [decide_eq_true (by omega)]; simp)
  by_cases k3 : 1 ≤ n
  case neg =>
    have hE : startE p len n = 3 := by unfold startE; rw [if_neg HNV.out, if_neg HA.out, if_neg HNS.out, if_pos (by unfold codedB; exact decide_eq_false (by omega))]
    have HQ := Lib.hid (show startQ p len n = p by unfold startQ; rw [hE]; rfl)
    have HLL := Lib.hid (show startL p blk ys len n = blk by unfold startL; rw [hE]; rfl)
    have HE := Lib.hid hE
    clear hE
    obtain ⟨w9, hw9⟩ : ∃ y, y = w2.setCells (w.heap.size + 1) 0 (PList p) := ⟨_, rfl⟩
    have hz9 := pblk_put HZ2.out p
    have hg9 := grown_setCells_new HG2.out (show w.heap.size ≤ w.heap.size + 1 by omega) (PList p) 0
    rw [← hw9] at hz9 hg9
    have HTH := Lib.hid (pblk_there HZ2.out)
    have HZ9 := Lib.hid hz9
    have HG9 := Lib.hid hg9
    have HW9 := Lib.hid hw9
    clear hw9 hz9 hg9
    go_wp2_with (first | (refine wpList_load_w rfl 24 _ rfl w.heap.size rfl 24 _ _ _ HB2U.out Tryd.underlying24 rfl (by kernel_rfl) ?_) | (refine wpList_store_mid rfl 24 _ _ rfl (w.heap.size + 1) 0 (PList p).toArray rfl rfl HTH.out (by kernel_rfl) (plist_one _) ?_; rw [← HW9.out]))
    refine bodyPost_ret (results_cell_row1 Tryd.results13 _ _ (w.heap.size + 1) _ _ _ _ rfl HZ9.out Tryd.underlying24 rfl (by kernel_rfl)) rfl ?_
    rw [HQ.out, HLL.out, HE.out]
    exact ⟨p.a, p.cap, rfl, rd_gr HR.out HG9.out, HG9.out⟩
  by_cases k4 : n ≤ 1152
  case neg =>
    have hE : startE p len n = 3 := by unfold startE; rw [if_neg HNV.out, if_neg HA.out, if_neg HNS.out, if_pos (by unfold codedB; exact decide_eq_false (by omega))]
    have HQ := Lib.hid (show startQ p len n = p by unfold startQ; rw [hE]; rfl)
    have HLL := Lib.hid (show startL p blk ys len n = blk by unfold startL; rw [hE]; rfl)
    have HE := Lib.hid hE
    clear hE
    obtain ⟨w9, hw9⟩ : ∃ y, y = w2.setCells (w.heap.size + 1) 0 (PList p) := ⟨_, rfl⟩
    have hz9 := pblk_put HZ2.out p
    have hg9 := grown_setCells_new HG2.out (show w.heap.size ≤ w.heap.size + 1 by omega) (PList p) 0
    rw [← hw9] at hz9 hg9
    have HTH := Lib.hid (pblk_there HZ2.out)
    have HZ9 := Lib.hid hz9
    have HG9 := Lib.hid hg9
    have HW9 := Lib.hid hw9
    clear hw9 hz9 hg9
    go_wp2_with (first | (refine wpList_load_w rfl 24 _ rfl w.heap.size rfl 24 _ _ _ HB2U.out Tryd.underlying24 rfl (by kernel_rfl) ?_) | (refine wpList_store_mid rfl 24 _ _ rfl (w.heap.size + 1) 0 (PList p).toArray rfl rfl HTH.out (by kernel_rfl) (plist_one _) ?_; rw [← HW9.out]))
    refine bodyPost_ret (results_cell_row1 Tryd.results13 _ _ (w.heap.size + 1) _ _ _ _ rfl HZ9.out Tryd.underlying24 rfl (by kernel_rfl)) rfl ?_
    rw [HQ.out, HLL.out, HE.out]
    exact ⟨p.a, p.cap, rfl, rd_gr HR.out HG9.out, HG9.out⟩
  have HNC := Lib.hid (show ¬ codedB n = false by unfold codedB; rw [decide_eq_true (by omega)]; simp)
  have hfr : 0 ≤ p.fresh ∧ p.fresh ≤ 1 := by
    have hv := HV.out
    unfold validPc inPc at hv
    simp only [Bool.and_eq_true, decide_eq_true_eq] at hv
    exact ⟨hv.1.1, hv.1.2.1⟩
  have hE : startE p len n = 0 := by unfold startE; rw [if_neg HNV.out, if_neg HA.out, if_neg HNS.out, if_neg HNC.out]
  have HQ := Lib.hid (show startQ p len n = ⟨true, none, len, 0, n, 1 - p.fresh, 0, 0⟩ by unfold startQ; rw [if_pos hE])
  have HLL := Lib.hid (show startL p blk ys len n = ys by unfold startL; rw [if_pos hE])
  have HE := Lib.hid hE
  clear hE
  go_upto_region 9 with (fail)
  have hI : ∀ u, Gr w2 u → u.cell? ⟨w.heap.size, 3, none⟩ = some (.int .i64 p.fresh) := fun u h => pblk_at (HB2.out.kept h) 3 rfl
  refine Sched2.wp_region_sched (fun u => u.cell? ⟨w.heap.size, 3, none⟩ = some (.int .i64 p.fresh)) [3, 4, 5, 6] [0] [2, 7, 8, 9] true hI (by kernel_rfl) (by kernel_rfl) ?_
  refine Sched2.walk1_new (NRow1 (fun lo => .slice (some ⟨lo, 0, none⟩) 0 0) (.cells #[] 5)) rfl rfl rfl (NRow1.stable _ _) (fun u hu => ?_) ?_
  · go_simp
    exact ⟨Gr.alloc _ _, rfl, by simp, heap_alloc_new _ _⟩
  repeat (first | (refine Sched2.walk1_ord rfl ?_) | (refine Sched2.walk1_no rfl rfl rfl (fun K hK => ?_); simp only [Act.put, List.setIfInBounds_toArray, List.set_cons_zero, List.set_cons_succ]; refine hK _ ?_; clear hK K) | (refine Sched2.walk1_gr rfl rfl rfl rfl (fun K hK => ?_); apply Exists.intro; refine ⟨fun w1 hw1 => ?_, ?_⟩; (focus (go_simp; (try go_ints); (try (simp only [IntWalk.iteOmega]; go_simp)); first | done | fail | (with_reducible rfl) | (with_reducible exact ⟨rfl, rfl⟩))); simp only [Act.put, List.setIfInBounds_toArray, List.set_cons_zero, List.set_cons_succ]; refine hK _ ?_; clear hK K) | (refine Sched2.walk1_late rfl rfl rfl rfl (fun K hK => ?_); apply Exists.intro; refine ⟨fun w1 hw1 => ?_, ?_⟩; (focus (go_simp; (try go_ints); (try (simp only [IntWalk.iteOmega]; go_simp)); first | done | fail | (with_reducible rfl) | (with_reducible exact ⟨rfl, rfl⟩))); simp only [Act.put, List.setIfInBounds_toArray, List.set_cons_zero, List.set_cons_succ]; refine hK _ ?_; clear hK K) | (refine Sched2.walk1_box rfl rfl rfl ?_; apply Exists.intro; refine ⟨fun w1 hw1 => ?_, ?_⟩; (focus (go_simp; exact ⟨Gr.alloc _ _, rfl, by simp, heap_alloc_new _ _⟩))))
  refine Sched2.walk1_nil ?_
  intro wq hwq
  dsimp only [Sched.EndN, List.nil_append, List.cons_append, Act.put]
  rintro lo hi v ⟨rfl, hlt, hblk⟩ hlo - - -
  have hlo2 : w.heap.size + 2 ≤ lo := by have := heap_lt HZ2.out; omega
  have ho0 := own_nil29 hlo2 hblk
  have hsz := hwq.size
  have h2s := heap_lt HZ2.out
  obtain ⟨a8, c8, w8, hrun, ho8, hg8, _⟩ := app_u8 (w.heap.size + 2) wq (some ⟨lo, 0, none⟩) 0 0 [] ho0 x len cap ys ((rd_gr HY.out HG2.out).kept hwq) (by omega) (by omega)
  rw [Nat.zero_add] at hrun ho8
  rw [List.nil_append] at ho8
  have hg8' := grown_own (HG2.out.trans hwq) ho0 (by omega) hg8
  have hb8 : PBlk w.heap.size p w8 := (hg8.block _ (heap_lt (HB2.out.kept hwq)) (by simp only [Value.ownBlock]; intro h; injection h; omega)).trans (HB2.out.kept hwq)
  have hz8 : PBlk (w.heap.size + 1) zeroP w8 := (hg8.block _ (heap_lt (HZ2.out.kept hwq)) (by simp only [Value.ownBlock]; intro h; injection h; omega)).trans (HZ2.out.kept hwq)
  have hi8 : w8.cell? ⟨w.heap.size, 3, none⟩ = some (.int .i64 p.fresh) := pblk_at hb8 3 rfl
  obtain ⟨w9, hw9⟩ : ∃ y, y = w8.setCells (w.heap.size + 1) 0 (PList ⟨true, a8, len, c8, n, 1 - p.fresh, 0, 0⟩) := ⟨_, rfl⟩
  have hz9 := pblk_put hz8 ⟨true, a8, len, c8, n, 1 - p.fresh, 0, 0⟩
  have hb9 := pblk_other hb8 (k := w.heap.size + 1) (PList ⟨true, a8, len, c8, n, 1 - p.fresh, 0, 0⟩) (by omega)
  have ho9 := own_cells ho8 (show w.heap.size + 1 < w.heap.size + 2 by omega) (PList ⟨true, a8, len, c8, n, 1 - p.fresh, 0, 0⟩)
  have hg9 := grown_setCells_new hg8' (show w.heap.size ≤ w.heap.size + 1 by omega) (PList ⟨true, a8, len, c8, n, 1 - p.fresh, 0, 0⟩) 0
  rw [← hw9] at hz9 ho9 hg9 hb9
  have hi9 : w9.cell? ⟨w.heap.size, 3, none⟩ = some (.int .i64 p.fresh) := pblk_at hb9 3 rfl
  have HTH := Lib.hid (pblk_there hz8)
  have HZ9 := Lib.hid hz9
  have HO9 := Lib.hid ho9.rd
  have HG9 := Lib.hid hg9
  have HW9 := Lib.hid hw9
  have HI9 := Lib.hid hi9
  clear hz8 hw9 hz9 ho9 hg9 ho8 hg8 hg8' hb8 hb9 hblk hlt hlo hwq hI hi9 ho0 hsz h2s hlo2
  (try simp only [List.setIfInBounds_toArray, List.set_cons_zero, List.set_cons_succ])
  simp only [Sched2.lasts, List.filterMap_cons, List.filterMap_nil, List.getElem?_toArray, List.getElem?_cons_succ, List.getElem?_cons_zero]
  refine Sched2.walk2_app29 rfl _ _ _ rfl rfl rfl hrun ?_ ?_
  · exact .inr hi8
  clear hrun
  dsimp only [Act.put]
  (try simp only [List.setIfInBounds_toArray, List.set_cons_zero, List.set_cons_succ])
  refine Sched2.walk2_go rfl (fun K hK => ?_)
  go_simp
  (try go_ints)
  (try (simp only [IntWalk.iteOmega]; go_simp))
  refine hK _ _ (.inr hi8) ?_
  clear hK K
  refine Sched2.walk2_go rfl (fun K hK => ?_)
  refine tq_storeH 24 _ _ rfl (w.heap.size + 1) 0 (PList ⟨true, a8, len, c8, n, 1 - p.fresh, 0, 0⟩).toArray rfl rfl HTH.out (by kernel_rfl) (plist_one _) ?_
  rw [← HW9.out]
  dsimp only [Act.put]
  try simp only [List.setIfInBounds_toArray, List.set_cons_zero, List.set_cons_succ]
  refine hK _ _ (.inr HI9.out) ?_
  clear hK K
  repeat (first | (refine Sched2.walk2_no rfl (fun K hK => ?_); simp only [Act.put, List.setIfInBounds_toArray, List.set_cons_zero, List.set_cons_succ]; refine hK _ ?_; clear hK K) | (refine Sched2.walk2_go rfl (fun K hK => ?_); go_simp; (try go_ints); (try (simp only [IntWalk.iteOmega]; go_simp)); first | (refine hK _ _ (by first | exact .inl ⟨rfl, rfl⟩ | exact .inr (HI9.out)) ?_; clear hK K) | fail))
  refine Sched2.walk2_nil ?_
  go_wp2_with fail
  refine bodyPost_ret (results_cell_row1 Tryd.results13 _ _ (w.heap.size + 1) _ _ _ _ rfl HZ9.out Tryd.underlying24 rfl (by kernel_rfl)) rfl ?_
  rw [HQ.out, HLL.out, HE.out]
  exact ⟨a8, c8, rfl, HO9.out, HG9.out⟩
end Go.Proofs.YtcleegibdcphiaaDoor

/- Layer 28 (code): the reference's Encode. -/
namespace Go.Proofs.YtcleegibdcphiaaDoor
open Go.ChangeShapes Go.WideShapes Go.ChangeAt Go.RowKit
open Cod

/-- A list and an error are handed back. -/
def TwoPost (er : Int) (ys : List Int) (w : World) (e : Ending) (w' : World) : Prop := ∃ a n cap, e = .returned (.tuple #[.slice a n cap, .int .i64 er]) ∧ Rd .i64 w' a n ys ∧ Gr w w'
theorem TwoPost.nil (er : Int) (w w' : World) (hg : Gr w w') : TwoPost er [] w (.returned (.tuple #[.slice none 0 0, .int .i64 er])) w' := ⟨none, 0, 0, rfl, (OwnI.nil 0 3 .i64 w').rd, hg⟩
def EncRel (w : World) (xs : List Int) (len : Nat) (pa pb s i : Value) (wr : World) : Prop := ∃ (a' : Option Addr) (cap' j : Nat) (st : Int), j ≤ len + 2 ∧ s = .slice a' (2 * j) cap' ∧ pa = .int .i64 (st % 2) ∧ pb = .int .i64 (st / 2) ∧ i = .int .i64 j ∧ OwnI w.heap.size 3 .i64 wr a' (2 * j) cap' (encS 0 ((xs ++ [0, 0]).take j)) ∧ runS 0 ((xs ++ [0, 0]).take j) = st ∧ isSt st ∧ Gr w wr ∧ (∀ q, q < j → (xs ++ [0, 0])[q]?.getD 0 = 0 ∨ (xs ++ [0, 0])[q]?.getD 0 = 1)
theorem nx_half {s x : Int} (hs : isSt s) (hx : x = 0 ∨ x = 1) : nx s x % 2 = x ∧ nx s x / 2 = s % 2 := by
  unfold nx; rcases hs with rfl | rfl | rfl | rfl <;> omega
theorem o_rng (s x : Int) : 0 ≤ o0 s x ∧ o0 s x ≤ 1 ∧ 0 ≤ o1 s x ∧ o1 s x ≤ 1 := by unfold o0 o1; omega
set_option maxHeartbeats 2000000 in
set_option maxRecDepth 20000 in
theorem rencode_any (a : Option Addr) (len cap : Nat) (xs : List Int) (w : World) (hr : Rd .i64 w a len xs) (h1 : 1 ≤ len) (h2 : len ≤ 2064) :
    Calls Tryd.prog 42 #[.slice a len cap] w fun e w' => (isBits xs → TwoPost 0 (enc xs) w e w') ∧ (¬ isBits xs → TwoPost 4 [] w e w') := by
  obtain ⟨b, off, rfl, hb, hc⟩ := hr.some (by omega)
  have hlen : lenS len = 2 * ((len : Int) + 2) := by unfold lenS; rw [if_pos (by omega)]
  have hlz : (2 * ((len : Int) + 2) == 0) = false := by simp; omega
  have HC := Lib.hid hc
  have HL := Lib.hid hr.1
  have HLEN := Lib.hid hlen
  have HZL := Lib.hid (show (xs ++ [0, 0]).length = len + 2 by simp [hr.1])
  clear hr hc hlen
  go_enter Tryd.func42, Tryd.ntmps42
  go_wp2_with fail
  refine (rlength_is HLEN.out _).mono ?_
  rintro e w' ⟨rfl, rfl⟩
  go_wp2_with fail
  go_loopw [4, 5, 6, 7] (fun pa pb s i wr => EncRel w xs len pa pb s i wr) (fun _ _ _ i _ => len + 2 - (intOf i).toNat)
  case atStart => exact ⟨none, 0, 0, 0, by omega, rfl, rfl, rfl, rfl, OwnI.nil _ _ _ _, rfl, .inl rfl, Gr.refl _, fun q hq => by omega⟩
  case round =>
    obtain ⟨a', cap', j, st, hj, rfl, rfl, rfl, rfl, hown, hst, hss, hg, hall⟩ := hrel
    have HG := Lib.hid hg
    have HOWN := Lib.hid hown
    have HST := Lib.hid hst
    have HALL := Lib.hid hall
    clear hg hown hst hall
    have hsr : 0 ≤ st ∧ st ≤ 3 := by rcases hss with rfl | rfl | rfl | rfl <;> omega
    obtain ⟨s1, s2⟩ := hsr
    by_cases hj2 : j < len + 2
    · obtain ⟨x, hxx⟩ : ∃ x, (xs ++ [0, 0])[j]?.getD 0 = x := ⟨_, rfl⟩
      have HXX := Lib.hid hxx
      by_cases hjk : j < len
      · have cj : wr.cell? ⟨b, off + j, none⟩ = some (.int .i64 x) := by
          have e : (xs ++ [0, 0])[j]?.getD 0 = xs[j]?.getD 0 := by rw [List.getElem?_append_left (by rw [HL.out]; exact hjk)]
          rw [← hxx, e]
          exact HG.out.cell (HC.out j hjk)
        clear hxx
        by_cases h0 : x = 0
        · subst h0
          have HXB := Lib.hid (show (0 : Int) = 0 ∨ (0 : Int) = 1 from .inl rfl)
          have htk := take_one (xs ++ [0, 0]) j (by rw [HZL.out]; exact hj2)
          rw [HXX.out] at htk
          have hrd := rd_new (k := .i64) (w := wr) [(st + st / 2) % 2, st / 2 % 2] 3 (0, 0) 2 rfl (by simp [maxLen]) (by intro z hz; simp at hz; rcases hz with rfl | rfl <;> exact WalkArith.wf_i64 (by constructor <;> omega))
          obtain ⟨a5, c5, w5, hrun5, ho5, hg5, _⟩ := app_i64 w.heap.size (wr.alloc (.cells ([(st + st / 2) % 2, st / 2 % 2].map (Value.int .i64)).toArray 3)) a' (2 * j) cap' _ (HOWN.out.stay (Gr.alloc _ _)) (some ⟨wr.heap.size, 0, none⟩) 2 2 _ hrd (by omega) (Nat.le_trans HG.out.size (by simp))
          have henc : encS 0 ((xs ++ [0, 0]).take j) ++ [(st + st / 2) % 2, st / 2 % 2] = encS 0 ((xs ++ [0, 0]).take (j + 1)) := by rw [htk, encS_snoc, HST.out, show o0 st ((0 : Int)) = (st + st / 2) % 2 by unfold o0; omega, show o1 st ((0 : Int)) = st / 2 % 2 by unfold o1; omega]
          have hrun : runS 0 ((xs ++ [0, 0]).take (j + 1)) = nx st ((0 : Int)) := by rw [htk, runS_snoc, HST.out]
          rw [henc] at ho5
          simp only [List.map_cons, List.map_nil] at hrun5
          have HR5 := Lib.hid hrun5
          have HO5 := Lib.hid (show OwnI w.heap.size 3 .i64 w5 a5 (2 * (j + 1)) c5 (encS 0 ((xs ++ [0, 0]).take (j + 1))) from ho5)
          have HRUN := Lib.hid hrun
          have HG5 := Lib.hid (grown_own (HG.out.trans (Gr.alloc _ _)) (HOWN.out.stay (Gr.alloc _ _)) (Nat.le_refl _) hg5)
          clear hrun5 ho5 hg5 htk henc hrun hrd
          go_wp2_with (at_builtin; refine wpList_app rfl _ _ _ rfl rfl rfl HR5.out ?_)
          go_roundw
          case rel => exact ⟨a5, c5, j + 1, nx st ((0 : Int)), by omega, rfl, by rw [(nx_half hss HXB.out).1], by rw [(nx_half hss HXB.out).2], by go_num, HO5.out, HRUN.out, nx_st hss HXB.out, HG5.out, fun q hq => by
            by_cases hqj : q < j
            · exact HALL.out q hqj
            · obtain rfl : q = j := by omega
              rw [HXX.out]; exact HXB.out⟩
          case measure => simp [intOf]; omega
        · by_cases h1' : x = 1
          · subst h1'
            have HXB := Lib.hid (show (1 : Int) = 0 ∨ (1 : Int) = 1 from .inr rfl)
            have htk := take_one (xs ++ [0, 0]) j (by rw [HZL.out]; exact hj2)
            rw [HXX.out] at htk
            have hrd := rd_new (k := .i64) (w := wr) [(1 + st % 2 + st / 2) % 2, (1 + st / 2) % 2] 3 (0, 0) 2 rfl (by simp [maxLen]) (by intro z hz; simp at hz; rcases hz with rfl | rfl <;> exact WalkArith.wf_i64 (by constructor <;> omega))
            obtain ⟨a5, c5, w5, hrun5, ho5, hg5, _⟩ := app_i64 w.heap.size (wr.alloc (.cells ([(1 + st % 2 + st / 2) % 2, (1 + st / 2) % 2].map (Value.int .i64)).toArray 3)) a' (2 * j) cap' _ (HOWN.out.stay (Gr.alloc _ _)) (some ⟨wr.heap.size, 0, none⟩) 2 2 _ hrd (by omega) (Nat.le_trans HG.out.size (by simp))
            have henc : encS 0 ((xs ++ [0, 0]).take j) ++ [(1 + st % 2 + st / 2) % 2, (1 + st / 2) % 2] = encS 0 ((xs ++ [0, 0]).take (j + 1)) := by rw [htk, encS_snoc, HST.out, show o0 st ((1 : Int)) = (1 + st % 2 + st / 2) % 2 by unfold o0; omega, show o1 st ((1 : Int)) = (1 + st / 2) % 2 by unfold o1; omega]
            have hrun : runS 0 ((xs ++ [0, 0]).take (j + 1)) = nx st ((1 : Int)) := by rw [htk, runS_snoc, HST.out]
            rw [henc] at ho5
            simp only [List.map_cons, List.map_nil] at hrun5
            have HR5 := Lib.hid hrun5
            have HO5 := Lib.hid (show OwnI w.heap.size 3 .i64 w5 a5 (2 * (j + 1)) c5 (encS 0 ((xs ++ [0, 0]).take (j + 1))) from ho5)
            have HRUN := Lib.hid hrun
            have HG5 := Lib.hid (grown_own (HG.out.trans (Gr.alloc _ _)) (HOWN.out.stay (Gr.alloc _ _)) (Nat.le_refl _) hg5)
            clear hrun5 ho5 hg5 htk henc hrun hrd
            go_wp2_with (at_builtin; refine wpList_app rfl _ _ _ rfl rfl rfl HR5.out ?_)
            go_roundw
            case rel => exact ⟨a5, c5, j + 1, nx st ((1 : Int)), by omega, rfl, by rw [(nx_half hss HXB.out).1], by rw [(nx_half hss HXB.out).2], by go_num, HO5.out, HRUN.out, nx_st hss HXB.out, HG5.out, fun q hq => by
              by_cases hqj : q < j
              · exact HALL.out q hqj
              · obtain rfl : q = j := by omega
                rw [HXX.out]; exact HXB.out⟩
            case measure => simp [intOf]; omega
          · have b0 : (x == 0) = false := by simpa using h0
            have b1 : (x == 1) = false := by simpa using h1'
            have d0 : (x != 0) = true := by simpa using h0
            have d1 : (x != 1) = true := by simpa using h1'
            go_wp2_with fail
            go_ret2
            refine ⟨fun hb => ?_, fun _ => TwoPost.nil 4 _ _ HG.out⟩
            exfalso
            have e : (xs ++ [0, 0])[j]?.getD 0 = xs[j]?.getD 0 := by rw [List.getElem?_append_left (by rw [HL.out]; exact hjk)]
            have hjl : j < xs.length := by rw [HL.out]; exact hjk
            have := hb (xs[j]?.getD 0) (by simp only [List.getElem?_eq_getElem hjl, Option.getD_some]; exact List.getElem_mem hjl)
            rw [← e, HXX.out] at this
            omega
      · have hx0 : x = 0 := by
          rw [← hxx, List.getElem?_append_right (by rw [HL.out]; omega), HL.out]
          obtain h | h : j - len = 0 ∨ j - len = 1 := by omega
          · rw [h]; rfl
          · rw [h]; rfl
        subst hx0
        clear hxx
        have HXB := Lib.hid (show (0 : Int) = 0 ∨ (0 : Int) = 1 from .inl rfl)
        have htk := take_one (xs ++ [0, 0]) j (by rw [HZL.out]; exact hj2)
        rw [HXX.out] at htk
        have hrd := rd_new (k := .i64) (w := wr) [(st + st / 2) % 2, st / 2 % 2] 3 (0, 0) 2 rfl (by simp [maxLen]) (by intro z hz; simp at hz; rcases hz with rfl | rfl <;> exact WalkArith.wf_i64 (by constructor <;> omega))
        obtain ⟨a5, c5, w5, hrun5, ho5, hg5, _⟩ := app_i64 w.heap.size (wr.alloc (.cells ([(st + st / 2) % 2, st / 2 % 2].map (Value.int .i64)).toArray 3)) a' (2 * j) cap' _ (HOWN.out.stay (Gr.alloc _ _)) (some ⟨wr.heap.size, 0, none⟩) 2 2 _ hrd (by omega) (Nat.le_trans HG.out.size (by simp))
        have henc : encS 0 ((xs ++ [0, 0]).take j) ++ [(st + st / 2) % 2, st / 2 % 2] = encS 0 ((xs ++ [0, 0]).take (j + 1)) := by rw [htk, encS_snoc, HST.out, show o0 st ((0 : Int)) = (st + st / 2) % 2 by unfold o0; omega, show o1 st ((0 : Int)) = st / 2 % 2 by unfold o1; omega]
        have hrun : runS 0 ((xs ++ [0, 0]).take (j + 1)) = nx st ((0 : Int)) := by rw [htk, runS_snoc, HST.out]
        rw [henc] at ho5
        simp only [List.map_cons, List.map_nil] at hrun5
        have HR5 := Lib.hid hrun5
        have HO5 := Lib.hid (show OwnI w.heap.size 3 .i64 w5 a5 (2 * (j + 1)) c5 (encS 0 ((xs ++ [0, 0]).take (j + 1))) from ho5)
        have HRUN := Lib.hid hrun
        have HG5 := Lib.hid (grown_own (HG.out.trans (Gr.alloc _ _)) (HOWN.out.stay (Gr.alloc _ _)) (Nat.le_refl _) hg5)
        clear hrun5 ho5 hg5 htk henc hrun hrd
        go_wp2_with (at_builtin; refine wpList_app rfl _ _ _ rfl rfl rfl HR5.out ?_)
        go_roundw
        case rel => exact ⟨a5, c5, j + 1, nx st ((0 : Int)), by omega, rfl, by rw [(nx_half hss HXB.out).1], by rw [(nx_half hss HXB.out).2], by go_num, HO5.out, HRUN.out, nx_st hss HXB.out, HG5.out, fun q hq => by
          by_cases hqj : q < j
          · exact HALL.out q hqj
          · obtain rfl : q = j := by omega
            rw [HXX.out]; exact HXB.out⟩
        case measure => simp [intOf]; omega
    · obtain rfl : j = len + 2 := by omega
      go_wp2_with fail
      go_ret2
      have ho := HOWN.out
      rw [List.take_of_length_le (by rw [HZL.out]; omega)] at ho
      refine ⟨fun _ => ⟨a', _, cap', rfl, ho.rd, HG.out⟩, fun hn => ?_⟩
      exfalso
      apply hn
      intro x hx
      obtain ⟨q, hq, rfl⟩ := List.getElem_of_mem hx
      have := HALL.out q (by have := HL.out; omega)
      rwa [List.getElem?_append_left hq, List.getElem?_eq_getElem hq] at this
end Go.Proofs.YtcleegibdcphiaaDoor

/- Layer 28 (code): the functions for bad arguments; the reference's Encode and Positions. -/
namespace Go.Proofs.YtcleegibdcphiaaDoor
open Go.ChangeShapes Go.WideShapes Go.ChangeAt Go.RowKit
open Cod

theorem encode_len (a : Option Addr) (len cap : Nat) (w : World) (h : lenS len = 0) : Calls Tryd.prog 39 #[.slice a len cap] w (TwoPost 2 [] w) := by
  have H := Lib.hid h
  clear h
  go_enter Tryd.func39, Tryd.ntmps39
  go_wp2_with fail
  refine (length_is2 H.out _).mono ?_
  rintro e w' ⟨rfl, rfl⟩
  go_wp2_with fail
  go_ret2
  exact TwoPost.nil 2 _ _ (Gr.refl _)
theorem rencode_len (a : Option Addr) (len cap : Nat) (w : World) (h : lenS len = 0) : Calls Tryd.prog 42 #[.slice a len cap] w (TwoPost 2 [] w) := by
  have H := Lib.hid h
  clear h
  go_enter Tryd.func42, Tryd.ntmps42
  go_wp2_with fail
  refine (rlength_is H.out _).mono ?_
  rintro e w' ⟨rfl, rfl⟩
  go_wp2_with fail
  go_ret2
  exact TwoPost.nil 2 _ _ (Gr.refl _)
theorem encode_no (a : Option Addr) (len cap : Nat) (xs : List Int) (w : World) (hr : Rd .i64 w a len xs) (hx : ¬ isBits xs) (h1 : 1 ≤ len) (h2 : len ≤ 2064) : Calls Tryd.prog 39 #[.slice a len cap] w (TwoPost 4 [] w) := by
  obtain ⟨b, off, rfl, hb, hc⟩ := hr.some (by omega)
  have hlen : lenS len = 2 * ((len : Int) + 2) := by unfold lenS; rw [if_pos (by omega)]
  have hlz : (2 * ((len : Int) + 2) == 0) = false := by simp; omega
  have HX := Lib.hid hx
  have HC := Lib.hid hc
  have HL := Lib.hid hr.1
  have HLEN := Lib.hid hlen
  clear hr hx hc hlen
  go_enter Tryd.func39, Tryd.ntmps39
  go_wp2_with fail
  refine (length_is2 HLEN.out _).mono ?_
  rintro e w' ⟨rfl, rfl⟩
  go_wp2_with fail
  go_loop [17] (fun i => ∃ k : Nat, k ≤ len ∧ i = .int .i64 k ∧ ∀ j, j < k → xs[j]?.getD 0 = 0 ∨ xs[j]?.getD 0 = 1) (fun i => len - (intOf i).toNat)
  case atStart => exact ⟨0, by omega, rfl, fun j hj => by omega⟩
  case round =>
    obtain ⟨k, hk, rfl, hall⟩ := hrel
    have HALL := Lib.hid hall
    clear hall
    by_cases hlt : k < len
    · have ck := HC.out k hlt
      obtain ⟨x, hxx⟩ : ∃ x, xs[k]?.getD 0 = x := ⟨_, rfl⟩
      rw [hxx] at ck
      have HXX := Lib.hid hxx
      clear hxx
      have step : (x = 0 ∨ x = 1) → ∀ j, j < k + 1 → xs[j]?.getD 0 = 0 ∨ xs[j]?.getD 0 = 1 := fun hb j hj => by
        by_cases hjk : j < k
        · exact HALL.out j hjk
        · obtain rfl : j = k := by omega
          rw [HXX.out]; exact hb
      have HS := Lib.hid step
      clear step
      by_cases h0 : x = 0
      · subst h0
        go_wp2_with fail
        go_round
        case rel => exact ⟨k + 1, by omega, by go_num, HS.out (.inl rfl)⟩
        case measure => (simp [intOf] <;> omega)
      · by_cases h1' : x = 1
        · subst h1'
          go_wp2_with fail
          go_round
          case rel => exact ⟨k + 1, by omega, by go_num, HS.out (.inr rfl)⟩
          case measure => (simp [intOf] <;> omega)
        · have b0 : (x == 0) = false := by simpa using h0
          have b1 : (x == 1) = false := by simpa using h1'
          have d0 : (x != 0) = true := by simpa using h0
          have d1 : (x != 1) = true := by simpa using h1'
          go_wp2_with fail
          go_ret2
          exact TwoPost.nil 4 _ _ (Gr.refl _)
    · exfalso
      apply HX.out
      intro x hx
      obtain ⟨j, hj, rfl⟩ := List.getElem_of_mem hx
      have := HALL.out j (by have := HL.out; omega)
      rwa [List.getElem?_eq_getElem hj] at this
end Go.Proofs.YtcleegibdcphiaaDoor

/- Layer 28 (code): Decode and Positions for bad arguments; the reference's Positions. -/
namespace Go.Proofs.YtcleegibdcphiaaDoor
open Go.ChangeShapes Go.WideShapes Go.ChangeAt Go.RowKit
open Cod

set_option maxRecDepth 100000 in
theorem decode_len (a : Option Addr) (len cap : Nat) (n : Int) (w : World) (h : lenS n = 0 ∨ lenS n ≠ len) (_hm : len ≤ 9223372036854775807) : Calls Tryd.prog 52 #[.slice a len cap, .int .i64 n] w (TwoPost 61 [] w) := by
  obtain ⟨r, hr⟩ : ∃ r, lenS n = r := ⟨_, rfl⟩
  rw [hr] at h
  have HR := Lib.hid hr
  clear hr
  by_cases h0 : r = 0
  · subst h0
    clear h
    go_enter Tryd.func52, Tryd.ntmps52
    go_wp2_with fail
    refine (length_is2 HR.out _).mono ?_
    rintro e w' ⟨rfl, rfl⟩
    go_wp2_with fail
    go_ret2
    exact TwoPost.nil 61 _ _ (Gr.refl _)
  · have hb0 : (r == 0) = false := by simpa using h0
    have hne : ¬ r = (len : Int) := by rcases h with h | h <;> omega
    have hb1 : (r == (len : Int)) = false := by simpa using hne
    have hb2 : (r != (len : Int)) = true := by simpa using hne
    have hb3 : ((len : Int) == r) = false := by simpa using fun h => hne h.symm
    have hb4 : ((len : Int) != r) = true := by simpa using fun h => hne h.symm
    clear h h0
    go_enter Tryd.func52, Tryd.ntmps52
    go_wp2_with fail
    refine (length_is2 HR.out _).mono ?_
    rintro e w' ⟨rfl, rfl⟩
    go_wp2_with fail
    refine (length_is2 HR.out _).mono ?_
    rintro e w' ⟨rfl, rfl⟩
    go_wp2_with fail
    go_ret2
    exact TwoPost.nil 61 _ _ (Gr.refl _)
set_option maxRecDepth 100000 in
theorem rdecode_len (a : Option Addr) (len cap : Nat) (n : Int) (w : World) (h : lenS n = 0 ∨ lenS n ≠ len) (_hm : len ≤ 9223372036854775807) : Calls Tryd.prog 58 #[.slice a len cap, .int .i64 n] w (TwoPost 61 [] w) := by
  obtain ⟨r, hr⟩ : ∃ r, lenS n = r := ⟨_, rfl⟩
  rw [hr] at h
  have HR := Lib.hid hr
  clear hr
  by_cases h0 : r = 0
  · subst h0
    clear h
    go_enter Tryd.func58, Tryd.ntmps58
    go_wp2_with fail
    refine (rlength_is HR.out _).mono ?_
    rintro e w' ⟨rfl, rfl⟩
    go_wp2_with fail
    go_ret2
    exact TwoPost.nil 61 _ _ (Gr.refl _)
  · have hb0 : (r == 0) = false := by simpa using h0
    have hne : ¬ r = (len : Int) := by rcases h with h | h <;> omega
    have hb1 : (r == (len : Int)) = false := by simpa using hne
    have hb2 : (r != (len : Int)) = true := by simpa using hne
    have hb3 : ((len : Int) == r) = false := by simpa using fun h => hne h.symm
    have hb4 : ((len : Int) != r) = true := by simpa using fun h => hne h.symm
    clear h h0
    go_enter Tryd.func58, Tryd.ntmps58
    go_wp2_with fail
    refine (rlength_is HR.out _).mono ?_
    rintro e w' ⟨rfl, rfl⟩
    go_wp2_with fail
    refine (rlength_is HR.out _).mono ?_
    rintro e w' ⟨rfl, rfl⟩
    go_wp2_with fail
    go_ret2
    exact TwoPost.nil 61 _ _ (Gr.refl _)
set_option maxRecDepth 100000 in
theorem rdecode_soft (a : Option Addr) (len cap : Nat) (ss : List Int) (n : Int) (w : World) (hr : Rd .i64 w a len ss) (h : lenS n = len) (h0 : lenS n ≠ 0) (hs : ¬ softOk ss) : Calls Tryd.prog 58 #[.slice a len cap, .int .i64 n] w (TwoPost 3 [] w) := by
  have HL := Lib.hid h
  have hl0 : ((len : Int) == 0) = false := by rw [h] at h0; simpa using h0
  have HR := Lib.hid hr
  have HS := Lib.hid hs
  clear h h0 hr hs
  go_enter Tryd.func58, Tryd.ntmps58
  go_wp2_with fail
  refine (rlength_is HL.out _).mono ?_
  rintro e w' ⟨rfl, rfl⟩
  go_wp2_with fail
  refine (rlength_is HL.out _).mono ?_
  rintro e w' ⟨rfl, rfl⟩
  go_wp2_with fail
  refine (soft_no _ _ _ _ _ HR.out HS.out).mono ?_
  rintro e w' ⟨rfl, rfl⟩
  go_wp2_with fail
  go_ret2
  exact TwoPost.nil 3 _ _ (Gr.refl _)
set_option maxRecDepth 100000 in
theorem decode_soft (a : Option Addr) (len cap : Nat) (ss : List Int) (n : Int) (w : World) (hr : Rd .i64 w a len ss) (h : lenS n = len) (h0 : lenS n ≠ 0) (hs : ¬ softOk ss) (hlen : len ≤ 100000) : Calls Tryd.prog 52 #[.slice a len cap, .int .i64 n] w (TwoPost 3 [] w) := by
  have HL := Lib.hid h
  have hl0 : ((len : Int) == 0) = false := by rw [h] at h0; simpa using h0
  have HR := Lib.hid hr
  have HS := Lib.hid hs
  clear h h0 hr hs
  go_enter Tryd.func52, Tryd.ntmps52
  go_wp2_with fail
  refine (length_is2 HL.out _).mono ?_
  rintro e w' ⟨rfl, rfl⟩
  go_wp2_with fail
  refine (length_is2 HL.out _).mono ?_
  rintro e w' ⟨rfl, rfl⟩
  go_wp2_with fail
  go_loop [32] (fun i => ∃ k : Nat, k ≤ len ∧ i = .int .i64 k ∧ ∀ j, j < k → -127 ≤ ss[j]?.getD 0 ∧ ss[j]?.getD 0 ≤ 127) (fun i => len - (intOf i).toNat)
  case atStart => exact ⟨0, by omega, rfl, fun j hj => by omega⟩
  case round =>
    obtain ⟨k, hk, rfl, hall⟩ := hrel
    have HALL := Lib.hid hall
    clear hall
    by_cases hlt : k < len
    · obtain ⟨b, off, ea, -, hc⟩ := HR.out.some (by omega)
      subst ea
      obtain ⟨x, hxx⟩ : ∃ x, ss[k]?.getD 0 = x := ⟨_, rfl⟩
      have ck := hc k hlt
      rw [hxx] at ck
      have HXX := Lib.hid hxx
      clear hc hxx
      by_cases h1 : x < -127
      · go_wp2_with fail
        go_ret2
        exact TwoPost.nil 3 _ _ (Gr.refl _)
      · by_cases h2 : 127 < x
        · go_wp2_with fail
          go_ret2
          exact TwoPost.nil 3 _ _ (Gr.refl _)
        · go_wp2_with fail
          go_round
          case rel => exact ⟨k + 1, by omega, by go_num, fun j hj => by
            by_cases hjk : j < k
            · exact HALL.out j hjk
            · obtain rfl : j = k := by omega
              rw [HXX.out]; omega⟩
          case measure => (simp [intOf] <;> omega)
    · exfalso
      apply HS.out
      intro x hx
      obtain ⟨j, hj, rfl⟩ := List.getElem_of_mem hx
      have := HALL.out j (by have := HR.out.1; omega)
      rwa [List.getElem?_eq_getElem hj] at this
set_option maxHeartbeats 1000000 in
theorem positions_no (t v c : Int) (w : World) (h : ¬ (1 ≤ t ∧ t ≤ 4132 ∧ 0 ≤ v ∧ v < 4 ∧ 1 ≤ c ∧ c ≤ 1152)) : Calls Tryd.prog 41 #[.int .i64 t, .int .i64 v, .int .i64 c] w (TwoPost 3 [] w) := by
  have HL := Lib.hid (show lenS 2064 = 4132 by decide +kernel)
  by_cases q1 : t < 1
  · go_enter Tryd.func41, Tryd.ntmps41
    go_wp2_with fail
    go_ret2
    exact TwoPost.nil 3 _ _ (Gr.refl _)
  by_cases q2 : 4132 < t
  · go_enter Tryd.func41, Tryd.ntmps41
    go_wp2_with fail
    refine (length_is2 HL.out _).mono ?_
    rintro e w' ⟨rfl, rfl⟩
    go_wp2_with fail
    go_ret2
    exact TwoPost.nil 3 _ _ (Gr.refl _)
  by_cases q3 : v < 0
  · go_enter Tryd.func41, Tryd.ntmps41
    go_wp2_with fail
    refine (length_is2 HL.out _).mono ?_
    rintro e w' ⟨rfl, rfl⟩
    go_wp2_with fail
    go_ret2
    exact TwoPost.nil 3 _ _ (Gr.refl _)
  by_cases q4 : 4 ≤ v
  · go_enter Tryd.func41, Tryd.ntmps41
    go_wp2_with fail
    refine (length_is2 HL.out _).mono ?_
    rintro e w' ⟨rfl, rfl⟩
    go_wp2_with fail
    go_ret2
    exact TwoPost.nil 3 _ _ (Gr.refl _)
  by_cases q5 : c < 1
  · go_enter Tryd.func41, Tryd.ntmps41
    go_wp2_with fail
    refine (length_is2 HL.out _).mono ?_
    rintro e w' ⟨rfl, rfl⟩
    go_wp2_with fail
    go_ret2
    exact TwoPost.nil 3 _ _ (Gr.refl _)
  have q6 : 1152 < c := by omega
  go_enter Tryd.func41, Tryd.ntmps41
  go_wp2_with fail
  refine (length_is2 HL.out _).mono ?_
  rintro e w' ⟨rfl, rfl⟩
  go_wp2_with fail
  go_ret2
  exact TwoPost.nil 3 _ _ (Gr.refl _)
set_option maxHeartbeats 1000000 in
theorem rpositions_no (t v c : Int) (w : World) (h : ¬ (1 ≤ t ∧ t ≤ 4132 ∧ 0 ≤ v ∧ v < 4 ∧ 1 ≤ c ∧ c ≤ 1152)) : Calls Tryd.prog 44 #[.int .i64 t, .int .i64 v, .int .i64 c] w (TwoPost 3 [] w) := by
  have HL := Lib.hid (show lenS 2064 = 4132 by decide +kernel)
  by_cases q1 : t < 1
  · go_enter Tryd.func44, Tryd.ntmps44
    go_wp2_with fail
    go_ret2
    exact TwoPost.nil 3 _ _ (Gr.refl _)
  by_cases q2 : 4132 < t
  · go_enter Tryd.func44, Tryd.ntmps44
    go_wp2_with fail
    refine (rlength_is HL.out _).mono ?_
    rintro e w' ⟨rfl, rfl⟩
    go_wp2_with fail
    go_ret2
    exact TwoPost.nil 3 _ _ (Gr.refl _)
  by_cases q3 : v < 0
  · go_enter Tryd.func44, Tryd.ntmps44
    go_wp2_with fail
    refine (rlength_is HL.out _).mono ?_
    rintro e w' ⟨rfl, rfl⟩
    go_wp2_with fail
    go_ret2
    exact TwoPost.nil 3 _ _ (Gr.refl _)
  by_cases q4 : 4 ≤ v
  · go_enter Tryd.func44, Tryd.ntmps44
    go_wp2_with fail
    refine (rlength_is HL.out _).mono ?_
    rintro e w' ⟨rfl, rfl⟩
    go_wp2_with fail
    go_ret2
    exact TwoPost.nil 3 _ _ (Gr.refl _)
  by_cases q5 : c < 1
  · go_enter Tryd.func44, Tryd.ntmps44
    go_wp2_with fail
    refine (rlength_is HL.out _).mono ?_
    rintro e w' ⟨rfl, rfl⟩
    go_wp2_with fail
    go_ret2
    exact TwoPost.nil 3 _ _ (Gr.refl _)
  have q6 : 1152 < c := by omega
  go_enter Tryd.func44, Tryd.ntmps44
  go_wp2_with fail
  refine (rlength_is HL.out _).mono ?_
  rintro e w' ⟨rfl, rfl⟩
  go_wp2_with fail
  go_ret2
  exact TwoPost.nil 3 _ _ (Gr.refl _)
theorem posL_take (t v c k : Nat) (h : k < c) : (posL t v c).take (k + 1) = (posL t v c).take k ++ [(((v * t / 4 + k) % t : Nat) : Int)] := by
  rw [List.take_add_one, ← posL_at t v c k h]
  simp [posL_len, h]
def OwnTwo (er : Int) (ys : List Int) (w : World) (e : Ending) (w' : World) : Prop := ∃ a n cap, e = .returned (.tuple #[.slice a n cap, .int .i64 er]) ∧ OwnI w.heap.size 3 .i64 w' a n cap ys ∧ Gr w w'
set_option maxHeartbeats 1000000 in
set_option maxRecDepth 20000 in
theorem rpositions_own (t v c : Nat) (w : World) (t1 : 1 ≤ t) (t2 : t ≤ 4132) (hv : v < 4) (c1 : 1 ≤ c) (c2 : c ≤ 1152) :
    Calls Tryd.prog 44 #[.int .i64 t, .int .i64 v, .int .i64 c] w (OwnTwo 0 (posL t v c) w) := by
  have HL := Lib.hid (show lenS 2064 = 4132 by decide +kernel)
  have v4 : v = 0 ∨ v = 1 ∨ v = 2 ∨ v = 3 := by omega
  rcases v4 with rfl | rfl | rfl | rfl
  · go_enter Tryd.func44, Tryd.ntmps44
    go_wp2_with fail
    refine (rlength_is HL.out _).mono ?_
    rintro e w' ⟨rfl, rfl⟩
    go_wp2_with fail
    go_loopw [8, 9] (fun s i wr => ∃ (a' : Option Addr) (cap' k : Nat), k ≤ c ∧ s = .slice a' k cap' ∧ i = .int .i64 k ∧ OwnI w.heap.size 3 .i64 wr a' k cap' ((posL t 0 c).take k) ∧ Gr w wr) (fun _ i _ => c - (intOf i).toNat)
    case atStart => exact ⟨none, 0, 0, by omega, rfl, rfl, OwnI.nil _ _ _ _, Gr.refl _⟩
    case round =>
      obtain ⟨a', cap', k, hk, rfl, rfl, ho, hg⟩ := hrel
      have HO := Lib.hid ho
      have HG := Lib.hid hg
      clear ho hg
      by_cases hlt : k < c
      · have htk := posL_take t 0 c k hlt
        have hpv : ((((0) * t / 4 + k) % t : Nat) : Int) = (k : Int) % t := by push_cast; simp
        rw [hpv] at htk
        have b12 : 0 ≤ (k : Int) % t ∧ (k : Int) % t < (t : Int) := ⟨Int.emod_nonneg _ (by omega), Int.emod_lt_of_pos _ (by omega)⟩
        have hrd := rd_new (k := .i64) (w := wr) [(k : Int) % t] 3 (0, 0) 1 rfl (by simp [maxLen]) (by intro z hz; simp at hz; subst hz; exact WalkArith.wf_i64 (by constructor <;> omega))
        obtain ⟨a5, c5, w5, hrun5, ho5, hg5, _⟩ := app_i64 w.heap.size (wr.alloc (.cells ([(k : Int) % t].map (Value.int .i64)).toArray 3)) a' k cap' _ (HO.out.stay (Gr.alloc _ _)) (some ⟨wr.heap.size, 0, none⟩) 1 1 _ hrd (by omega) (Nat.le_trans HG.out.size (by simp))
        rw [← htk] at ho5
        simp only [List.map_cons, List.map_nil] at hrun5
        have HR5 := Lib.hid hrun5
        have HO5 := Lib.hid ho5
        have HG5 := Lib.hid (grown_own (HG.out.trans (Gr.alloc _ _)) (HO.out.stay (Gr.alloc _ _)) (Nat.le_refl _) hg5)
        clear hrun5 ho5 hg5 htk hpv b12 hrd
        go_wp2_with (at_builtin; refine wpList_app rfl _ _ _ rfl rfl rfl HR5.out ?_)
        go_roundw
        case rel => exact ⟨a5, c5, k + 1, by omega, rfl, by go_num, HO5.out, HG5.out⟩
        case measure => (simp [intOf] <;> omega)
      · obtain rfl : k = c := by omega
        go_wp2_with fail
        go_ret2
        have ho := HO.out
        rw [List.take_of_length_le (by rw [posL_len]; omega)] at ho
        exact ⟨a', k, cap', rfl, ho, HG.out⟩
  · go_enter Tryd.func44, Tryd.ntmps44
    go_wp2_with fail
    refine (rlength_is HL.out _).mono ?_
    rintro e w' ⟨rfl, rfl⟩
    go_wp2_with fail
    go_loopw [8, 9] (fun s i wr => ∃ (a' : Option Addr) (cap' k : Nat), k ≤ c ∧ s = .slice a' k cap' ∧ i = .int .i64 k ∧ OwnI w.heap.size 3 .i64 wr a' k cap' ((posL t 1 c).take k) ∧ Gr w wr) (fun _ i _ => c - (intOf i).toNat)
    case atStart => exact ⟨none, 0, 0, by omega, rfl, rfl, OwnI.nil _ _ _ _, Gr.refl _⟩
    case round =>
      obtain ⟨a', cap', k, hk, rfl, rfl, ho, hg⟩ := hrel
      have HO := Lib.hid ho
      have HG := Lib.hid hg
      clear ho hg
      by_cases hlt : k < c
      · have htk := posL_take t 1 c k hlt
        have hpv : ((((1) * t / 4 + k) % t : Nat) : Int) = ((t : Int) / 4 + k) % t := by push_cast; simp
        rw [hpv] at htk
        have b12 : 0 ≤ ((t : Int) / 4 + k) % t ∧ ((t : Int) / 4 + k) % t < (t : Int) := ⟨Int.emod_nonneg _ (by omega), Int.emod_lt_of_pos _ (by omega)⟩
        have hrd := rd_new (k := .i64) (w := wr) [((t : Int) / 4 + k) % t] 3 (0, 0) 1 rfl (by simp [maxLen]) (by intro z hz; simp at hz; subst hz; exact WalkArith.wf_i64 (by constructor <;> omega))
        obtain ⟨a5, c5, w5, hrun5, ho5, hg5, _⟩ := app_i64 w.heap.size (wr.alloc (.cells ([((t : Int) / 4 + k) % t].map (Value.int .i64)).toArray 3)) a' k cap' _ (HO.out.stay (Gr.alloc _ _)) (some ⟨wr.heap.size, 0, none⟩) 1 1 _ hrd (by omega) (Nat.le_trans HG.out.size (by simp))
        rw [← htk] at ho5
        simp only [List.map_cons, List.map_nil] at hrun5
        have HR5 := Lib.hid hrun5
        have HO5 := Lib.hid ho5
        have HG5 := Lib.hid (grown_own (HG.out.trans (Gr.alloc _ _)) (HO.out.stay (Gr.alloc _ _)) (Nat.le_refl _) hg5)
        clear hrun5 ho5 hg5 htk hpv b12 hrd
        go_wp2_with (at_builtin; refine wpList_app rfl _ _ _ rfl rfl rfl HR5.out ?_)
        go_roundw
        case rel => exact ⟨a5, c5, k + 1, by omega, rfl, by go_num, HO5.out, HG5.out⟩
        case measure => (simp [intOf] <;> omega)
      · obtain rfl : k = c := by omega
        go_wp2_with fail
        go_ret2
        have ho := HO.out
        rw [List.take_of_length_le (by rw [posL_len]; omega)] at ho
        exact ⟨a', k, cap', rfl, ho, HG.out⟩
  · go_enter Tryd.func44, Tryd.ntmps44
    go_wp2_with fail
    refine (rlength_is HL.out _).mono ?_
    rintro e w' ⟨rfl, rfl⟩
    go_wp2_with fail
    go_loopw [8, 9] (fun s i wr => ∃ (a' : Option Addr) (cap' k : Nat), k ≤ c ∧ s = .slice a' k cap' ∧ i = .int .i64 k ∧ OwnI w.heap.size 3 .i64 wr a' k cap' ((posL t 2 c).take k) ∧ Gr w wr) (fun _ i _ => c - (intOf i).toNat)
    case atStart => exact ⟨none, 0, 0, by omega, rfl, rfl, OwnI.nil _ _ _ _, Gr.refl _⟩
    case round =>
      obtain ⟨a', cap', k, hk, rfl, rfl, ho, hg⟩ := hrel
      have HO := Lib.hid ho
      have HG := Lib.hid hg
      clear ho hg
      by_cases hlt : k < c
      · have htk := posL_take t 2 c k hlt
        have hpv : ((((2) * t / 4 + k) % t : Nat) : Int) = (2 * (t : Int) / 4 + k) % t := by push_cast; simp
        rw [hpv] at htk
        have b12 : 0 ≤ (2 * (t : Int) / 4 + k) % t ∧ (2 * (t : Int) / 4 + k) % t < (t : Int) := ⟨Int.emod_nonneg _ (by omega), Int.emod_lt_of_pos _ (by omega)⟩
        have hrd := rd_new (k := .i64) (w := wr) [(2 * (t : Int) / 4 + k) % t] 3 (0, 0) 1 rfl (by simp [maxLen]) (by intro z hz; simp at hz; subst hz; exact WalkArith.wf_i64 (by constructor <;> omega))
        obtain ⟨a5, c5, w5, hrun5, ho5, hg5, _⟩ := app_i64 w.heap.size (wr.alloc (.cells ([(2 * (t : Int) / 4 + k) % t].map (Value.int .i64)).toArray 3)) a' k cap' _ (HO.out.stay (Gr.alloc _ _)) (some ⟨wr.heap.size, 0, none⟩) 1 1 _ hrd (by omega) (Nat.le_trans HG.out.size (by simp))
        rw [← htk] at ho5
        simp only [List.map_cons, List.map_nil] at hrun5
        have HR5 := Lib.hid hrun5
        have HO5 := Lib.hid ho5
        have HG5 := Lib.hid (grown_own (HG.out.trans (Gr.alloc _ _)) (HO.out.stay (Gr.alloc _ _)) (Nat.le_refl _) hg5)
        clear hrun5 ho5 hg5 htk hpv b12 hrd
        go_wp2_with (at_builtin; refine wpList_app rfl _ _ _ rfl rfl rfl HR5.out ?_)
        go_roundw
        case rel => exact ⟨a5, c5, k + 1, by omega, rfl, by go_num, HO5.out, HG5.out⟩
        case measure => (simp [intOf] <;> omega)
      · obtain rfl : k = c := by omega
        go_wp2_with fail
        go_ret2
        have ho := HO.out
        rw [List.take_of_length_le (by rw [posL_len]; omega)] at ho
        exact ⟨a', k, cap', rfl, ho, HG.out⟩
  · go_enter Tryd.func44, Tryd.ntmps44
    go_wp2_with fail
    refine (rlength_is HL.out _).mono ?_
    rintro e w' ⟨rfl, rfl⟩
    go_wp2_with fail
    go_loopw [8, 9] (fun s i wr => ∃ (a' : Option Addr) (cap' k : Nat), k ≤ c ∧ s = .slice a' k cap' ∧ i = .int .i64 k ∧ OwnI w.heap.size 3 .i64 wr a' k cap' ((posL t 3 c).take k) ∧ Gr w wr) (fun _ i _ => c - (intOf i).toNat)
    case atStart => exact ⟨none, 0, 0, by omega, rfl, rfl, OwnI.nil _ _ _ _, Gr.refl _⟩
    case round =>
      obtain ⟨a', cap', k, hk, rfl, rfl, ho, hg⟩ := hrel
      have HO := Lib.hid ho
      have HG := Lib.hid hg
      clear ho hg
      by_cases hlt : k < c
      · have htk := posL_take t 3 c k hlt
        have hpv : ((((3) * t / 4 + k) % t : Nat) : Int) = (3 * (t : Int) / 4 + k) % t := by push_cast; simp
        rw [hpv] at htk
        have b12 : 0 ≤ (3 * (t : Int) / 4 + k) % t ∧ (3 * (t : Int) / 4 + k) % t < (t : Int) := ⟨Int.emod_nonneg _ (by omega), Int.emod_lt_of_pos _ (by omega)⟩
        have hrd := rd_new (k := .i64) (w := wr) [(3 * (t : Int) / 4 + k) % t] 3 (0, 0) 1 rfl (by simp [maxLen]) (by intro z hz; simp at hz; subst hz; exact WalkArith.wf_i64 (by constructor <;> omega))
        obtain ⟨a5, c5, w5, hrun5, ho5, hg5, _⟩ := app_i64 w.heap.size (wr.alloc (.cells ([(3 * (t : Int) / 4 + k) % t].map (Value.int .i64)).toArray 3)) a' k cap' _ (HO.out.stay (Gr.alloc _ _)) (some ⟨wr.heap.size, 0, none⟩) 1 1 _ hrd (by omega) (Nat.le_trans HG.out.size (by simp))
        rw [← htk] at ho5
        simp only [List.map_cons, List.map_nil] at hrun5
        have HR5 := Lib.hid hrun5
        have HO5 := Lib.hid ho5
        have HG5 := Lib.hid (grown_own (HG.out.trans (Gr.alloc _ _)) (HO.out.stay (Gr.alloc _ _)) (Nat.le_refl _) hg5)
        clear hrun5 ho5 hg5 htk hpv b12 hrd
        go_wp2_with (at_builtin; refine wpList_app rfl _ _ _ rfl rfl rfl HR5.out ?_)
        go_roundw
        case rel => exact ⟨a5, c5, k + 1, by omega, rfl, by go_num, HO5.out, HG5.out⟩
        case measure => (simp [intOf] <;> omega)
      · obtain rfl : k = c := by omega
        go_wp2_with fail
        go_ret2
        have ho := HO.out
        rw [List.take_of_length_le (by rw [posL_len]; omega)] at ho
        exact ⟨a', k, cap', rfl, ho, HG.out⟩
theorem rpositions_yes (t v c : Nat) (w : World) (t1 : 1 ≤ t) (t2 : t ≤ 4132) (hv : v < 4) (c1 : 1 ≤ c) (c2 : c ≤ 1152) :
    Calls Tryd.prog 44 #[.int .i64 t, .int .i64 v, .int .i64 c] w (TwoPost 0 (posL t v c) w) := by
  refine (rpositions_own t v c w t1 t2 hv c1 c2).mono ?_
  rintro e w' ⟨a, n, cap, rfl, ho, hg⟩
  exact ⟨a, n, cap, rfl, ho.rd, hg⟩
end Go.Proofs.YtcleegibdcphiaaDoor

/- Layer 29 (harq): Answer and Send of the reference. -/
namespace Go.Proofs.YtcleegibdcphiaaDoor
open Go.ChangeShapes Go.WideShapes Go.ChangeAt Go.RowKit
open Cod

def RAnsPost (p : Pc) (blk : List Int) (F : Bool × Bool × Int) (w : World) (e : Ending) (w' : World) : Prop := ∃ a' c', e = .returned (.tuple #[PVal { (if F.1 then p else newP p) with a := a', cap := c' }, .bool F.2.1, .int .i64 F.2.2]) ∧ Rd .u8 w' a' (if F.1 then p else newP p).len (if F.1 then blk else []) ∧ Gr w w'
set_option maxRecDepth 20000 in
set_option maxHeartbeats 2000000 in
theorem ranswer_any (p : Pc) (blk : List Int) (right : Bool) (most : Int) (w : World) (hr : Rd .u8 w p.a p.len blk) :
    Calls Tryd.prog 21 #[PVal p, .bool right, .int .i64 most] w (RAnsPost p blk (ansF p right most) w) := by
  have HR := Lib.hid hr
  clear hr
  unfold PVal
  go_enter Tryd.func21, Tryd.ntmps21
  go_upto_region 1 with (fail)
  obtain ⟨w0, hw0⟩ : ∃ y, y = w.alloc (.cells #[.bool p.act, .slice p.a p.len p.cap, .int .i64 p.coded, .int .i64 p.fresh, .int .i64 p.ver, .int .i64 p.tries] 24) := ⟨_, rfl⟩
  have hb0 : PBlk w.heap.size p w0 := by rw [hw0]; exact heap_alloc_new _ _
  have hg0 : Gr w w0 := by rw [hw0]; exact Gr.alloc _ _
  have hs0 : w0.heap.size = w.heap.size + 1 := by rw [hw0]; simp
  rw [← hw0]
  obtain ⟨w1, hw1⟩ : ∃ y, y = w0.alloc (.cells #[.bool false, .slice none 0 0, .int .i64 0, .int .i64 0, .int .i64 0, .int .i64 0] 24) := ⟨_, rfl⟩
  have hg1 : Gr w0 w1 := by rw [hw1]; exact Gr.alloc _ _
  have hz1 : PBlk (w.heap.size + 1) zeroP w1 := by rw [hw1, ← hs0]; exact heap_alloc_new _ _
  rw [← hw1]
  have HB1 := Lib.hid (hb0.kept hg1)
  have HZ1 := Lib.hid hz1
  have HG1 := Lib.hid (hg0.trans hg1)
  clear hw0 hw1 hb0 hg0 hg1 hz1 hs0
  obtain ⟨V, hV⟩ : ∃ V, validPc p = V := ⟨_, rfl⟩
  have HV := Lib.hid hV
  clear hV
  have hb' := (HB1).out
  unfold PBlk PCells at hb'
  have HB1U := Lib.hid hb'
  clear hb'
  go_wp2_with (refine wpList_load_w rfl 24 _ rfl w.heap.size rfl 24 _ _ _ HB1U.out Tryd.underlying24 rfl (by kernel_rfl) ?_)
  refine (rhvalid_is HV.out w1).mono ?_
  rintro e w2 ⟨rfl, hg2⟩
  have HB2 := Lib.hid (HB1.out.kept hg2)
  have HZ2 := Lib.hid (HZ1.out.kept hg2)
  have HG2 := Lib.hid (HG1.out.trans hg2)
  clear hg2 HB1 HZ1 HG1 HB1U
  have hb' := (HB2).out
  unfold PBlk PCells at hb'
  have HB2U := Lib.hid hb'
  clear hb'
  cases V
  · have HE := Lib.hid (show ansF p right most = (true, false, 1) by unfold ansF; rw [if_pos HV.out])
    obtain ⟨w9, hw9⟩ : ∃ y, y = (w2).setCells (w.heap.size + 1) 0 (PList p) := ⟨_, rfl⟩
    have hz9 := pblk_put (HZ2).out p
    have hg9 := grown_setCells_new (HG2).out (show w.heap.size ≤ w.heap.size + 1 by omega) (PList p) 0
    rw [← hw9] at hz9 hg9
    have HTH := Lib.hid (pblk_there (HZ2).out)
    have HZ9 := Lib.hid hz9
    have HG9 := Lib.hid hg9
    have HW9 := Lib.hid hw9
    clear hw9 hz9 hg9
    go_wp2_with (first | (refine wpList_load_w rfl 24 _ rfl w.heap.size rfl 24 _ _ _ HB2U.out Tryd.underlying24 rfl (by kernel_rfl) ?_) | (refine wpList_store_mid rfl 24 _ _ rfl (w.heap.size + 1) 0 (PList p).toArray rfl rfl HTH.out (by kernel_rfl) (plist_one _) ?_; rw [← HW9.out]))
    refine bodyPost_ret (results_cell_row2h Tryd.results21 _ _ (w.heap.size + 1) _ _ _ _ rfl HZ9.out Tryd.underlying24 rfl (by kernel_rfl)) rfl ?_
    rw [HE.out]
    exact ⟨p.a, p.cap, rfl, rd_gr HR.out HG9.out, HG9.out⟩
  have hnv : ¬ validPc p = false := by rw [HV.out]; simp
  have HNV := Lib.hid hnv
  have htr : 0 ≤ p.tries ∧ p.tries ≤ 32 := by
    have hv := HV.out
    unfold validPc inPc at hv
    simp only [Bool.and_eq_true, decide_eq_true_eq] at hv
    omega
  clear hnv
  have c0 := pblk_at HB2.out 0 (v := .bool p.act) rfl
  have c3 := pblk_at HB2.out 3 (v := .int .i64 p.fresh) rfl
  have c5 := pblk_at HB2.out 5 (v := .int .i64 p.tries) rfl
  by_cases ha : p.act = false
  · rw [ha] at c0
    have HA := Lib.hid ha
    clear ha
    have HE := Lib.hid (show ansF p right most = (true, false, 14) by unfold ansF; rw [if_neg HNV.out, if_pos (Or.inl HA.out)])
    obtain ⟨w9, hw9⟩ : ∃ y, y = (w2).setCells (w.heap.size + 1) 0 (PList p) := ⟨_, rfl⟩
    have hz9 := pblk_put (HZ2).out p
    have hg9 := grown_setCells_new (HG2).out (show w.heap.size ≤ w.heap.size + 1 by omega) (PList p) 0
    rw [← hw9] at hz9 hg9
    have HTH := Lib.hid (pblk_there (HZ2).out)
    have HZ9 := Lib.hid hz9
    have HG9 := Lib.hid hg9
    have HW9 := Lib.hid hw9
    clear hw9 hz9 hg9
    go_wp2_with (first | (refine wpList_load_w rfl 24 _ rfl w.heap.size rfl 24 _ _ _ HB2U.out Tryd.underlying24 rfl (by kernel_rfl) ?_) | (refine wpList_store_mid rfl 24 _ _ rfl (w.heap.size + 1) 0 (PList p).toArray rfl rfl HTH.out (by kernel_rfl) (plist_one _) ?_; rw [← HW9.out]))
    refine bodyPost_ret (results_cell_row2h Tryd.results21 _ _ (w.heap.size + 1) _ _ _ _ rfl HZ9.out Tryd.underlying24 rfl (by kernel_rfl)) rfl ?_
    rw [HE.out]
    exact ⟨p.a, p.cap, rfl, rd_gr HR.out HG9.out, HG9.out⟩
  have ha' : p.act = true := by simpa using ha
  rw [ha'] at c0
  have HA := Lib.hid ha
  clear ha ha'
  by_cases ht : p.tries = 0
  · have HT := Lib.hid ht
    rw [ht] at c5
    clear ht htr
    have HE := Lib.hid (show ansF p right most = (true, false, 14) by unfold ansF; rw [if_neg HNV.out, if_pos (Or.inr HT.out)])
    obtain ⟨w9, hw9⟩ : ∃ y, y = (w2).setCells (w.heap.size + 1) 0 (PList p) := ⟨_, rfl⟩
    have hz9 := pblk_put (HZ2).out p
    have hg9 := grown_setCells_new (HG2).out (show w.heap.size ≤ w.heap.size + 1 by omega) (PList p) 0
    rw [← hw9] at hz9 hg9
    have HTH := Lib.hid (pblk_there (HZ2).out)
    have HZ9 := Lib.hid hz9
    have HG9 := Lib.hid hg9
    have HW9 := Lib.hid hw9
    clear hw9 hz9 hg9
    go_wp2_with (first | (refine wpList_load_w rfl 24 _ rfl w.heap.size rfl 24 _ _ _ HB2U.out Tryd.underlying24 rfl (by kernel_rfl) ?_) | (refine wpList_store_mid rfl 24 _ _ rfl (w.heap.size + 1) 0 (PList p).toArray rfl rfl HTH.out (by kernel_rfl) (plist_one _) ?_; rw [← HW9.out]))
    refine bodyPost_ret (results_cell_row2h Tryd.results21 _ _ (w.heap.size + 1) _ _ _ _ rfl HZ9.out Tryd.underlying24 rfl (by kernel_rfl)) rfl ?_
    rw [HE.out]
    exact ⟨p.a, p.cap, rfl, rd_gr HR.out HG9.out, HG9.out⟩
  have HNT := Lib.hid (show ¬ (p.act = false ∨ p.tries = 0) from fun h => h.elim HA.out ht)
  have ht' : (p.tries == 0) = false := by simpa using ht
  by_cases hm : most < 1
  · have HE := Lib.hid (show ansF p right most = (true, false, 3) by unfold ansF; rw [if_neg HNV.out, if_neg HNT.out, if_pos (Or.inl hm)])
    obtain ⟨w9, hw9⟩ : ∃ y, y = (w2).setCells (w.heap.size + 1) 0 (PList p) := ⟨_, rfl⟩
    have hz9 := pblk_put (HZ2).out p
    have hg9 := grown_setCells_new (HG2).out (show w.heap.size ≤ w.heap.size + 1 by omega) (PList p) 0
    rw [← hw9] at hz9 hg9
    have HTH := Lib.hid (pblk_there (HZ2).out)
    have HZ9 := Lib.hid hz9
    have HG9 := Lib.hid hg9
    have HW9 := Lib.hid hw9
    clear hw9 hz9 hg9
    go_wp2_with (first | (refine wpList_load_w rfl 24 _ rfl w.heap.size rfl 24 _ _ _ HB2U.out Tryd.underlying24 rfl (by kernel_rfl) ?_) | (refine wpList_store_mid rfl 24 _ _ rfl (w.heap.size + 1) 0 (PList p).toArray rfl rfl HTH.out (by kernel_rfl) (plist_one _) ?_; rw [← HW9.out]))
    refine bodyPost_ret (results_cell_row2h Tryd.results21 _ _ (w.heap.size + 1) _ _ _ _ rfl HZ9.out Tryd.underlying24 rfl (by kernel_rfl)) rfl ?_
    rw [HE.out]
    exact ⟨p.a, p.cap, rfl, rd_gr HR.out HG9.out, HG9.out⟩
  by_cases hm2 : 32 < most
  · have HE := Lib.hid (show ansF p right most = (true, false, 3) by unfold ansF; rw [if_neg HNV.out, if_neg HNT.out, if_pos (Or.inr hm2)])
    obtain ⟨w9, hw9⟩ : ∃ y, y = (w2).setCells (w.heap.size + 1) 0 (PList p) := ⟨_, rfl⟩
    have hz9 := pblk_put (HZ2).out p
    have hg9 := grown_setCells_new (HG2).out (show w.heap.size ≤ w.heap.size + 1 by omega) (PList p) 0
    rw [← hw9] at hz9 hg9
    have HTH := Lib.hid (pblk_there (HZ2).out)
    have HZ9 := Lib.hid hz9
    have HG9 := Lib.hid hg9
    have HW9 := Lib.hid hw9
    clear hw9 hz9 hg9
    go_wp2_with (first | (refine wpList_load_w rfl 24 _ rfl w.heap.size rfl 24 _ _ _ HB2U.out Tryd.underlying24 rfl (by kernel_rfl) ?_) | (refine wpList_store_mid rfl 24 _ _ rfl (w.heap.size + 1) 0 (PList p).toArray rfl rfl HTH.out (by kernel_rfl) (plist_one _) ?_; rw [← HW9.out]))
    refine bodyPost_ret (results_cell_row2h Tryd.results21 _ _ (w.heap.size + 1) _ _ _ _ rfl HZ9.out Tryd.underlying24 rfl (by kernel_rfl)) rfl ?_
    rw [HE.out]
    exact ⟨p.a, p.cap, rfl, rd_gr HR.out HG9.out, HG9.out⟩
  have HNM := Lib.hid (show ¬ (most < 1 ∨ 32 < most) from fun h => h.elim hm hm2)
  cases right
  · by_cases hq : p.tries < most
    · have HE := Lib.hid (show ansF p false most = (true, false, 0) by unfold ansF; rw [if_neg HNV.out, if_neg HNT.out, if_neg HNM.out, if_neg (by simp), if_pos hq])
      obtain ⟨w9, hw9⟩ : ∃ y, y = (w2).setCells (w.heap.size + 1) 0 (PList p) := ⟨_, rfl⟩
      have hz9 := pblk_put (HZ2).out p
      have hg9 := grown_setCells_new (HG2).out (show w.heap.size ≤ w.heap.size + 1 by omega) (PList p) 0
      rw [← hw9] at hz9 hg9
      have HTH := Lib.hid (pblk_there (HZ2).out)
      have HZ9 := Lib.hid hz9
      have HG9 := Lib.hid hg9
      have HW9 := Lib.hid hw9
      clear hw9 hz9 hg9
      go_wp2_with (first | (refine wpList_load_w rfl 24 _ rfl w.heap.size rfl 24 _ _ _ HB2U.out Tryd.underlying24 rfl (by kernel_rfl) ?_) | (refine wpList_store_mid rfl 24 _ _ rfl (w.heap.size + 1) 0 (PList p).toArray rfl rfl HTH.out (by kernel_rfl) (plist_one _) ?_; rw [← HW9.out]))
      refine bodyPost_ret (results_cell_row2h Tryd.results21 _ _ (w.heap.size + 1) _ _ _ _ rfl HZ9.out Tryd.underlying24 rfl (by kernel_rfl)) rfl ?_
      rw [HE.out]
      exact ⟨p.a, p.cap, rfl, rd_gr HR.out HG9.out, HG9.out⟩
    · have HE := Lib.hid (show ansF p false most = (false, false, 0) by unfold ansF; rw [if_neg HNV.out, if_neg HNT.out, if_neg HNM.out, if_neg (by simp), if_neg hq])
      obtain ⟨w9, hw9⟩ : ∃ y, y = w2.setCells (w.heap.size + 1) 0 (PList (newP p)) := ⟨_, rfl⟩
      have hz9 := pblk_put HZ2.out (newP p)
      have hg9 := grown_setCells_new HG2.out (show w.heap.size ≤ w.heap.size + 1 by omega) (PList (newP p)) 0
      rw [← hw9] at hz9 hg9
      have HTH := Lib.hid (pblk_there HZ2.out)
      have HZ9 := Lib.hid hz9
      have HG9 := Lib.hid hg9
      have HW9 := Lib.hid hw9
      clear hw9 hz9 hg9
      go_wp2_with (refine wpList_store_mid rfl 24 _ _ rfl (w.heap.size + 1) 0 (PList (newP p)).toArray rfl rfl HTH.out (by kernel_rfl) (plist_one _) ?_; rw [← HW9.out])
      refine bodyPost_ret (results_cell_row2h Tryd.results21 _ _ (w.heap.size + 1) _ _ _ _ rfl HZ9.out Tryd.underlying24 rfl (by kernel_rfl)) rfl ?_
      rw [HE.out]
      exact ⟨none, 0, rfl, ⟨rfl, by simp, by simp [newP], .inl rfl⟩, HG9.out⟩
  · have HE := Lib.hid (show ansF p true most = (false, true, 0) by unfold ansF; rw [if_neg HNV.out, if_neg HNT.out, if_neg HNM.out, if_pos rfl])
    obtain ⟨w9, hw9⟩ : ∃ y, y = w2.setCells (w.heap.size + 1) 0 (PList (newP p)) := ⟨_, rfl⟩
    have hz9 := pblk_put HZ2.out (newP p)
    have hg9 := grown_setCells_new HG2.out (show w.heap.size ≤ w.heap.size + 1 by omega) (PList (newP p)) 0
    rw [← hw9] at hz9 hg9
    have HTH := Lib.hid (pblk_there HZ2.out)
    have HZ9 := Lib.hid hz9
    have HG9 := Lib.hid hg9
    have HW9 := Lib.hid hw9
    clear hw9 hz9 hg9
    go_wp2_with (refine wpList_store_mid rfl 24 _ _ rfl (w.heap.size + 1) 0 (PList (newP p)).toArray rfl rfl HTH.out (by kernel_rfl) (plist_one _) ?_; rw [← HW9.out])
    refine bodyPost_ret (results_cell_row2h Tryd.results21 _ _ (w.heap.size + 1) _ _ _ _ rfl HZ9.out Tryd.underlying24 rfl (by kernel_rfl)) rfl ?_
    rw [HE.out]
    exact ⟨none, 0, rfl, ⟨rfl, by simp, by simp [newP], .inl rfl⟩, HG9.out⟩
def RSendPost (p : Pc) (blk : List Int) (number : Int) (w : World) (e : Ending) (w' : World) : Prop :=
  ∃ a' c' a2 n2 c2, e = .returned (.tuple #[PVal { sendP p number with a := a', cap := c' }, AVal (sendA p number), .slice a2 n2 c2, .int .i64 (sendE p number)]) ∧ Rd .u8 w' a' p.len blk ∧ OwnI w.heap.size 3 .i64 w' a2 n2 c2 (sendS p blk number) ∧ Gr w w'
theorem rpos_is {ver coded : Int} {v c : Nat} (hv : ver = v) (hc : coded = c) (t : Nat) (w : World) (t1 : 1 ≤ t) (t2 : t ≤ 4132) (h4 : v < 4) (c1 : 1 ≤ c) (c2 : c ≤ 1152) :
    Calls Tryd.prog 44 #[.int .i64 t, .int .i64 ver, .int .i64 coded] w (TwoPost 0 (posL t v c) w) := by
  subst hv hc; exact rpositions_yes t v c w t1 t2 h4 c1 c2
set_option maxRecDepth 20000 in
set_option maxHeartbeats 2000000 in
theorem rsend_any (p : Pc) (blk : List Int) (number : Int) (w : World) (hr : Rd .u8 w p.a p.len blk) :
    Calls Tryd.prog 18 #[PVal p, .int .i64 number] w (RSendPost p blk number w) := by
  have HR := Lib.hid hr
  clear hr
  unfold PVal
  go_enter Tryd.func18, Tryd.ntmps18
  go_upto_region 1 with (fail)
  obtain ⟨w0, hw0⟩ : ∃ y, y = w.alloc (.cells #[.bool p.act, .slice p.a p.len p.cap, .int .i64 p.coded, .int .i64 p.fresh, .int .i64 p.ver, .int .i64 p.tries] 24) := ⟨_, rfl⟩
  have hb0 : PBlk w.heap.size p w0 := by rw [hw0]; exact heap_alloc_new _ _
  have hg0 : Gr w w0 := by rw [hw0]; exact Gr.alloc _ _
  have hs0 : w0.heap.size = w.heap.size + 1 := by rw [hw0]; simp
  rw [← hw0]
  obtain ⟨w1, hw1⟩ : ∃ y, y = w0.alloc (.cells #[.bool false, .slice none 0 0, .int .i64 0, .int .i64 0, .int .i64 0, .int .i64 0] 24) := ⟨_, rfl⟩
  have hg1 : Gr w0 w1 := by rw [hw1]; exact Gr.alloc _ _
  have hs1 : w1.heap.size = w.heap.size + 2 := by rw [hw1]; simp [hs0]
  have hz1 : PBlk (w.heap.size + 1) zeroP w1 := by rw [hw1, ← hs0]; exact heap_alloc_new _ _
  rw [← hw1]
  obtain ⟨w2, hw2⟩ : ∃ y, y = w1.alloc (.cells #[.int .i64 0, .int .i64 0, .int .i64 0, .int .i64 0, .int .i64 0] 29) := ⟨_, rfl⟩
  have hg2 : Gr w1 w2 := by rw [hw2]; exact Gr.alloc _ _
  have hs2 : w2.heap.size = w.heap.size + 3 := by rw [hw2]; simp [hs1]
  have ha2 : ABlk (w.heap.size + 2) zeroA w2 := by rw [hw2, ← hs1]; exact heap_alloc_new _ _
  rw [← hw2]
  have HB2 := Lib.hid ((hb0.kept hg1).kept hg2)
  have HZ2 := Lib.hid (hz1.kept hg2)
  have HA2 := Lib.hid ha2
  have HG2 := Lib.hid ((hg0.trans hg1).trans hg2)
  have HS2 := Lib.hid hs2
  clear hw0 hw1 hw2 hb0 hg0 hg1 hg2 hz1 ha2 hs0 hs1 hs2
  obtain ⟨V, hV⟩ : ∃ V, validPc p = V := ⟨_, rfl⟩
  have HV := Lib.hid hV
  clear hV
  have hb' := (HB2).out
  unfold PBlk PCells at hb'
  have HB2U := Lib.hid hb'
  clear hb'
  go_wp2_with (refine wpList_load_w rfl 24 _ rfl w.heap.size rfl 24 _ _ _ HB2U.out Tryd.underlying24 rfl (by kernel_rfl) ?_)
  refine (rhvalid_is HV.out w2).mono ?_
  rintro e w5 ⟨rfl, hg5⟩
  have HB5 := Lib.hid (HB2.out.kept hg5)
  have HZ5 := Lib.hid (HZ2.out.kept hg5)
  have HA5 := Lib.hid (HA2.out.kept hg5)
  have HG5 := Lib.hid (HG2.out.trans hg5)
  clear hg5 HB2 HZ2 HA2 HG2 HB2U HS2
  have hb' := (HB5).out
  unfold PBlk PCells at hb'
  have HB5U := Lib.hid hb'
  clear hb'
  cases V
  · have hE : sendE p number = 1 := by unfold sendE; rw [if_pos HV.out]
    have HQ := Lib.hid (show sendP p number = p by unfold sendP; rw [hE]; rfl)
    have HQA := Lib.hid (show sendA p number = zeroA by unfold sendA; rw [hE]; rfl)
    have HLL := Lib.hid (show sendS p blk number = [] by unfold sendS; rw [hE]; rfl)
    have HE := Lib.hid hE
    clear hE
    obtain ⟨w6, hw6⟩ : ∃ y, y = w5.setCells (w.heap.size + 1) 0 (PList p) := ⟨_, rfl⟩
    have hz6 := pblk_put HZ5.out p
    have ha6 := ablk_other HA5.out (k := w.heap.size + 1) (PList p) (by omega)
    have hg6 := grown_setCells_new HG5.out (show w.heap.size ≤ w.heap.size + 1 by omega) (PList p) 0
    rw [← hw6] at hz6 ha6 hg6
    obtain ⟨w7, hw7⟩ : ∃ y, y = w6.setCells (w.heap.size + 2) 0 (AList zeroA) := ⟨_, rfl⟩
    have hz7 := pblk_other hz6 (k := w.heap.size + 2) (AList zeroA) (by omega)
    have ha7 := ablk_put ha6 zeroA
    have hg7 := grown_setCells_new hg6 (show w.heap.size ≤ w.heap.size + 2 by omega) (AList zeroA) 0
    rw [← hw7] at hz7 ha7 hg7
    have HTHP := Lib.hid (pblk_there HZ5.out)
    have HTHA := Lib.hid (ablk_there ha6)
    have HZ7 := Lib.hid hz7
    have HA7 := Lib.hid ha7
    have HG7 := Lib.hid hg7
    have HW6 := Lib.hid hw6
    have HW7 := Lib.hid hw7
    clear hw6 hw7 hz6 ha6 hg6 hz7 ha7 hg7
    go_wp2_with (first | (refine wpList_load_w rfl 24 _ rfl w.heap.size rfl 24 _ _ _ HB5U.out Tryd.underlying24 rfl (by kernel_rfl) ?_) | (refine wpList_store_mid rfl 24 _ _ rfl (w.heap.size + 1) 0 (PList p).toArray rfl rfl HTHP.out (by kernel_rfl) (plist_one _) ?_; rw [← HW6.out]) | (refine wpList_store_mid rfl 29 _ _ rfl (w.heap.size + 2) 0 (AList zeroA).toArray rfl rfl HTHA.out (by kernel_rfl) (alist_one _) ?_; rw [← HW7.out]))
    refine bodyPost_ret (results_cell_cell2 Tryd.results18 _ _ (w.heap.size + 1) _ _ _ _ rfl HZ7.out Tryd.underlying24 rfl (by kernel_rfl) (w.heap.size + 2) _ _ _ _ rfl HA7.out Tryd.underlying29 rfl (by kernel_rfl)) rfl ?_
    unfold RSendPost
    rw [HQ.out, HQA.out, HLL.out, HE.out]
    exact ⟨p.a, p.cap, none, 0, 0, rfl, rd_gr HR.out HG7.out, OwnI.nil _ _ _ _, HG7.out⟩
  have hnv : ¬ validPc p = false := by rw [HV.out]; simp
  have HNV := Lib.hid hnv
  clear hnv
  have c0 := pblk_at HB5.out 0 (v := .bool p.act) rfl
  have c5 := pblk_at HB5.out 5 (v := .int .i64 p.tries) rfl
  by_cases ha : p.act = false
  · rw [ha] at c0
    have HA := Lib.hid ha
    clear ha
    have hE : sendE p number = 14 := by unfold sendE; rw [if_neg HNV.out, if_pos HA.out]
    have HQ := Lib.hid (show sendP p number = p by unfold sendP; rw [hE]; rfl)
    have HQA := Lib.hid (show sendA p number = zeroA by unfold sendA; rw [hE]; rfl)
    have HLL := Lib.hid (show sendS p blk number = [] by unfold sendS; rw [hE]; rfl)
    have HE := Lib.hid hE
    clear hE
    obtain ⟨w6, hw6⟩ : ∃ y, y = w5.setCells (w.heap.size + 1) 0 (PList p) := ⟨_, rfl⟩
    have hz6 := pblk_put HZ5.out p
    have ha6 := ablk_other HA5.out (k := w.heap.size + 1) (PList p) (by omega)
    have hg6 := grown_setCells_new HG5.out (show w.heap.size ≤ w.heap.size + 1 by omega) (PList p) 0
    rw [← hw6] at hz6 ha6 hg6
    obtain ⟨w7, hw7⟩ : ∃ y, y = w6.setCells (w.heap.size + 2) 0 (AList zeroA) := ⟨_, rfl⟩
    have hz7 := pblk_other hz6 (k := w.heap.size + 2) (AList zeroA) (by omega)
    have ha7 := ablk_put ha6 zeroA
    have hg7 := grown_setCells_new hg6 (show w.heap.size ≤ w.heap.size + 2 by omega) (AList zeroA) 0
    rw [← hw7] at hz7 ha7 hg7
    have HTHP := Lib.hid (pblk_there HZ5.out)
    have HTHA := Lib.hid (ablk_there ha6)
    have HZ7 := Lib.hid hz7
    have HA7 := Lib.hid ha7
    have HG7 := Lib.hid hg7
    have HW6 := Lib.hid hw6
    have HW7 := Lib.hid hw7
    clear hw6 hw7 hz6 ha6 hg6 hz7 ha7 hg7
    go_wp2_with (first | (refine wpList_load_w rfl 24 _ rfl w.heap.size rfl 24 _ _ _ HB5U.out Tryd.underlying24 rfl (by kernel_rfl) ?_) | (refine wpList_store_mid rfl 24 _ _ rfl (w.heap.size + 1) 0 (PList p).toArray rfl rfl HTHP.out (by kernel_rfl) (plist_one _) ?_; rw [← HW6.out]) | (refine wpList_store_mid rfl 29 _ _ rfl (w.heap.size + 2) 0 (AList zeroA).toArray rfl rfl HTHA.out (by kernel_rfl) (alist_one _) ?_; rw [← HW7.out]))
    refine bodyPost_ret (results_cell_cell2 Tryd.results18 _ _ (w.heap.size + 1) _ _ _ _ rfl HZ7.out Tryd.underlying24 rfl (by kernel_rfl) (w.heap.size + 2) _ _ _ _ rfl HA7.out Tryd.underlying29 rfl (by kernel_rfl)) rfl ?_
    unfold RSendPost
    rw [HQ.out, HQA.out, HLL.out, HE.out]
    exact ⟨p.a, p.cap, none, 0, 0, rfl, rd_gr HR.out HG7.out, OwnI.nil _ _ _ _, HG7.out⟩
  have ha' : p.act = true := by simpa using ha
  rw [ha'] at c0
  have HNA := Lib.hid ha
  clear ha ha'
  by_cases hm : number < 0
  · have hE : sendE p number = 3 := by unfold sendE; rw [if_neg HNV.out, if_neg HNA.out, if_pos (Or.inl hm)]
    have HQ := Lib.hid (show sendP p number = p by unfold sendP; rw [hE]; rfl)
    have HQA := Lib.hid (show sendA p number = zeroA by unfold sendA; rw [hE]; rfl)
    have HLL := Lib.hid (show sendS p blk number = [] by unfold sendS; rw [hE]; rfl)
    have HE := Lib.hid hE
    clear hE
    obtain ⟨w6, hw6⟩ : ∃ y, y = w5.setCells (w.heap.size + 1) 0 (PList p) := ⟨_, rfl⟩
    have hz6 := pblk_put HZ5.out p
    have ha6 := ablk_other HA5.out (k := w.heap.size + 1) (PList p) (by omega)
    have hg6 := grown_setCells_new HG5.out (show w.heap.size ≤ w.heap.size + 1 by omega) (PList p) 0
    rw [← hw6] at hz6 ha6 hg6
    obtain ⟨w7, hw7⟩ : ∃ y, y = w6.setCells (w.heap.size + 2) 0 (AList zeroA) := ⟨_, rfl⟩
    have hz7 := pblk_other hz6 (k := w.heap.size + 2) (AList zeroA) (by omega)
    have ha7 := ablk_put ha6 zeroA
    have hg7 := grown_setCells_new hg6 (show w.heap.size ≤ w.heap.size + 2 by omega) (AList zeroA) 0
    rw [← hw7] at hz7 ha7 hg7
    have HTHP := Lib.hid (pblk_there HZ5.out)
    have HTHA := Lib.hid (ablk_there ha6)
    have HZ7 := Lib.hid hz7
    have HA7 := Lib.hid ha7
    have HG7 := Lib.hid hg7
    have HW6 := Lib.hid hw6
    have HW7 := Lib.hid hw7
    clear hw6 hw7 hz6 ha6 hg6 hz7 ha7 hg7
    go_wp2_with (first | (refine wpList_load_w rfl 24 _ rfl w.heap.size rfl 24 _ _ _ HB5U.out Tryd.underlying24 rfl (by kernel_rfl) ?_) | (refine wpList_store_mid rfl 24 _ _ rfl (w.heap.size + 1) 0 (PList p).toArray rfl rfl HTHP.out (by kernel_rfl) (plist_one _) ?_; rw [← HW6.out]) | (refine wpList_store_mid rfl 29 _ _ rfl (w.heap.size + 2) 0 (AList zeroA).toArray rfl rfl HTHA.out (by kernel_rfl) (alist_one _) ?_; rw [← HW7.out]))
    refine bodyPost_ret (results_cell_cell2 Tryd.results18 _ _ (w.heap.size + 1) _ _ _ _ rfl HZ7.out Tryd.underlying24 rfl (by kernel_rfl) (w.heap.size + 2) _ _ _ _ rfl HA7.out Tryd.underlying29 rfl (by kernel_rfl)) rfl ?_
    unfold RSendPost
    rw [HQ.out, HQA.out, HLL.out, HE.out]
    exact ⟨p.a, p.cap, none, 0, 0, rfl, rd_gr HR.out HG7.out, OwnI.nil _ _ _ _, HG7.out⟩
  by_cases hm2 : 4 ≤ number
  · have hE : sendE p number = 3 := by unfold sendE; rw [if_neg HNV.out, if_neg HNA.out, if_pos (Or.inr hm2)]
    have HQ := Lib.hid (show sendP p number = p by unfold sendP; rw [hE]; rfl)
    have HQA := Lib.hid (show sendA p number = zeroA by unfold sendA; rw [hE]; rfl)
    have HLL := Lib.hid (show sendS p blk number = [] by unfold sendS; rw [hE]; rfl)
    have HE := Lib.hid hE
    clear hE
    obtain ⟨w6, hw6⟩ : ∃ y, y = w5.setCells (w.heap.size + 1) 0 (PList p) := ⟨_, rfl⟩
    have hz6 := pblk_put HZ5.out p
    have ha6 := ablk_other HA5.out (k := w.heap.size + 1) (PList p) (by omega)
    have hg6 := grown_setCells_new HG5.out (show w.heap.size ≤ w.heap.size + 1 by omega) (PList p) 0
    rw [← hw6] at hz6 ha6 hg6
    obtain ⟨w7, hw7⟩ : ∃ y, y = w6.setCells (w.heap.size + 2) 0 (AList zeroA) := ⟨_, rfl⟩
    have hz7 := pblk_other hz6 (k := w.heap.size + 2) (AList zeroA) (by omega)
    have ha7 := ablk_put ha6 zeroA
    have hg7 := grown_setCells_new hg6 (show w.heap.size ≤ w.heap.size + 2 by omega) (AList zeroA) 0
    rw [← hw7] at hz7 ha7 hg7
    have HTHP := Lib.hid (pblk_there HZ5.out)
    have HTHA := Lib.hid (ablk_there ha6)
    have HZ7 := Lib.hid hz7
    have HA7 := Lib.hid ha7
    have HG7 := Lib.hid hg7
    have HW6 := Lib.hid hw6
    have HW7 := Lib.hid hw7
    clear hw6 hw7 hz6 ha6 hg6 hz7 ha7 hg7
    go_wp2_with (first | (refine wpList_load_w rfl 24 _ rfl w.heap.size rfl 24 _ _ _ HB5U.out Tryd.underlying24 rfl (by kernel_rfl) ?_) | (refine wpList_store_mid rfl 24 _ _ rfl (w.heap.size + 1) 0 (PList p).toArray rfl rfl HTHP.out (by kernel_rfl) (plist_one _) ?_; rw [← HW6.out]) | (refine wpList_store_mid rfl 29 _ _ rfl (w.heap.size + 2) 0 (AList zeroA).toArray rfl rfl HTHA.out (by kernel_rfl) (alist_one _) ?_; rw [← HW7.out]))
    refine bodyPost_ret (results_cell_cell2 Tryd.results18 _ _ (w.heap.size + 1) _ _ _ _ rfl HZ7.out Tryd.underlying24 rfl (by kernel_rfl) (w.heap.size + 2) _ _ _ _ rfl HA7.out Tryd.underlying29 rfl (by kernel_rfl)) rfl ?_
    unfold RSendPost
    rw [HQ.out, HQA.out, HLL.out, HE.out]
    exact ⟨p.a, p.cap, none, 0, 0, rfl, rd_gr HR.out HG7.out, OwnI.nil _ _ _ _, HG7.out⟩
  have HNM := Lib.hid (show ¬ (number < 0 ∨ 4 ≤ number) from fun h => h.elim hm hm2)
  by_cases ht : p.tries = 32
  · have HT := Lib.hid ht
    rw [ht] at c5
    clear ht
    have hE : sendE p number = 13 := by unfold sendE; rw [if_neg HNV.out, if_neg HNA.out, if_neg HNM.out, if_pos HT.out]
    have HQ := Lib.hid (show sendP p number = p by unfold sendP; rw [hE]; rfl)
    have HQA := Lib.hid (show sendA p number = zeroA by unfold sendA; rw [hE]; rfl)
    have HLL := Lib.hid (show sendS p blk number = [] by unfold sendS; rw [hE]; rfl)
    have HE := Lib.hid hE
    clear hE
    obtain ⟨w6, hw6⟩ : ∃ y, y = w5.setCells (w.heap.size + 1) 0 (PList p) := ⟨_, rfl⟩
    have hz6 := pblk_put HZ5.out p
    have ha6 := ablk_other HA5.out (k := w.heap.size + 1) (PList p) (by omega)
    have hg6 := grown_setCells_new HG5.out (show w.heap.size ≤ w.heap.size + 1 by omega) (PList p) 0
    rw [← hw6] at hz6 ha6 hg6
    obtain ⟨w7, hw7⟩ : ∃ y, y = w6.setCells (w.heap.size + 2) 0 (AList zeroA) := ⟨_, rfl⟩
    have hz7 := pblk_other hz6 (k := w.heap.size + 2) (AList zeroA) (by omega)
    have ha7 := ablk_put ha6 zeroA
    have hg7 := grown_setCells_new hg6 (show w.heap.size ≤ w.heap.size + 2 by omega) (AList zeroA) 0
    rw [← hw7] at hz7 ha7 hg7
    have HTHP := Lib.hid (pblk_there HZ5.out)
    have HTHA := Lib.hid (ablk_there ha6)
    have HZ7 := Lib.hid hz7
    have HA7 := Lib.hid ha7
    have HG7 := Lib.hid hg7
    have HW6 := Lib.hid hw6
    have HW7 := Lib.hid hw7
    clear hw6 hw7 hz6 ha6 hg6 hz7 ha7 hg7
    go_wp2_with (first | (refine wpList_load_w rfl 24 _ rfl w.heap.size rfl 24 _ _ _ HB5U.out Tryd.underlying24 rfl (by kernel_rfl) ?_) | (refine wpList_store_mid rfl 24 _ _ rfl (w.heap.size + 1) 0 (PList p).toArray rfl rfl HTHP.out (by kernel_rfl) (plist_one _) ?_; rw [← HW6.out]) | (refine wpList_store_mid rfl 29 _ _ rfl (w.heap.size + 2) 0 (AList zeroA).toArray rfl rfl HTHA.out (by kernel_rfl) (alist_one _) ?_; rw [← HW7.out]))
    refine bodyPost_ret (results_cell_cell2 Tryd.results18 _ _ (w.heap.size + 1) _ _ _ _ rfl HZ7.out Tryd.underlying24 rfl (by kernel_rfl) (w.heap.size + 2) _ _ _ _ rfl HA7.out Tryd.underlying29 rfl (by kernel_rfl)) rfl ?_
    unfold RSendPost
    rw [HQ.out, HQA.out, HLL.out, HE.out]
    exact ⟨p.a, p.cap, none, 0, 0, rfl, rd_gr HR.out HG7.out, OwnI.nil _ _ _ _, HG7.out⟩
  have ht' : (p.tries == 32) = false := by simpa using ht
  obtain ⟨hE, f1, f2, f3, f4, f5⟩ := send_facts HNV.out HNA.out HNM.out ht
  have HE := Lib.hid hE
  clear hE
  go_upto_region 9 with (fail)
  obtain ⟨v, hv⟩ : ∃ v : Nat, p.ver = v := ⟨p.ver.toNat, by omega⟩
  obtain ⟨c, hc⟩ : ∃ c : Nat, p.coded = c := ⟨p.coded.toNat, by omega⟩
  have HQ := Lib.hid (show sendP p number = { p with tries := p.tries + 1, ver := (p.ver + 1) % 4 } by unfold sendP; rw [if_pos HE.out])
  have HQA := Lib.hid (show sendA p number = ⟨number, p.fresh, p.ver, p.len, p.coded⟩ by unfold sendA; rw [if_pos HE.out])
  have HLL := Lib.hid (show sendS p blk number = sentL blk v c by unfold sendS; rw [if_pos HE.out, hv, hc]; rfl)
  have hv4 : v < 4 := by omega
  have hc1 : 1 ≤ c ∧ c ≤ 1152 := by omega
  have HVV := Lib.hid hv
  have HCC := Lib.hid hc
  have HRL := Lib.hid HR.out.1
  clear hv hc
  have c1 := pblk_at HB5.out 1 (v := .slice p.a p.len p.cap) rfl
  have c2 := pblk_at HB5.out 2 (v := .int .i64 p.coded) rfl
  have c4 := pblk_at HB5.out 4 (v := .int .i64 p.ver) rfl
  clear c0 c5
  go_wp2_with fail
  refine (rhword_any p.a p.len p.cap blk w5 (rd_gr HR.out HG5.out) (by omega)).mono ?_
  rintro e w6 ⟨a6, c6, rfl, ho6, hg6⟩
  go_wp2_with fail
  refine (rencode_any a6 (8 * p.len + 16) c6 (wordL blk) w6 ho6.rd (by omega) (by omega)).mono ?_
  rintro e w7 ⟨hy, -⟩
  obtain ⟨a7, n7, c7, rfl, hr7, hg7⟩ := hy (wordL_bits blk)
  have c2 := (hg6.trans hg7).cell c2
  have c4 := (hg6.trans hg7).cell c4
  have hg57 := hg6.trans hg7
  obtain ⟨T, hT⟩ : ∃ T, totN p.len = T := ⟨_, rfl⟩
  have hT1 : 1 ≤ T ∧ T ≤ 4132 := by unfold totN at hT; omega
  have hn7 : n7 = T := by rw [← hr7.1, encW_len, HRL.out, hT]
  subst hn7
  have HTT := Lib.hid hT
  clear hT ho6 hg6 hg7 c1 hy
  go_wp2_with fail
  refine (rpos_is HVV.out HCC.out n7 w7 hT1.1 hT1.2 hv4 hc1.1 hc1.2).mono ?_
  rintro e w8 ⟨g8, n8, c8, rfl, hr8, hg8⟩
  have hn8 : n8 = c := by rw [← hr8.1, posL_len]
  subst hn8
  have HE8 := Lib.hid (rd_gr hr7 hg8)
  have HP8 := Lib.hid hr8
  have hg58 := hg57.trans hg8
  have HB8 := Lib.hid (HB5.out.kept hg58)
  have HZ8 := Lib.hid (HZ5.out.kept hg58)
  have HA8 := Lib.hid (HA5.out.kept hg58)
  have HG8 := Lib.hid (HG5.out.trans hg58)
  have h28s := heap_lt HA8.out
  clear hr7 hg57 hg58 hg8 hr8 c2 c4 HB5 HZ5 HA5 HG5 HB5U
  go_wp2_with fail
  go_loopw [12, 13] (fun o i wr => ∃ (ak : Option Addr) (ck k : Nat), k ≤ n8 ∧ o = .slice ak k ck ∧ i = .int .i64 k ∧ OwnI w8.heap.size 3 .i64 wr ak k ck ((sentL blk v n8).take k) ∧ Gr w8 wr) (fun _ i _ => n8 - (intOf i).toNat)
  case atStart => exact ⟨none, 0, 0, by omega, rfl, rfl, OwnI.nil _ _ _ _, Gr.refl _⟩
  case round =>
    obtain ⟨ak, ck, k, hk, rfl, rfl, ho, hg⟩ := hrel
    have HO := Lib.hid ho
    have HG := Lib.hid hg
    clear ho hg
    by_cases hlt : k < n8
    · obtain ⟨b1, off1, ea, _, hcp⟩ := HP8.out.some (by omega)
      subst ea
      have hplt := plc_lt (t := n7) (v := v) (k := k) (by omega)
      have cp := HG.out.cell (hcp k hlt)
      rw [posL_plc n7 v n8 k hlt] at cp
      obtain ⟨b2, off2, ea, _, hce⟩ := HE8.out.some (by omega)
      subst ea
      have ce := HG.out.cell (hce (plc n7 v k) hplt)
      have hsn := sentL_at blk v n8 k hlt
      rw [HRL.out, HTT.out] at hsn
      have htk := take_one (sentL blk v n8) k (by rw [sentL_len]; exact hlt)
      rw [hsn] at htk
      obtain ⟨x, hx⟩ : ∃ x, (enc (wordL blk))[plc n7 v k]?.getD 0 = x := ⟨_, rfl⟩
      have hxb := bit_at (encW_bits blk) (plc n7 v k)
      obtain ⟨j, hj⟩ : ∃ j, plc n7 v k = j := ⟨_, rfl⟩
      rw [hx] at ce htk hxb
      rw [hj] at cp hplt ce
      have hrd := rd_new (k := .i64) (w := wr) [x] 3 (0, 0) 1 rfl (by simp [maxLen]) (by intro z hz; simp only [List.mem_singleton] at hz; subst hz; exact WalkArith.wf_i64 (by constructor <;> omega))
      obtain ⟨a9, c9, w9, hrun9, ho9, hg9, _⟩ := app_i64 w8.heap.size (wr.alloc (.cells ([x].map (Value.int .i64)).toArray 3)) ak k ck _ (HO.out.stay (Gr.alloc _ _)) (some ⟨wr.heap.size, 0, none⟩) 1 1 _ hrd (by omega) (Nat.le_trans HG.out.size (by simp))
      rw [← htk] at ho9
      simp only [List.map_cons, List.map_nil] at hrun9
      have HR9 := Lib.hid hrun9
      have HO9 := Lib.hid ho9
      have HG9 := Lib.hid (grown_own (HG.out.trans (Gr.alloc _ _)) (HO.out.stay (Gr.alloc _ _)) (Nat.le_refl _) hg9)
      clear hrun9 ho9 hg9 hrd hxb htk hx hj hsn hcp hce
      go_wp2_with (at_builtin; refine wpList_app rfl _ _ _ rfl rfl rfl HR9.out ?_)
      go_roundw
      case rel => exact ⟨a9, c9, k + 1, by omega, rfl, by go_num, HO9.out, HG9.out⟩
      case measure => (simp [intOf] <;> omega)
    · obtain rfl : k = n8 := by omega
      have ho := HO.out
      rw [List.take_of_length_le (by rw [sentL_len]; exact Nat.le_refl _)] at ho
      have HO2 := Lib.hid ho
      have HBr := Lib.hid (HB8.out.kept HG.out)
      clear ho HO
      -- the announcement's variable
      obtain ⟨A, hA⟩ : ∃ A : An, A = ⟨number, p.fresh, p.ver, p.len, p.coded⟩ := ⟨_, rfl⟩
      have c1 := pblk_at HBr.out 1 (v := .slice p.a p.len p.cap) rfl
      have c2 := pblk_at HBr.out 2 (v := .int .i64 p.coded) rfl
      have c3 := pblk_at HBr.out 3 (v := .int .i64 p.fresh) rfl
      have c4 := pblk_at HBr.out 4 (v := .int .i64 p.ver) rfl
      obtain ⟨x0, hx0⟩ : ∃ y, y = wr.alloc (.cells #[.int .i64 0, .int .i64 0, .int .i64 0, .int .i64 0, .int .i64 0] 29) := ⟨_, rfl⟩
      have hag0 : Gr wr x0 := by rw [hx0]; exact Gr.alloc _ _
      have ha0 : ABlk wr.heap.size zeroA x0 := by rw [hx0]; exact heap_alloc_new _ _
      obtain ⟨x1, hx1⟩ : ∃ y, y = x0.setCells wr.heap.size 0 (AList A) := ⟨_, rfl⟩
      have ha1 : ABlk wr.heap.size A x1 := by rw [hx1]; exact ablk_put ha0 A
      have hg1 : Gr wr x1 := by rw [hx1]; exact grown_setCells_new hag0 (Nat.le_refl _) _ _
      have HX0 := Lib.hid hx0
      have HX1 := Lib.hid hx1
      have HAA := Lib.hid hA
      have HTA := Lib.hid (ablk_there ha0)
      have HA1 := Lib.hid ha1
      have HG1 := Lib.hid hg1
      have HG2' := Lib.hid hag0
      clear hx0 hx1 hA ha0 ha1 hg1 hag0
      go_upto_region 17 with (rw [← HX0.out]; refine wpList_store_mid rfl 29 _ _ rfl wr.heap.size 0 (AList A).toArray rfl (by rw [HAA.out]; rfl) HTA.out (by kernel_rfl) (alist_one _) ?_; rw [← HX1.out])
      clear c1 c2 c3 c4 HX0 HX1 HTA
      have c5 := pblk_at (HBr.out.kept HG1.out) 5 (v := .int .i64 p.tries) rfl
      have f5 := frozen_of_block (HBr.out.kept HG1.out) 5
      go_upto_region 18 with (fail)
      obtain ⟨x2, hx2⟩ : ∃ y, y = x1.setCell ⟨w.heap.size, 5, none⟩ (.int .i64 (p.tries + 1)) := ⟨_, rfl⟩
      rw [← hx2]
      have hb2 : PBlk w.heap.size { p with tries := p.tries + 1 } x2 := by
        rw [hx2]; exact heap_setCell_eq (HBr.out.kept HG1.out) 5 (.int .i64 (p.tries + 1))
      have hgs2 : x1.grownBy x2 (some w.heap.size) := by rw [hx2]; exact grown_setAt _ _ _ _
      have hgw2 : Gr w x2 := by rw [hx2]; exact grown_set ((HG8.out.trans HG.out).trans HG1.out) (a := ⟨w.heap.size, 5, none⟩) (Nat.le_refl _) _
      have c4 := pblk_at hb2 4 (v := .int .i64 p.ver) rfl
      have f4 := frozen_of_block hb2 4
      clear hx2 c5 f5
      go_upto_region 19 with (fail)
      obtain ⟨x3, hx3⟩ : ∃ y, y = x2.setCell ⟨w.heap.size, 4, none⟩ (.int .i64 ((p.ver + 1) % 4)) := ⟨_, rfl⟩
      rw [← hx3]
      obtain ⟨q, hq⟩ : ∃ q : Pc, q = { p with tries := p.tries + 1, ver := (p.ver + 1) % 4 } := ⟨_, rfl⟩
      have hb3 : PBlk w.heap.size q x3 := by rw [hx3, hq]; exact heap_setCell_eq hb2 4 (.int .i64 ((p.ver + 1) % 4))
      have hgs3 : x2.grownBy x3 (some w.heap.size) := by rw [hx3]; exact grown_setAt _ _ _ _
      have hgw3 : Gr w x3 := by rw [hx3]; exact grown_set hgw2 (a := ⟨w.heap.size, 4, none⟩) (Nat.le_refl _) _
      have hws := HG8.out.size
      have hwr := HG.out.size
      have hkb : ∀ {g : Nat} {o : Obj}, x1.heap[g]? = some o → g ≠ w.heap.size → x3.heap[g]? = some o := by
        intro g o h hgk
        exact (hgs3.block g (heap_lt ((hgs2.block g (heap_lt h) (by simpa using hgk)).trans h)) (by simpa using hgk)).trans ((hgs2.block g (heap_lt h) (by simpa using hgk)).trans h)
      have hz3 : PBlk (w.heap.size + 1) zeroP x3 := hkb ((HZ8.out.kept HG.out).kept HG1.out) (by omega)
      have ha3 : ABlk (w.heap.size + 2) zeroA x3 := hkb ((HA8.out.kept HG.out).kept HG1.out) (by omega)
      have hat3 : ABlk wr.heap.size A x3 := hkb HA1.out (by omega)
      have hol3 : OwnI w8.heap.size 3 .i64 x3 ak k ck (sentL blk v k) := by
        have hne : (Value.slice ak k ck).ownBlock = none ∨ (Value.slice ak k ck).ownBlock ≠ some w.heap.size := by
          cases hv : (Value.slice ak k ck).ownBlock with
          | none => exact .inl rfl
          | some b => exact .inr (by intro h2; have := (HO2.out.below b hv).1; cases h2; omega)
        exact ((HO2.out.stay HG1.out).kept hgs2 hne).kept hgs3 hne
      have HOL := Lib.hid hol3
      have HBX := Lib.hid hb3
      have HZX := Lib.hid hz3
      have HAX := Lib.hid ha3
      have HTX := Lib.hid hat3
      have HGX := Lib.hid hgw3
      have HQQ := Lib.hid hq
      have HSR := Lib.hid (show w.heap.size + 2 < w8.heap.size ∧ w8.heap.size ≤ wr.heap.size from ⟨h28s, hwr⟩)
      clear hx3 hq hb2 hgs2 hgw2 hb3 hgs3 hgw3 hz3 ha3 hat3 hol3 hkb c4 f4 hws hwr
      have hI : ∀ u, Gr x3 u → ABlk wr.heap.size A u := fun u hu => HTX.out.kept hu
      refine Sched2.wp_region_sched (fun u => ABlk wr.heap.size A u) [1, 2] [] [3, 4, 5, 6] true hI (by kernel_rfl) (by kernel_rfl) ?_
      refine Sched2.walk1_gr rfl rfl rfl rfl (fun K hK => ?_)
      refine ⟨PVal q, fun w1 hw1 => Sched2.pq_load_row 24 _ rfl w.heap.size rfl _ _ _ _ (HBX.out.kept hw1) Tryd.underlying24 rfl (by kernel_rfl), ?_⟩
      simp only [Act.put, List.setIfInBounds_toArray, List.set_cons_zero, List.set_cons_succ]
      refine hK _ ?_
      clear hK K
      refine Sched2.walk1_late rfl rfl rfl rfl (fun K hK => ?_)
      refine ⟨AVal A, fun w1 hw1 => Sched2.pq_load_row 29 _ rfl wr.heap.size rfl _ _ _ _ hw1 Tryd.underlying29 rfl (by kernel_rfl), ?_⟩
      simp only [Act.put, List.setIfInBounds_toArray, List.set_cons_zero, List.set_cons_succ]
      refine hK _ ?_
      clear hK K
      repeat (first | (refine Sched2.walk1_ord rfl ?_) | (refine Sched2.walk1_no rfl rfl rfl (fun K hK => ?_); simp only [Act.put, List.setIfInBounds_toArray, List.set_cons_zero, List.set_cons_succ]; refine hK _ ?_; clear hK K) | (refine Sched2.walk1_gr rfl rfl rfl rfl (fun K hK => ?_); apply Exists.intro; refine ⟨fun w1 hw1 => ?_, ?_⟩; (focus (go_simp; (try go_ints); (try (simp only [IntWalk.iteOmega]; go_simp)); first | done | fail | (with_reducible rfl) | (with_reducible exact ⟨rfl, rfl⟩))); simp only [Act.put, List.setIfInBounds_toArray, List.set_cons_zero, List.set_cons_succ]; refine hK _ ?_; clear hK K) | (refine Sched2.walk1_late rfl rfl rfl rfl (fun K hK => ?_); apply Exists.intro; refine ⟨fun w1 hw1 => ?_, ?_⟩; (focus (go_simp; (try go_ints); (try (simp only [IntWalk.iteOmega]; go_simp)); first | done | fail | (with_reducible rfl) | (with_reducible exact ⟨rfl, rfl⟩))); simp only [Act.put, List.setIfInBounds_toArray, List.set_cons_zero, List.set_cons_succ]; refine hK _ ?_; clear hK K) | (refine Sched2.walk1_box rfl rfl rfl ?_; apply Exists.intro; refine ⟨fun w1 hw1 => ?_, ?_⟩; (focus (go_simp; exact ⟨Gr.alloc _ _, rfl, by simp, heap_alloc_new _ _⟩))))
      refine Sched2.walk1_nil ?_
      intro wq hwq
      dsimp only [Sched.EndN, List.nil_append, List.cons_append, Act.put]
      (try simp only [List.setIfInBounds_toArray, List.set_cons_zero, List.set_cons_succ])
      simp only [Sched2.lasts, List.filterMap_cons, List.filterMap_nil, List.getElem?_toArray, List.getElem?_cons_succ, List.getElem?_cons_zero]
      have hsr := HSR.out
      obtain ⟨y1, hy1⟩ : ∃ y, y = wq.setCells (w.heap.size + 1) 0 (PList q) := ⟨_, rfl⟩
      have hz4 := pblk_put (HZX.out.kept hwq) q
      have ha4 := ablk_other (HAX.out.kept hwq) (k := w.heap.size + 1) (PList q) (by omega)
      have hi4 := ablk_other (HTX.out.kept hwq) (k := w.heap.size + 1) (PList q) (by omega)
      have hg4 := grown_setCells_new (HGX.out.trans hwq) (show w.heap.size ≤ w.heap.size + 1 by omega) (PList q) 0
      rw [← hy1] at hz4 ha4 hi4 hg4
      obtain ⟨y2, hy2⟩ : ∃ y, y = y1.setCells (w.heap.size + 2) 0 (AList A) := ⟨_, rfl⟩
      have hz5 := pblk_other hz4 (k := w.heap.size + 2) (AList A) (by omega)
      have ha5 := ablk_put ha4 A
      have hi5 := ablk_other hi4 (k := w.heap.size + 2) (AList A) (by omega)
      have hg5 := grown_setCells_new hg4 (show w.heap.size ≤ w.heap.size + 2 by omega) (AList A) 0
      rw [← hy2] at hz5 ha5 hi5 hg5
      have hl5 : OwnI w8.heap.size 3 .i64 y2 ak k ck (sentL blk v k) := by
        have h2 := own_cells (HOL.out.stay hwq) (show w.heap.size + 1 < w8.heap.size by omega) (PList q)
        rw [← hy1] at h2
        have h3 := own_cells h2 (show w.heap.size + 2 < w8.heap.size by omega) (AList A)
        rw [← hy2] at h3
        exact h3
      have HTP := Lib.hid (pblk_there (HZX.out.kept hwq))
      have HTA := Lib.hid (ablk_there ha4)
      have HZY := Lib.hid hz5
      have HAY := Lib.hid ha5
      have HGY := Lib.hid hg5
      have HLY := Lib.hid (hl5.weak29 (B' := w.heap.size) HG8.out.size)
      have HI4 := Lib.hid hi4
      have HI5 := Lib.hid hi5
      have HY1 := Lib.hid hy1
      have HY2 := Lib.hid hy2
      clear hy1 hy2 hz4 ha4 hi4 hg4 hz5 ha5 hi5 hg5 hl5 hwq hI hsr
      refine Sched2.walk2_go rfl (fun K hK => ?_)
      refine tq_storeH 24 _ _ rfl (w.heap.size + 1) 0 (PList q).toArray rfl rfl HTP.out (by kernel_rfl) (plist_one _) ?_
      rw [← HY1.out]
      dsimp only [Act.put]
      try simp only [List.setIfInBounds_toArray, List.set_cons_zero, List.set_cons_succ]
      refine hK _ _ (.inr HI4.out) ?_
      clear hK K
      refine Sched2.walk2_go rfl (fun K hK => ?_)
      refine tq_storeH 29 _ _ rfl (w.heap.size + 2) 0 (AList A).toArray rfl rfl HTA.out (by kernel_rfl) (alist_one _) ?_
      rw [← HY2.out]
      dsimp only [Act.put]
      try simp only [List.setIfInBounds_toArray, List.set_cons_zero, List.set_cons_succ]
      refine hK _ _ (.inr HI5.out) ?_
      clear hK K
      repeat (first | (refine Sched2.walk2_no rfl (fun K hK => ?_); simp only [Act.put, List.setIfInBounds_toArray, List.set_cons_zero, List.set_cons_succ]; refine hK _ ?_; clear hK K) | (refine Sched2.walk2_go rfl (fun K hK => ?_); go_simp; (try go_ints); (try (simp only [IntWalk.iteOmega]; go_simp)); first | (refine hK _ _ (by first | exact .inl ⟨rfl, rfl⟩ | exact .inr (HI5.out)) ?_; clear hK K) | fail))
      refine Sched2.walk2_nil ?_
      go_wp2_with fail
      refine bodyPost_ret (results_cell_cell2 Tryd.results18 _ _ (w.heap.size + 1) _ _ _ _ rfl HZY.out Tryd.underlying24 rfl (by kernel_rfl) (w.heap.size + 2) _ _ _ _ rfl HAY.out Tryd.underlying29 rfl (by kernel_rfl)) rfl ?_
      unfold RSendPost
      rw [HQ.out, HQA.out, HLL.out, HE.out]
      refine ⟨p.a, p.cap, ak, k, ck, ?_, rd_gr HR.out HGY.out, HLY.out, HGY.out⟩
      rw [← HAA.out]
      show _ = Ending.returned (.tuple #[PVal { p with tries := p.tries + 1, ver := (p.ver + 1) % 4 }, AVal A, .slice ak k ck, .int .i64 0])
      rw [← HQQ.out]
      rfl
end Go.Proofs.YtcleegibdcphiaaDoor

/- Layer 29 (harq): Receive of the reference. -/
namespace Go.Proofs.YtcleegibdcphiaaDoor
open Go.ChangeShapes Go.WideShapes Go.ChangeAt Go.RowKit
open Cod

theorem results_cell_row3h {P : Program} {fn : Func} {p u v z : Tmp} {ty : TypeId} (h : fn.results = #[.cell p ty, .tmp u, .tmp v, .tmp z]) (tmps : Array Value) (w : World) (g : Nat) (t : TypeId) (cs : Array Value) (fr : Nat × Nat) (d : TypeDesc)
    (hp : tmps.getD p undef = .pointer (Option.some ⟨g, 0, none⟩)) (hg : w.heap[g]? = Option.some (.cells cs t fr))
    (hu : P.underlying ty = Option.some d) (hd : (match d with | .struct _ | .array _ _ => true | _ => false) = true) (hi : (P.info? ty).map (·.size) = Option.some cs.size) :
    (results fn tmps).run P w = .ok (.tuple #[.agg cs, tmps.getD u undef, tmps.getD v undef, tmps.getD z undef]) w := by
  have hp' : tmps[p]?.getD undef = .pointer (Option.some ⟨g, 0, none⟩) := by simpa using hp
  simp [results, h, hp', asAddr, run_loadVar_row w g t ty cs fr d hg hu hd hi]
theorem cnew_facts29 {W V WN : World} {r : Cl} (hv : V = W.alloc (.cells #[.int .i64 0, .int .i64 0, .slice none 0 0, .bool false, .bool false] 27)) (hw : WN = V.setCells W.heap.size 0 (CList r)) : V.there W.heap.size 0 5 ∧ CBlk W.heap.size r WN ∧ Gr W WN := by
  have h1 : CBlk W.heap.size zeroC V := by rw [hv]; exact heap_alloc_new _ _
  refine ⟨cblk_there h1, by rw [hw]; exact cblk_put h1 r, ?_⟩
  rw [hw]
  exact grown_setCells_new (by rw [hv]; exact Gr.alloc _ _) (Nat.le_refl _) _ _
def RRecPost (c : Cl) (R : RecR) (w : World) (e : Ending) (w' : World) : Prop :=
  ∃ a' c' ab nb cb, e = .returned (.tuple #[CVal { R.c with a := a', cap := c' }, .slice ab nb cb, .bool R.ok, .int .i64 R.E]) ∧ Rd .i64 w' a' R.c.len R.ss ∧ Rd .u8 w' ab nb R.blk ∧ Gr w w' ∧ ∀ b off, 0 < R.c.len → a' = Option.some ⟨b, off, none⟩ → w.heap.size ≤ b ∨ (a' = c.a ∧ R.c.len = c.len)
theorem rposo_is {ver coded : Int} {v c : Nat} (hv : ver = v) (hc : coded = c) (t : Nat) (w : World) (t1 : 1 ≤ t) (t2 : t ≤ 4132) (h4 : v < 4) (c1 : 1 ≤ c) (c2 : c ≤ 1152) :
    Calls Tryd.prog 44 #[.int .i64 t, .int .i64 ver, .int .i64 coded] w (OwnTwo 0 (posL t v c) w) := by
  subst hv hc; exact rpositions_own t v c w t1 t2 h4 c1 c2
theorem rdec29 (a : Option Addr) (n cap T : Nat) (hT : totN n = T) (ss : List Int) (w : World) (hr : Rd .i64 w a T ss) (hs : softOk ss) (hn : 1 ≤ n ∧ n ≤ 256) :
    Calls Tryd.prog 58 #[.slice a T cap, .int .i64 (8 * (n : Int) + 16)] w fun e w' => ∃ a' c', e = .returned (.tuple #[.slice a' (8 * n + 16) c', .int .i64 0]) ∧ Rd .i64 w' a' (8 * n + 16) (dec (8 * n + 16) ss 0) ∧ Gr w w' := by
  have e1 : T = 2 * (8 * n + 16 + 2) := by rw [← hT]; unfold totN; omega
  have e2 : 8 * (n : Int) + 16 = ((8 * n + 16 : Nat) : Int) := by push_cast; rfl
  subst e1
  rw [e2]
  exact rdecode_yes a (8 * n + 16) cap ss w hr hs (by omega) (by omega)
theorem rbytes29 (a : Option Addr) (n cap : Nat) (xs : List Int) (w : World) (hr : Rd .i64 w a (8 * n + 16) xs) (hb : isBits xs) (hn : n ≤ 9000) :
    Calls Tryd.prog 59 #[.slice a (8 * n + 16) cap] w (PackPost xs (n + 2) w) := by
  have e : 8 * n + 16 = 8 * (n + 2) := by omega
  rw [e] at hr ⊢
  exact rbytes_any a (n + 2) cap xs w hr hb (by omega)
theorem or_byte29 {u s : Int} (h0 : 0 ≤ u) (h1 : u < 4294967296) (h2 : 0 ≤ s) (h3 : s ≤ 255) : bits .or .i64 (u * 256) s = 256 * u + s := by
  rw [or_nn (by omega) (by omega) h2 (by omega)]
  have e : (u * 256).toNat ||| s.toNat = u.toNat * 256 + s.toNat := by
    have := Nat.two_pow_add_eq_or_of_lt (i := 8) (b := s.toNat) (by omega) u.toNat
    rw [show (u * 256).toNat = 2 ^ 8 * u.toNat by omega, ← this]
    omega
  rw [e]; omega
theorem rsum29_is {xs : List Int} {s : Int} (h : sum16 xs = s) (a : Option Addr) (len cap : Nat) (w : World) (hr : Rd .u8 w a len xs) :
    Calls Tryd.prog 60 #[.slice a len cap] w fun e w' => e = .returned (.int .i64 s) ∧ Gr w w' := h ▸ rsum29_any a len cap xs w hr
def R2Rel (g3 g4 g6 g12 : Nat) (c : Cl) (a : An) (Y : Cl) (S : List Int) (w wc : World) : Prop :=
  ∃ a' c', CBlk g3 c wc ∧ ABlk g4 a wc ∧ CBlk g6 zeroC wc ∧ CBlk g12 { Y with a := a', cap := c' } wc ∧ Rd .i64 wc a' Y.len S ∧ Y.len ≤ 17592186044000 ∧ (∀ b off, 0 < Y.len → a' = Option.some ⟨b, off, none⟩ → b ≠ g6) ∧ (∀ b off, 0 < Y.len → a' = Option.some ⟨b, off, none⟩ → w.heap.size ≤ b ∨ (a' = c.a ∧ Y.len = c.len)) ∧ Gr w wc
set_option maxRecDepth 20000 in
set_option maxHeartbeats 4000000 in
theorem rreceive_any (c : Cl) (ss : List Int) (a : An) (l : Option Addr) (len cap : Nat) (ls : List Int) (w : World) (hr : Rd .i64 w c.a c.len ss) (hm : c.len ≤ 17592186044000) (hs : Rd .i64 w l len ls) :
    Calls Tryd.prog 23 #[CVal c, AVal a, .slice l len cap] w (RRecPost c (recF c ss a ls) w) := by
  have HR := Lib.hid hr
  have HS := Lib.hid hs
  clear hr hs
  unfold CVal AVal
  go_enter Tryd.func23, Tryd.ntmps23
  go_upto_region 1 with (fail)
  obtain ⟨w1, hw1⟩ : ∃ y, y = w.alloc (.cells #[.int .i64 c.fresh, .int .i64 c.size, .slice c.a c.len c.cap, .bool c.some, .bool c.done] 27) := ⟨_, rfl⟩
  rw [← hw1]
  obtain ⟨w2, hw2⟩ : ∃ y, y = w1.alloc (.cells #[.int .i64 a.proc, .int .i64 a.fresh, .int .i64 a.ver, .int .i64 a.size, .int .i64 a.coded] 29) := ⟨_, rfl⟩
  rw [← hw2]
  obtain ⟨w3, hw3⟩ : ∃ y, y = w2.alloc (.cells #[.int .i64 0, .int .i64 0, .slice none 0 0, .bool false, .bool false] 27) := ⟨_, rfl⟩
  rw [← hw3]
  obtain ⟨g3, h3⟩ : ∃ g3, w.heap.size = g3 := ⟨_, rfl⟩
  rw [h3]
  obtain ⟨g4, h4⟩ : ∃ g4, g3 + 1 = g4 := ⟨_, rfl⟩
  rw [h4]
  obtain ⟨g6, h6⟩ : ∃ g6, g4 + 1 = g6 := ⟨_, rfl⟩
  rw [h6]
  have hs1 : w1.heap.size = g4 := by rw [hw1]; simp [h3, h4]
  have hs2 : w2.heap.size = g6 := by rw [hw2]; simp [hs1, h6]
  have k1 : Gr w w1 := by rw [hw1]; exact Gr.alloc _ _
  have k2 : Gr w1 w2 := by rw [hw2]; exact Gr.alloc _ _
  have k3 : Gr w2 w3 := by rw [hw3]; exact Gr.alloc _ _
  have q1 : CBlk g3 c w1 := by rw [hw1, ← h3]; exact heap_alloc_new _ _
  have q2 : ABlk g4 a w2 := by rw [hw2, ← hs1]; exact heap_alloc_new _ _
  have q3 : CBlk g6 zeroC w3 := by rw [hw3, ← hs2]; exact heap_alloc_new _ _
  have HC3 := Lib.hid (q1.kept (k2.trans k3))
  have HA3 := Lib.hid (q2.kept k3)
  have HZ3 := Lib.hid q3
  have HG3 := Lib.hid ((k1.trans k2).trans k3)
  have HORD := Lib.hid (show g3 < g6 ∧ g4 < g6 ∧ g3 < g4 by omega)
  have HG6 := Lib.hid (show w.heap.size ≤ g6 by omega)
  clear hw1 hw2 hw3 h3 h4 h6 hs1 hs2 k1 k2 k3 q1 q2 q3
  have ha4 := HA3.out
  unfold ABlk ACells at ha4
  have HA4 := Lib.hid ha4
  clear ha4
  obtain ⟨V, hV⟩ : ∃ V, anB a = V := ⟨_, rfl⟩
  have HV := Lib.hid hV
  clear hV
  go_wp2_with (refine wpList_load_w rfl 29 _ rfl g4 rfl 29 _ _ _ HA4.out Tryd.underlying29 rfl (by kernel_rfl) ?_)
  refine (rknown_any a w3).mono ?_
  rw [HV.out]
  rintro e w7 ⟨rfl, hg7⟩
  have HC7 := Lib.hid (HC3.out.kept hg7)
  have HA7 := Lib.hid (HA3.out.kept hg7)
  have HZ7 := Lib.hid (HZ3.out.kept hg7)
  have HG7 := Lib.hid (HG3.out.trans hg7)
  clear hg7 HC3 HA3 HZ3 HG3 HA4
  cases V
  · go_upto_region 2 with (fail)
    have HF := Lib.hid (show recF c ss a ls = ⟨3, c, ss, false, []⟩ by unfold recF; rw [if_pos (by rw [HV.out]; rfl)])
    obtain ⟨u1, hu1⟩ : ∃ y, y = (w7).setCells g6 0 (CList c) := ⟨_, rfl⟩
    have hz1 : CBlk g6 c u1 := by rw [hu1]; exact cblk_put (HZ7).out c
    have hg1 : Gr w u1 := by rw [hu1]; exact grown_setCells_new (HG7).out HG6.out _ _
    have HTH := Lib.hid (cblk_there (HZ7).out)
    have HU1 := Lib.hid hu1
    have HZ1 := Lib.hid hz1
    have HG1 := Lib.hid hg1
    have h6u := (HC7).out
    unfold CBlk CCells at h6u
    have H6U := Lib.hid h6u
    clear hu1 hz1 hg1 h6u
    go_wp2_with (first | (refine wpList_load_w rfl 27 _ rfl g3 rfl 27 _ _ _ H6U.out Tryd.underlying27 rfl (by kernel_rfl) ?_) | (refine wpList_store_mid rfl 27 _ _ rfl g6 0 (CList c).toArray rfl rfl HTH.out (by kernel_rfl) (clist_one _) ?_; rw [← HU1.out]))
    refine bodyPost_ret (results_cell_row3h Tryd.results23 _ _ g6 _ _ _ _ rfl HZ1.out Tryd.underlying27 rfl (by kernel_rfl)) rfl ?_
    rw [HF.out]
    exact ⟨c.a, c.cap, none, 0, 0, rfl, rd_gr HR.out HG1.out, ⟨rfl, by simp, by simp, .inl rfl⟩, HG1.out, fun _ _ _ _ => .inr ⟨rfl, rfl⟩⟩
  obtain ⟨Q, hQ⟩ : ∃ Q, softB ls = Q := ⟨_, rfl⟩
  have HQ := Lib.hid hQ
  clear hQ
  go_wp2_with fail
  refine (rsoft_any l len cap ls w7 (rd_gr HS.out HG7.out)).mono ?_
  rw [HQ.out]
  rintro e w' ⟨rfl, rfl⟩
  cases Q
  · go_upto_region 2 with (fail)
    have HF := Lib.hid (show recF c ss a ls = ⟨3, c, ss, false, []⟩ by unfold recF; rw [if_pos (by rw [HV.out, HQ.out]; rfl)])
    obtain ⟨u1, hu1⟩ : ∃ y, y = (w7).setCells g6 0 (CList c) := ⟨_, rfl⟩
    have hz1 : CBlk g6 c u1 := by rw [hu1]; exact cblk_put (HZ7).out c
    have hg1 : Gr w u1 := by rw [hu1]; exact grown_setCells_new (HG7).out HG6.out _ _
    have HTH := Lib.hid (cblk_there (HZ7).out)
    have HU1 := Lib.hid hu1
    have HZ1 := Lib.hid hz1
    have HG1 := Lib.hid hg1
    have h6u := (HC7).out
    unfold CBlk CCells at h6u
    have H6U := Lib.hid h6u
    clear hu1 hz1 hg1 h6u
    go_wp2_with (first | (refine wpList_load_w rfl 27 _ rfl g3 rfl 27 _ _ _ H6U.out Tryd.underlying27 rfl (by kernel_rfl) ?_) | (refine wpList_store_mid rfl 27 _ _ rfl g6 0 (CList c).toArray rfl rfl HTH.out (by kernel_rfl) (clist_one _) ?_; rw [← HU1.out]))
    refine bodyPost_ret (results_cell_row3h Tryd.results23 _ _ g6 _ _ _ _ rfl HZ1.out Tryd.underlying27 rfl (by kernel_rfl)) rfl ?_
    rw [HF.out]
    exact ⟨c.a, c.cap, none, 0, 0, rfl, rd_gr HR.out HG1.out, ⟨rfl, by simp, by simp, .inl rfl⟩, HG1.out, fun _ _ _ _ => .inr ⟨rfl, rfl⟩⟩
  have HNV := Lib.hid (show ¬ (anB a && softB ls) = false by rw [HV.out, HQ.out]; simp)
  obtain ⟨f1, f2, f3, f4, f5⟩ := anB_facts HV.out
  have HSL := Lib.hid ((softB_iff ls).1 HQ.out)
  have HLL := Lib.hid HS.out.1
  have c44 := ablk_at HA7.out 4 (v := .int .i64 a.coded) rfl
  by_cases hlc : (len : Int) = a.coded
  case neg =>
    have hb : ((len : Int) != a.coded) = true := by simpa using hlc
    have HNC := Lib.hid hlc
    clear hlc
    go_upto_region 4 with (fail)
    have HF := Lib.hid (show recF c ss a ls = ⟨61, c, ss, false, []⟩ by unfold recF; rw [if_neg HNV.out, if_pos (by rw [HLL.out]; exact HNC.out)])
    obtain ⟨u1, hu1⟩ : ∃ y, y = (w7).setCells g6 0 (CList c) := ⟨_, rfl⟩
    have hz1 : CBlk g6 c u1 := by rw [hu1]; exact cblk_put (HZ7).out c
    have hg1 : Gr w u1 := by rw [hu1]; exact grown_setCells_new (HG7).out HG6.out _ _
    have HTH := Lib.hid (cblk_there (HZ7).out)
    have HU1 := Lib.hid hu1
    have HZ1 := Lib.hid hz1
    have HG1 := Lib.hid hg1
    have h6u := (HC7).out
    unfold CBlk CCells at h6u
    have H6U := Lib.hid h6u
    clear hu1 hz1 hg1 h6u
    go_wp2_with (first | (refine wpList_load_w rfl 27 _ rfl g3 rfl 27 _ _ _ H6U.out Tryd.underlying27 rfl (by kernel_rfl) ?_) | (refine wpList_store_mid rfl 27 _ _ rfl g6 0 (CList c).toArray rfl rfl HTH.out (by kernel_rfl) (clist_one _) ?_; rw [← HU1.out]))
    refine bodyPost_ret (results_cell_row3h Tryd.results23 _ _ g6 _ _ _ _ rfl HZ1.out Tryd.underlying27 rfl (by kernel_rfl)) rfl ?_
    rw [HF.out]
    exact ⟨c.a, c.cap, none, 0, 0, rfl, rd_gr HR.out HG1.out, ⟨rfl, by simp, by simp, .inl rfl⟩, HG1.out, fun _ _ _ _ => .inr ⟨rfl, rfl⟩⟩
  have hb : ((len : Int) != a.coded) = false := by simpa using hlc
  have HLC := Lib.hid hlc
  clear hlc
  have HNC := Lib.hid (show ¬ (ls.length : Int) ≠ a.coded by rw [HLL.out, HLC.out]; simp)
  obtain ⟨n, hn⟩ : ∃ n : Nat, a.size = n := ⟨a.size.toNat, by omega⟩
  obtain ⟨T, hT⟩ : ∃ T, totN n = T := ⟨_, rfl⟩
  have hT1 : 1 ≤ T ∧ T ≤ 4132 := by unfold totN at hT; omega
  have hn1 : 1 ≤ n ∧ n ≤ 256 := by omega
  have HLT := Lib.hid (show lenS (8 * (n : Int) + 16) = (T : Int) by rw [← hT]; unfold lenS totN; rw [if_pos (by omega)]; push_cast; omega)
  have HN := Lib.hid hn
  have HT := Lib.hid hT
  have HTS := Lib.hid (show totN a.size.toNat = T by rw [hn]; exact hT)
  clear hn hT
  have c43 := ablk_at HA7.out 3 (v := .int .i64 a.size) rfl
  rw [HN.out] at c43
  go_upto_region 5 with (fail)
  clear hb c44
  go_wp2_with fail
  refine (rlength_is HLT.out w7).mono ?_
  rintro e w' ⟨rfl, rfl⟩
  obtain ⟨v8, hv8⟩ : ∃ y, y = w7.alloc (.cells #[.int .i64 0, .int .i64 0, .slice none 0 0, .bool false, .bool false] 27) := ⟨_, rfl⟩
  obtain ⟨w8, hw8⟩ : ∃ y, y = v8.setCells w7.heap.size 0 (CList c) := ⟨_, rfl⟩
  obtain ⟨hf1, hf2, hf3⟩ := cnew_facts29 hv8 hw8
  obtain ⟨g12, hg12⟩ : ∃ g12, w7.heap.size = g12 := ⟨_, rfl⟩
  have h612 := heap_lt HZ7.out
  rw [hg12] at hf1 hf2 hw8 h612
  have HTH := Lib.hid hf1
  have HX8 := Lib.hid hf2
  have HC8 := Lib.hid (HC7.out.kept hf3)
  have HA8 := Lib.hid (HA7.out.kept hf3)
  have HZ8 := Lib.hid (HZ7.out.kept hf3)
  have HG8 := Lib.hid (HG7.out.trans hf3)
  have HV8 := Lib.hid hv8
  have HW8 := Lib.hid hw8
  have HG12 := Lib.hid hg12
  have H612 := Lib.hid h612
  have h3u := HC8.out
  have h3v := HC7.out.kept (show Gr w7 v8 by rw [hv8]; exact Gr.alloc _ _)
  have h3w := HC7.out
  unfold CBlk CCells at h3w
  have H3W := Lib.hid h3w
  clear hf1 hf2 hf3 hg12 h612 hv8 hw8 h3u h3v h3w c43
  go_upto_region 8 with (first | (refine wpList_load_w rfl 27 _ rfl g3 rfl 27 _ _ _ H3W.out Tryd.underlying27 rfl (by kernel_rfl) ?_) | (rw [HG12.out, ← HV8.out]; refine wpList_store_mid rfl 27 _ _ rfl g12 0 (CList c).toArray rfl rfl HTH.out (by kernel_rfl) (clist_one _) ?_; rw [← HW8.out]))
  clear H3W HTH HV8 HW8 HC7 HA7 HZ7 HG7
  have c30 := cblk_at HC8.out 0 (v := .int .i64 c.fresh) rfl
  have c31 := cblk_at HC8.out 1 (v := .int .i64 c.size) rfl
  have c33 := cblk_at HC8.out 3 (v := .bool c.some) rfl
  have c41 := ablk_at HA8.out 1 (v := .int .i64 a.fresh) rfl
  have c43 := ablk_at HA8.out 3 (v := .int .i64 (n : Int)) (by rw [← HN.out]; rfl)
  obtain ⟨B, hB⟩ : ∃ B, newB c a = B := ⟨_, rfl⟩
  have HB := Lib.hid hB
  clear hB
  dsimp only [Act.put]
  go_cut [59] from 43 (fun s wc => s = .bool B ∧ w8 = wc)
  case first =>
    have hq := HB.out
    unfold newB at hq
    rcases Bool.eq_false_or_eq_true c.some with hcs | hcs
    rotate_left
    · rw [hcs] at c33 hq
      clear hcs
      have hE : B = true := by rw [← hq]; rfl
      subst hE
      clear hq
      go_wp2_with fail
      go_meet
      exact ⟨rfl, rfl⟩
    · rw [hcs] at c33 hq
      clear hcs
      by_cases hf : c.fresh = a.fresh
      · have hb1 : (c.fresh != a.fresh) = false := by simpa using hf
        have hE0 : decide (c.fresh ≠ a.fresh) = false := decide_eq_false (by simpa using hf)
        rw [hE0] at hq
        clear hf hE0
        by_cases hz : c.size = a.size
        · have hb2 : (c.size != (n : Int)) = false := by rw [← HN.out]; simpa using hz
          have hE : B = false := by rw [← hq, decide_eq_false (by simpa using hz)]; rfl
          subst hE
          clear hz hq
          go_wp2_with fail
          go_meet
          exact ⟨rfl, rfl⟩
        · have hb2 : (c.size != (n : Int)) = true := by rw [← HN.out]; simpa using hz
          have hE : B = true := by rw [← hq, decide_eq_true hz]; rfl
          subst hE
          clear hz hq
          go_wp2_with fail
          go_meet
          exact ⟨rfl, rfl⟩
      · have hb1 : (c.fresh != a.fresh) = true := by simpa using hf
        have hE : B = true := by rw [← hq, decide_eq_true hf]; rfl
        subst hE
        clear hf hq
        go_wp2_with fail
        go_meet
        exact ⟨rfl, rfl⟩
  case rest =>
    obtain ⟨rfl, rfl⟩ := hcut
    clear c30 c31 c33
    have hmk := fun u => make_ints T (by omega) u
    go_upto_if 59 with (fail)
    go_cut [] from 60 to 66 (fun wc => R2Rel g3 g4 g6 g12 c a (baseC c a) (baseS c ss a) w wc)
    case first =>
      cases B
      · have hbc : baseC c a = c := by unfold baseC; rw [HB.out]; rfl
        have hbs : baseS c ss a = ss := by unfold baseS; rw [HB.out]; rfl
        have HBC := Lib.hid hbc
        have HBS := Lib.hid hbs
        clear hbc hbs
        go_wp2_with fail
        go_meet
        rw [HBC.out, HBS.out]
        exact ⟨c.a, c.cap, HC8.out, HA8.out, HZ8.out, HX8.out, rd_gr HR.out HG8.out, hm, (fun b off h0 he => by
          obtain ⟨b', off', e', hb', _⟩ := HR.out.some h0
          rw [he] at e'; injection e' with e'; injection e' with e1 e2
          have := HG6.out; omega), (fun _ _ _ _ => .inr ⟨rfl, rfl⟩), HG8.out⟩
      · have hbc : baseC c a = ⟨a.fresh, a.size, none, T, 0, true, false⟩ := by unfold baseC; rw [HB.out, HTS.out]; rfl
        have hbs : baseS c ss a = List.replicate T 0 := by unfold baseS; rw [HB.out, HTS.out]; rfl
        have HBC := Lib.hid hbc
        have HBS := Lib.hid hbs
        have k41 : ∀ u', Gr w8 u' → u'.cell? ⟨g4, 1, none⟩ = Option.some (.int .i64 a.fresh) := fun u' h => h.cell c41
        have k43 : ∀ u', Gr w8 u' → u'.cell? ⟨g4, 3, none⟩ = Option.some (.int .i64 (n : Int)) := fun u' h => h.cell c43
        clear hbc hbs c41 c43
        go_upto_region 9 with (fail)
        refine Sched.wp_region_sched 6 [] [5] (by kernel_rfl) (by kernel_rfl) ?_
        simp only [List.take_succ_cons, List.take_zero, List.drop_succ_cons, List.drop_zero]
        repeat (first | (refine Sched.walk1_no rfl rfl (fun K hK => ?_); simp only [Act.put, List.setIfInBounds_toArray, List.set_cons_zero, List.set_cons_succ]; refine hK _ ?_; clear hK K) | (refine Sched.walk1_gr rfl rfl rfl (fun K hK => ?_); apply Exists.intro; refine ⟨fun w1 hw1 => ?_, ?_⟩; (focus (go_simp; (try go_ints); (try (simp only [IntWalk.iteOmega]; go_simp)); first | done | fail | (with_reducible rfl) | (with_reducible exact ⟨rfl, rfl⟩))); simp only [Act.put, List.setIfInBounds_toArray, List.set_cons_zero, List.set_cons_succ]; refine hK _ ?_; clear hK K) | (refine Sched.walk1_pure rfl rfl rfl (fun K hK => ?_); apply Exists.intro; refine ⟨fun w1 => ?_, ?_⟩; (focus (go_simp; (try go_ints); (try (simp only [IntWalk.iteOmega]; go_simp)); first | done | (with_reducible rfl) | (with_reducible exact ⟨rfl, rfl⟩))); simp only [Act.put, List.setIfInBounds_toArray, List.set_cons_zero, List.set_cons_succ]; refine hK _ ?_; clear hK K) | (refine Sched.walk1_box rfl rfl ?_; apply Exists.intro; refine ⟨fun w1 hw1 => ?_, ?_⟩; (focus (go_simp; exact ⟨Gr.alloc _ _, rfl, by simp, heap_alloc_new _ _⟩))))
        refine Sched.walk1_new (NOwnI (g12 + 1) T (List.replicate T 0)) rfl rfl (NOwnI.stable _ _ _) (fun v hv => ?_) ?_
        · go_simp
          have hv9 := heap_lt (HX8.out.kept hv)
          exact ⟨Gr.alloc _ _, _, _, rfl, own_made (g12 + 1) T v (by omega) (by simp only [maxLen]; omega)⟩
        (with_reducible refine Sched.walk1_nil ?_)
        intro wz hwz
        dsimp only [Sched.EndN, List.nil_append, List.cons_append, Act.put]
        rintro - - v5 ⟨a5, c5, rfl, ho5⟩ - - - -
        (try simp only [List.setIfInBounds_toArray, List.set_cons_zero, List.set_cons_succ])
        refine Sched.walk2_go rfl (fun K hK => ?_)
        go_simp
        (try go_ints)
        (try (simp only [IntWalk.iteOmega]; go_simp))
        refine hK _ _ ?_
        clear hK K
        obtain ⟨Y, hY⟩ : ∃ Y : Cl, Y = ⟨a.fresh, a.size, a5, T, c5, true, false⟩ := ⟨_, rfl⟩
        obtain ⟨w9, hw9⟩ : ∃ y, y = wz.setCells g12 0 (CList Y) := ⟨_, rfl⟩
        have hord := HORD.out
        have h612 := H612.out
        have r3 : CBlk g3 c w9 := by rw [hw9]; exact cblk_other (HC8.out.kept hwz) _ (by omega)
        have r4 : ABlk g4 a w9 := by rw [hw9]; exact ablk_other (HA8.out.kept hwz) _ (by omega)
        have r6 : CBlk g6 zeroC w9 := by rw [hw9]; exact cblk_other (HZ8.out.kept hwz) _ (by omega)
        have r12 : CBlk g12 Y w9 := by rw [hw9]; exact cblk_put (HX8.out.kept hwz) Y
        have hg9 : Gr w w9 := by rw [hw9]; exact grown_setCells_new (HG8.out.trans hwz) (by have := HG6.out; omega) _ _
        have ho9 := own_cells ho5 (Nat.lt_succ_self g12) (CList Y)
        rw [← hw9] at ho9
        have HTH := Lib.hid (cblk_there (HX8.out.kept hwz))
        have HREL := Lib.hid (show R2Rel g3 g4 g6 g12 c a (baseC c a) (baseS c ss a) w w9 by
          rw [HBC.out, HBS.out]
          exact ⟨a5, c5, r3, r4, r6, by rw [hY] at r12; exact r12, ho9.rd, by dsimp only; omega, (fun b off h0 he => by
            have := (ho9.below b (by rw [he]; rfl)).1
            have := H612.out; omega), (fun b off h0 he => .inl (by
            have := (ho9.below b (by rw [he]; rfl)).1
            have := H612.out
            have := HG6.out; omega)), hg9⟩)
        have HW9 := Lib.hid hw9
        have HY := Lib.hid hY
        clear r3 r4 r6 r12 hg9 ho9 hw9 hY hwz k41 k43 ho5 hord h612
        refine Sched.walk2_go rfl (fun K hK => ?_)
        refine tq_storeH 27 _ _ rfl g12 0 (CList Y).toArray rfl (by rw [HY.out, HN.out]; rfl) HTH.out (by kernel_rfl) (clist_one _) ?_
        rw [← HW9.out]
        dsimp only [Act.put]
        try simp only [List.setIfInBounds_toArray, List.set_cons_zero, List.set_cons_succ]
        refine hK _ _ ?_
        clear hK K
        refine Sched.walk2_nil ?_
        go_wp2_with fail
        go_meet
        exact HREL.out
    case rest =>
      obtain ⟨ax, cx, hc3, ha4, hz6, hx12, hrs, hml, hbne, hfar, hgx⟩ := hcut
      obtain ⟨⟨bf, bs, ba, bl, bc, bsm, bd⟩, hY⟩ : ∃ Y, baseC c a = Y := ⟨_, rfl⟩
      obtain ⟨S0, hS0⟩ : ∃ S0, baseS c ss a = S0 := ⟨_, rfl⟩
      rw [hS0] at hrs
      rw [hY] at hrs hx12 hml hbne hfar
      have HFAR := Lib.hid (show ∀ b off, 0 < bl → ax = Option.some ⟨b, off, none⟩ → w.heap.size ≤ b ∨ (ax = c.a ∧ bl = c.len) from hfar)
      have HBN := Lib.hid (show ∀ b off, 0 < bl → ax = Option.some ⟨b, off, none⟩ → b ≠ g6 from hbne)
      have HC9 := Lib.hid hc3
      have HA9 := Lib.hid ha4
      have HZ9 := Lib.hid hz6
      have HX9 := Lib.hid (show CBlk g12 (Cl.mk bf bs ax bl cx bsm bd) wc from hx12)
      have HR9 := Lib.hid (show Rd .i64 wc ax bl S0 from hrs)
      have HG9 := Lib.hid hgx
      have HML := Lib.hid (show bl ≤ 17592186044000 from hml)
      have HS0 := Lib.hid hS0
      have HYB := Lib.hid hY
      clear hfar hbne hc3 ha4 hz6 hx12 hrs hml hgx hS0 hY c41 c43 hmk HC8 HA8 HZ8 HX8 HG8
      have cx2 := cblk_at HX9.out 2 (v := .slice ax bl cx) rfl
      by_cases hxl : bl = T
      case neg =>
        have hb : ((bl : Int) != (T : Int)) = true := by simp; omega
        have HNL := Lib.hid hxl
        clear hxl
        go_upto_region 11 with (fail)
        have HF := Lib.hid (show recF c ss a ls = ⟨1, c, ss, false, []⟩ by unfold recF; rw [if_neg HNV.out, if_neg HNC.out, if_pos (Or.inl (by rw [HTS.out, HYB.out]; exact HNL.out))])
        obtain ⟨u1, hu1⟩ : ∃ y, y = (wc).setCells g6 0 (CList c) := ⟨_, rfl⟩
        have hz1 : CBlk g6 c u1 := by rw [hu1]; exact cblk_put (HZ9).out c
        have hg1 : Gr w u1 := by rw [hu1]; exact grown_setCells_new (HG9).out HG6.out _ _
        have HTH := Lib.hid (cblk_there (HZ9).out)
        have HU1 := Lib.hid hu1
        have HZ1 := Lib.hid hz1
        have HG1 := Lib.hid hg1
        have h6u := (HC9).out
        unfold CBlk CCells at h6u
        have H6U := Lib.hid h6u
        clear hu1 hz1 hg1 h6u
        go_wp2_with (first | (refine wpList_load_w rfl 27 _ rfl g3 rfl 27 _ _ _ H6U.out Tryd.underlying27 rfl (by kernel_rfl) ?_) | (refine wpList_store_mid rfl 27 _ _ rfl g6 0 (CList c).toArray rfl rfl HTH.out (by kernel_rfl) (clist_one _) ?_; rw [← HU1.out]))
        refine bodyPost_ret (results_cell_row3h Tryd.results23 _ _ g6 _ _ _ _ rfl HZ1.out Tryd.underlying27 rfl (by kernel_rfl)) rfl ?_
        rw [HF.out]
        exact ⟨c.a, c.cap, none, 0, 0, rfl, rd_gr HR.out HG1.out, ⟨rfl, by simp, by simp, .inl rfl⟩, HG1.out, fun _ _ _ _ => .inr ⟨rfl, rfl⟩⟩
      subst hxl
      obtain ⟨Q, hQ⟩ : ∃ Q, softB S0 = Q := ⟨_, rfl⟩
      have HQ2 := Lib.hid hQ
      clear hQ
      go_wp2_with fail
      refine (rsoft_any ax bl cx S0 wc HR9.out).mono ?_
      rw [HQ2.out]
      rintro e w' ⟨rfl, rfl⟩
      cases Q
      · go_upto_region 11 with (fail)
        clear cx2
        have HF := Lib.hid (show recF c ss a ls = ⟨1, c, ss, false, []⟩ by unfold recF; rw [if_neg HNV.out, if_neg HNC.out, if_pos (Or.inr (by rw [HS0.out]; exact HQ2.out))])
        obtain ⟨u1, hu1⟩ : ∃ y, y = (wc).setCells g6 0 (CList c) := ⟨_, rfl⟩
        have hz1 : CBlk g6 c u1 := by rw [hu1]; exact cblk_put (HZ9).out c
        have hg1 : Gr w u1 := by rw [hu1]; exact grown_setCells_new (HG9).out HG6.out _ _
        have HTH := Lib.hid (cblk_there (HZ9).out)
        have HU1 := Lib.hid hu1
        have HZ1 := Lib.hid hz1
        have HG1 := Lib.hid hg1
        have h6u := (HC9).out
        unfold CBlk CCells at h6u
        have H6U := Lib.hid h6u
        clear hu1 hz1 hg1 h6u
        go_wp2_with (first | (refine wpList_load_w rfl 27 _ rfl g3 rfl 27 _ _ _ H6U.out Tryd.underlying27 rfl (by kernel_rfl) ?_) | (refine wpList_store_mid rfl 27 _ _ rfl g6 0 (CList c).toArray rfl rfl HTH.out (by kernel_rfl) (clist_one _) ?_; rw [← HU1.out]))
        refine bodyPost_ret (results_cell_row3h Tryd.results23 _ _ g6 _ _ _ _ rfl HZ1.out Tryd.underlying27 rfl (by kernel_rfl)) rfl ?_
        rw [HF.out]
        exact ⟨c.a, c.cap, none, 0, 0, rfl, rd_gr HR.out HG1.out, ⟨rfl, by simp, by simp, .inl rfl⟩, HG1.out, fun _ _ _ _ => .inr ⟨rfl, rfl⟩⟩
      have HNB := Lib.hid (show ¬ ((baseC c a).len ≠ totN a.size.toNat ∨ softB (baseS c ss a) = false) by rw [HTS.out, HYB.out, HS0.out, HQ2.out]; simp)
      have cx4 := cblk_at HX9.out 4 (v := .bool bd) rfl
      cases bd
      rotate_left
      · have HF := Lib.hid (show recF c ss a ls = ⟨0, Cl.mk bf bs ba bl bc bsm true, S0, true, []⟩ by unfold recF; rw [if_neg HNV.out, if_neg HNC.out, if_neg HNB.out, if_pos (by rw [HYB.out]), HYB.out, HS0.out])
        go_upto_region 13 with (fail)
        clear cx2 cx4
        obtain ⟨u1, hu1⟩ : ∃ y, y = (wc).setCells g6 0 (CList (Cl.mk bf bs ax bl cx bsm true)) := ⟨_, rfl⟩
        have hz1 : CBlk g6 (Cl.mk bf bs ax bl cx bsm true) u1 := by rw [hu1]; exact cblk_put (HZ9).out (Cl.mk bf bs ax bl cx bsm true)
        have hg1 : Gr w u1 := by rw [hu1]; exact grown_setCells_new (HG9).out HG6.out _ _
        have hw1 : (wc).grownBy u1 (Option.some g6) := by rw [hu1]; exact grown_setCells _ _ _ _
        have HTH := Lib.hid (cblk_there (HZ9).out)
        have HU1 := Lib.hid hu1
        have HZ1 := Lib.hid hz1
        have HG1 := Lib.hid hg1
        have HW1 := Lib.hid hw1
        have h6u := (HX9).out
        unfold CBlk CCells at h6u
        have H6U := Lib.hid h6u
        clear hu1 hz1 hg1 h6u hw1
        go_wp2_with (first | (refine wpList_load_w rfl 27 _ rfl g12 rfl 27 _ _ _ H6U.out Tryd.underlying27 rfl (by kernel_rfl) ?_) | (refine wpList_store_mid rfl 27 _ _ rfl g6 0 (CList (Cl.mk bf bs ax bl cx bsm true)).toArray rfl rfl HTH.out (by kernel_rfl) (clist_one _) ?_; rw [← HU1.out]))
        refine bodyPost_ret (results_cell_row3h Tryd.results23 _ _ g6 _ _ _ _ rfl HZ1.out Tryd.underlying27 rfl (by kernel_rfl)) rfl ?_
        rw [HF.out]
        exact ⟨ax, cx, none, 0, 0, rfl, (rd_keptBut HR9.out HW1.out (fun b off h0 he h3 => HBN.out b off h0 he (by injection h3))), (⟨rfl, by simp, by simp, .inl rfl⟩), HG1.out, HFAR.out⟩
      have HND := Lib.hid (show ¬ (baseC c a).done = true by rw [HYB.out]; simp)
      go_upto_region 14 with (fail)
      clear cx4
      have cxa : (wc.alloc (.cells #[] 3)).cell? ⟨g12, 2, none⟩ = Option.some (.slice ax bl cx) := cblk_at (HX9.out.kept (Gr.alloc wc (.cells #[] 3))) 2 rfl
      obtain ⟨v0, hv0⟩ : ∃ y, y = wc.alloc (.cells #[] 3) := ⟨_, rfl⟩
      have ho0 := lit_nilI29 wc.heap.size wc (Nat.le_refl _)
      rw [← hv0] at ho0
      have hg0 : Gr wc v0 := by rw [hv0]; exact Gr.alloc _ _
      have hbl0 := HML.out
      obtain ⟨a5, c5, v1, hrun, ho1, hg1, _⟩ := app_i64 wc.heap.size v0 (Option.some ⟨wc.heap.size, 0, none⟩) 0 0 [] ho0 ax bl cx S0 (HR9.out.kept hg0) (by omega) hg0.size
      rw [Nat.zero_add] at hrun ho1
      rw [List.nil_append] at ho1
      have hgv : Gr wc v1 := grown_own hg0 ho0 (Nat.le_refl _) hg1
      have hx1 := HX9.out.kept hgv
      have cx5 := cblk_at hx1 2 (v := .slice ax bl cx) rfl
      have fx5 := frozen_of_block hx1 2
      obtain ⟨u, hu⟩ : ∃ y, y = v1.setCell ⟨g12, 2, none⟩ (.slice a5 bl c5) := ⟨_, rfl⟩
      have hgs : v1.grownBy u (Option.some g12) := by rw [hu]; exact grown_setAt _ _ _ _
      have hord := HORD.out
      have h612 := H612.out
      have hwx := heap_lt HX9.out
      have r3 := (HC9.out.kept hgv).keptBut hgs (by omega)
      have r4 := (HA9.out.kept hgv).keptBut hgs (by omega)
      have r6 := (HZ9.out.kept hgv).keptBut hgs (by omega)
      have r12 : CBlk g12 (Cl.mk bf bs a5 bl c5 bsm false) u := by rw [hu]; exact heap_setCell_eq hx1 2 (.slice a5 bl c5)
      have ho5 := ho1.kept hgs (by
        cases hv : (Value.slice a5 bl c5).ownBlock with
        | none => exact .inl rfl
        | some b => exact .inr (by intro h3; have := (ho1.below b hv).1; cases h3; omega))
      have hgu : Gr w u := by rw [hu]; exact grown_set (HG9.out.trans hgv) (a := ⟨g12, 2, none⟩) (by have := HG6.out; show w.heap.size ≤ g12; omega) _
      have HV0 := Lib.hid hv0
      have HRUN := Lib.hid hrun
      have HU := Lib.hid hu
      have HC5 := Lib.hid r3
      have HA5 := Lib.hid r4
      have HZ5 := Lib.hid r6
      have HX5 := Lib.hid r12
      have HO5 := Lib.hid ho5
      have HG5 := Lib.hid hgu
      have HWX := Lib.hid hwx
      clear hv0 ho0 hg0 hrun ho1 hg1 hgv hx1 hu hgs r3 r4 r6 r12 ho5 hgu hord h612 hbl0 hwx HC9 HA9 HZ9 HX9 HR9 HG9
      go_upto_region 15 with (at_builtin; (have hw1 := HV0.out; rw [← hw1]; clear hw1); refine wpList_app rfl _ _ _ rfl rfl rfl HRUN.out ?_)
      rw [← HU.out]
      clear cx2 cx5 fx5 cxa HU HV0 HRUN
      obtain ⟨v, hv⟩ : ∃ v : Nat, a.ver = v := ⟨a.ver.toNat, by omega⟩
      have hv4 : v < 4 := by omega
      have hlen1 : 1 ≤ len ∧ len ≤ 1152 := by have := HLC.out; omega
      have HVV := Lib.hid hv
      have hgo : goS c ss a ls = colL S0 ls bl v len := by
        unfold goS; rw [HS0.out, HTS.out, hv, show a.coded.toNat = len by have := HLC.out; omega]; rfl
      have HGO := Lib.hid hgo
      have HOK0 := Lib.hid ((softB_iff S0).1 HQ2.out)
      clear hv hgo
      have c42 := ablk_at HA5.out 2 (v := .int .i64 a.ver) rfl
      have c44 := ablk_at HA5.out 4 (v := .int .i64 a.coded) rfl
      go_wp2_with fail
      refine (rposo_is HVV.out HLC.out.symm bl u hT1.1 hT1.2 hv4 hlen1.1 hlen1.2).mono ?_
      rintro e w8 ⟨ap, np, cp, rfl, hop, hg8⟩
      have hnp : np = len := by rw [← hop.len, posL_len]
      subst hnp
      obtain ⟨gp, eap, hgp, -⟩ := own_some hop (by omega)
      subst eap
      have HC8 := Lib.hid (HC5.out.kept hg8)
      have HA8 := Lib.hid (HA5.out.kept hg8)
      have HZ8 := Lib.hid (HZ5.out.kept hg8)
      have HX8 := Lib.hid (HX5.out.kept hg8)
      have HO8 := Lib.hid (HO5.out.stay hg8)
      have HG8 := Lib.hid (HG5.out.trans hg8)
      have HP8 := Lib.hid hop
      obtain ⟨bx, hax, hbx1, hbx2⟩ := own_some HO5.out (show 0 < bl by omega)
      subst hax
      have HBX := Lib.hid (And.intro hbx1 hbx2)
      have HLT4 := Lib.hid (show g3 < bx ∧ g4 < bx ∧ g6 < bx ∧ g12 < bx ∧ w.heap.size ≤ bx by have := HORD.out; have := H612.out; have := HWX.out; have := HG6.out; omega)
      clear hop hg8 c42 c44 HC5 HA5 HZ5 HX5 HG5 hgp hbx1 hbx2
      go_wp2_with fail
      go_loopw [15] (fun t wr => ∃ k : Nat, k ≤ np ∧ t = .int .i64 k ∧ OwnI wc.heap.size 3 .i64 wr (Option.some ⟨bx, 0, none⟩) bl c5 (colL S0 ls bl v k) ∧ OwnI u.heap.size 3 .i64 wr (Option.some ⟨gp, 0, none⟩) np cp (posL bl v np) ∧ CBlk g3 c wr ∧ ABlk g4 a wr ∧ CBlk g6 zeroC wr ∧ CBlk g12 (Cl.mk bf bs (Option.some ⟨bx, 0, none⟩) bl c5 bsm false) wr ∧ Gr w wr) (fun t _ => np - (intOf t).toNat)
      case atStart => exact ⟨0, by omega, rfl, HO8.out, HP8.out, HC8.out, HA8.out, HZ8.out, HX8.out, HG8.out⟩
      case round =>
        clear HO8 HP8 HC8 HA8 HZ8 HX8 HG8
        obtain ⟨k, hk, rfl, hou, hop, hcc, haa, hzz, hxx, hgu⟩ := hrel
        have HOU := Lib.hid hou
        have HOP := Lib.hid hop
        have HCC := Lib.hid hcc
        have HAA := Lib.hid haa
        have HZZ := Lib.hid hzz
        have HXX := Lib.hid hxx
        have HGU := Lib.hid hgu
        clear hou hop hcc haa hzz hxx hgu
        by_cases hlt : k < np
        · have hjl := plc_lt (t := bl) (v := v) (k := k) (by omega)
          have hpk := posL_plc bl v np k hlt
          have hcol : colL S0 ls bl v (k + 1) = (colL S0 ls bl v k).set (plc bl v k) (clipI ((colL S0 ls bl v k)[plc bl v k]?.getD 0 + ls[k]?.getD 0)) := rfl
          have hxr := softOk_at (colL_ok ls bl v HOK0.out k) (plc bl v k)
          have hyr := softOk_at HSL.out k
          obtain ⟨j, hj⟩ : ∃ j, plc bl v k = j := ⟨_, rfl⟩
          rw [hj] at hjl hpk hcol hxr
          obtain ⟨cp1, -⟩ := HOP.out.at k hlt
          rw [hpk] at cp1
          obtain ⟨cs, fs⟩ := HOU.out.at j hjl
          obtain ⟨x, hx⟩ : ∃ x, (colL S0 ls bl v k)[j]?.getD 0 = x := ⟨_, rfl⟩
          obtain ⟨y, hy⟩ : ∃ y, ls[k]?.getD 0 = y := ⟨_, rfl⟩
          rw [hx] at cs hcol hxr
          rw [hy] at hcol hyr
          obtain ⟨b2, off2, ea, _, hcl⟩ := HS.out.some (by omega)
          subst ea
          have cl := HGU.out.cell (hcl k hlt)
          rw [hy] at cl
          have HCOL := Lib.hid hcol
          have cp4 : ∀ u, Gr wr u → u.cell? ⟨gp, k, none⟩ = Option.some (.int .i64 j) := fun u h => h.cell cp1
          have cs4 : ∀ u, Gr wr u → u.cell? ⟨bx, j, none⟩ = Option.some (.int .i64 x) := fun u h => h.cell cs
          have cl4 : ∀ u, Gr wr u → u.cell? ⟨b2, off2 + k, none⟩ = Option.some (.int .i64 y) := fun u h => h.cell cl
          have cx4 : ∀ u, Gr wr u → u.cell? ⟨g12, 2, none⟩ = Option.some (.slice (Option.some ⟨bx, 0, none⟩) bl c5) := fun u h => cblk_at (HXX.out.kept h) 2 rfl
          clear hj hpk hcol hx hy hcl cs fs cl cp1
          go_upto_region 19 with (fail)
          refine Sched.wp_region_sched 21 [] [] (by kernel_rfl) (by kernel_rfl) ?_
          simp only [List.take_succ_cons, List.take_zero, List.drop_succ_cons, List.drop_zero]
          repeat (first | (refine Sched.walk1_no rfl rfl (fun K hK => ?_); simp only [Act.put, List.setIfInBounds_toArray, List.set_cons_zero, List.set_cons_succ]; refine hK _ ?_; clear hK K) | (refine Sched.walk1_gr rfl rfl rfl (fun K hK => ?_); apply Exists.intro; refine ⟨fun w1 hw1 => ?_, ?_⟩; (focus (go_simp; (try go_ints); (try (simp only [IntWalk.iteOmega]; go_simp)); first | done | ((go_at_call 57; (with_reducible exact gr_same (rclip_any _ _)))) | (with_reducible rfl) | (with_reducible exact ⟨rfl, rfl⟩))); simp only [Act.put, List.setIfInBounds_toArray, List.set_cons_zero, List.set_cons_succ]; refine hK _ ?_; clear hK K) | (refine Sched.walk1_pure rfl rfl rfl (fun K hK => ?_); apply Exists.intro; refine ⟨fun w1 => ?_, ?_⟩; (focus (go_simp; (try go_ints); (try (simp only [IntWalk.iteOmega]; go_simp)); first | done | (with_reducible rfl) | (with_reducible exact ⟨rfl, rfl⟩))); simp only [Act.put, List.setIfInBounds_toArray, List.set_cons_zero, List.set_cons_succ]; refine hK _ ?_; clear hK K) | (refine Sched.walk1_box rfl rfl ?_; apply Exists.intro; refine ⟨fun w1 hw1 => ?_, ?_⟩; (focus (go_simp; exact ⟨Gr.alloc _ _, rfl, by simp, heap_alloc_new _ _⟩))))
          refine Sched.walk1_nil ?_
          intro wq hwq
          have hou2 := HOU.out.stay hwq
          obtain ⟨c5q, f5⟩ := hou2.at j hjl
          have HOU2 := Lib.hid hou2
          have HW := Lib.hid hwq
          clear hou2 hwq cs4 cl4 cx4 cp4
          have hou3 := HOU2.out.set j (clipI (x + y)) (WalkArith.wf_i64 (by have := clipI_rng (x + y); constructor <;> omega))
          rw [← HCOL.out] at hou3
          have hgs3 := grown_setAt wq bx j (.int .i64 (clipI (x + y)))
          have hlt4 := HLT4.out
          have hop3 := (HOP.out.stay HW.out).kept hgs3 (.inr (by simp only [Value.ownBlock]; intro h3; have h4 := (HOP.out.below gp rfl).1; have h5 := HBX.out.2; cases h3; omega))
          have hc3 := (HCC.out.kept HW.out).keptBut hgs3 (by omega)
          have ha3 := (HAA.out.kept HW.out).keptBut hgs3 (by omega)
          have hz3 := (HZZ.out.kept HW.out).keptBut hgs3 (by omega)
          have hx3 := (HXX.out.kept HW.out).keptBut hgs3 (by omega)
          have hgu3 := grown_set (HGU.out.trans HW.out) (a := ⟨bx, j, none⟩) (by show w.heap.size ≤ bx; omega) (Value.int .i64 (clipI (x + y)))
          have HOU3 := Lib.hid hou3
          have HOP3 := Lib.hid hop3
          have HC3 := Lib.hid hc3
          have HA3 := Lib.hid ha3
          have HZ3 := Lib.hid hz3
          have HX3 := Lib.hid hx3
          have HGU3 := Lib.hid hgu3
          clear hou3 hgs3 hlt4 hop3 hc3 ha3 hz3 hx3 hgu3 HOU2 HCOL HOU HOP HCC HAA HZZ HXX HGU
          dsimp only [Sched.EndN, List.nil_append, List.cons_append, Act.put]
          (try simp only [List.setIfInBounds_toArray, List.set_cons_zero, List.set_cons_succ])
          repeat (first | (refine Sched.walk2_no rfl (fun K hK => ?_); simp only [Act.put, List.setIfInBounds_toArray, List.set_cons_zero, List.set_cons_succ]; refine hK _ ?_; clear hK K) | (refine Sched.walk2_go rfl (fun K hK => ?_); go_simp; (try go_ints); (try (simp only [IntWalk.iteOmega]; go_simp)); first | (refine hK _ _ ?_; clear hK K) | fail))
          refine Sched.walk2_nil ?_
          go_wp2_with fail
          go_roundw
          case rel => exact ⟨k + 1, by omega, by go_num, HOU3.out, HOP3.out, HC3.out, HA3.out, HZ3.out, HX3.out, HGU3.out⟩
          case measure => (simp [intOf] <;> omega)
        · obtain rfl : k = np := by omega
          have hgl := HGO.out
          obtain ⟨S, hS⟩ : ∃ S, colL S0 ls bl v k = S := ⟨_, rfl⟩
          have hso : softOk S := by rw [← hS]; exact colL_ok ls bl v HOK0.out k
          have hou := HOU.out
          rw [hS] at hgl hou
          have HGL := Lib.hid hgl
          have HOU2 := Lib.hid hou
          have HSO := Lib.hid hso
          clear hS hso hgl hou HOU HGO HOP
          have cx4 := cblk_at HXX.out 2 (v := .slice (Option.some ⟨bx, 0, none⟩) bl c5) rfl
          obtain ⟨D, hD⟩ : ∃ D, dec (8 * n + 16) S 0 = D := ⟨_, rfl⟩
          have HD := Lib.hid hD
          clear hD
          go_wp2_with fail
          refine (rdec29 _ n c5 bl HT.out S wr HOU2.out.rd HSO.out hn1).mono ?_
          rw [HD.out]
          rintro e w9 ⟨a9, c9, rfl, hr9, hg9⟩
          have HR9 := Lib.hid hr9
          have hdb : isBits D := by rw [← HD.out]; exact dec_bits _ _ _
          have hdl : D.length = 8 * n + 16 := hr9.1
          have HDB := Lib.hid hdb
          have HDL := Lib.hid hdl
          have HG9 := Lib.hid hg9
          clear hr9 hg9 hdb hdl cx4
          go_wp2_with fail
          refine (rbytes29 a9 n c9 D w9 HR9.out HDB.out (by omega)).mono ?_
          rintro e w10 ⟨a10, rfl, ho10, hg10⟩
          obtain ⟨gb, eab, hgb1, hgb2⟩ := own_some ho10 (by omega)
          subst eab
          have hgA := HG9.out.trans hg10
          have HC10 := Lib.hid (HCC.out.kept hgA)
          have HA10 := Lib.hid (HAA.out.kept hgA)
          have HZ10 := Lib.hid (HZZ.out.kept hgA)
          have HX10 := Lib.hid (HXX.out.kept hgA)
          have HO10 := Lib.hid (HOU2.out.stay hgA)
          have HG10 := Lib.hid (HGU.out.trans hgA)
          have HB10 := Lib.hid ho10
          have HGB := Lib.hid (show w9.heap.size ≤ gb from hgb1)
          have h9x := heap_lt (HXX.out.kept HG9.out)
          have H9X := Lib.hid h9x
          clear ho10 hg10 hgb1 hgb2 hgA h9x HCC HAA HZZ HXX HOU2 HGU HG9
          have c43 : ∀ u, Gr w10 u → u.cell? ⟨g4, 3, none⟩ = Option.some (.int .i64 (n : Int)) := fun u h => ablk_at (HA10.out.kept h) 3 (by rw [← HN.out]; rfl)
          have hcm : (n : Int) ≤ ((n + 2 : Nat) : Int) := by omega
          go_upto_region 22 with (fail)
          refine Sched.wp_region_sched 10 [] [] (by kernel_rfl) (by kernel_rfl) ?_
          simp only [List.take_succ_cons, List.take_zero, List.drop_succ_cons, List.drop_zero]
          repeat (first | (refine Sched.walk1_no rfl rfl (fun K hK => ?_); simp only [Act.put, List.setIfInBounds_toArray, List.set_cons_zero, List.set_cons_succ]; refine hK _ ?_; clear hK K) | (refine Sched.walk1_gr rfl rfl rfl (fun K hK => ?_); apply Exists.intro; refine ⟨fun w1 hw1 => ?_, ?_⟩; (focus (go_simp; (try go_ints); (try (simp only [IntWalk.iteOmega]; go_simp)); first | done | fail | (with_reducible rfl) | (with_reducible exact ⟨rfl, rfl⟩))); simp only [Act.put, List.setIfInBounds_toArray, List.set_cons_zero, List.set_cons_succ]; refine hK _ ?_; clear hK K) | (refine Sched.walk1_pure rfl rfl rfl (fun K hK => ?_); apply Exists.intro; refine ⟨fun w1 => ?_, ?_⟩; (focus (go_simp; (try go_ints); (try (simp only [IntWalk.iteOmega]; go_simp)); first | done | (with_reducible rfl) | (with_reducible exact ⟨rfl, rfl⟩))); simp only [Act.put, List.setIfInBounds_toArray, List.set_cons_zero, List.set_cons_succ]; refine hK _ ?_; clear hK K) | (refine Sched.walk1_box rfl rfl ?_; apply Exists.intro; refine ⟨fun w1 hw1 => ?_, ?_⟩; (focus (go_simp; exact ⟨Gr.alloc _ _, rfl, by simp, heap_alloc_new _ _⟩))))
          refine Sched.walk1_nil ?_
          intro wq hwq
          have HCq := Lib.hid (HC10.out.kept hwq)
          have HAq := Lib.hid (HA10.out.kept hwq)
          have HZq := Lib.hid (HZ10.out.kept hwq)
          have HXq := Lib.hid (HX10.out.kept hwq)
          have HOq := Lib.hid (HO10.out.stay hwq)
          have HGq := Lib.hid (HG10.out.trans hwq)
          have HBq := Lib.hid (HB10.out.stay hwq)
          clear hwq c43 hcm HC10 HA10 HZ10 HX10 HO10 HG10 HB10
          dsimp only [Sched.EndN, List.nil_append, List.cons_append, Act.put]
          (try simp only [List.setIfInBounds_toArray, List.set_cons_zero, List.set_cons_succ])
          repeat (first | (refine Sched.walk2_no rfl (fun K hK => ?_); simp only [Act.put, List.setIfInBounds_toArray, List.set_cons_zero, List.set_cons_succ]; refine hK _ ?_; clear hK K) | (refine Sched.walk2_go rfl (fun K hK => ?_); go_simp; (try go_ints); (try (simp only [IntWalk.iteOmega]; go_simp)); first | (refine hK _ _ ?_; clear hK K) | fail))
          refine Sched.walk2_nil ?_
          -- the check value
          obtain ⟨Bk, hBk⟩ : ∃ Bk, decB S n = Bk := ⟨_, rfl⟩
          have hpk : packL D n = Bk := by rw [← hBk, ← HD.out]; unfold decB; rw [packL_take]
          have hchk := check_same HDL.out HDB.out
          have hsplit := packL_split D n
          rw [hpk] at hchk hsplit
          have hrb : Rd .u8 wq (Option.some ⟨gb, 0, none⟩) n Bk := by
            have h := rd_take29 HBq.out.rd (show n ≤ n + 2 by omega)
            rw [hsplit, List.take_append_of_le_length (by rw [← hpk, packL_len]; exact Nat.le_refl _), List.take_of_length_le (by rw [← hpk, packL_len]; exact Nat.le_refl _)] at h
            exact h
          obtain ⟨ct0, -⟩ := HBq.out.at n (by omega)
          obtain ⟨ct1, -⟩ := HBq.out.at (n + 1) (by omega)
          have ht0 := packL_rng HDB.out (n + 2) ((packL D (n + 2))[n]?.getD 0) (by rw [List.getElem?_eq_getElem (by rw [packL_len]; omega)]; exact List.getElem_mem _)
          have ht1 := packL_rng HDB.out (n + 2) ((packL D (n + 2))[n + 1]?.getD 0) (by rw [List.getElem?_eq_getElem (by rw [packL_len]; omega)]; exact List.getElem_mem _)
          obtain ⟨t0, et0⟩ : ∃ t0, (packL D (n + 2))[n]?.getD 0 = t0 := ⟨_, rfl⟩
          obtain ⟨t1, et1⟩ : ∃ t1, (packL D (n + 2))[n + 1]?.getD 0 = t1 := ⟨_, rfl⟩
          rw [et0] at ct0 ht0 hchk
          rw [et1] at ct1 ht1 hchk
          obtain ⟨s16, es16⟩ : ∃ s16, sum16 Bk = s16 := ⟨_, rfl⟩
          rw [es16] at hchk
          obtain ⟨V, hV⟩ : ∃ V, decOk S n = V := ⟨_, rfl⟩
          have hVe : ((256 * t0 + t1 != s16) = !V) := by
            have h2 : decOk S n = decide (256 * t0 + t1 = s16) := by
              unfold decOk
              rw [hBk, HD.out]
              exact decide_eq_decide.2 hchk
            rw [← hV, h2]
            by_cases h3 : 256 * t0 + t1 = s16
            · rw [decide_eq_true h3]; simpa using h3
            · rw [decide_eq_false h3]; simpa using h3
          have hor : bits .or .i64 (t0 * 256) t1 = 256 * t0 + t1 := or_byte29 ht0.1 (by omega) ht1.1 ht1.2
          have k0 : ∀ u, Gr wq u → u.cell? ⟨gb, n, none⟩ = Option.some (.int .u8 t0) := fun u h => h.cell ct0
          have k1 : ∀ u, Gr wq u → u.cell? ⟨gb, n + 1, none⟩ = Option.some (.int .u8 t1) := fun u h => h.cell ct1
          have HRB := Lib.hid hrb
          have HS16 := Lib.hid es16
          have HV := Lib.hid hV
          have HBk := Lib.hid hBk
          have HVE := Lib.hid hVe
          have HHOR := Lib.hid hor
          clear hBk hpk hchk hsplit hrb ct0 ct1 et0 et1 es16 hV hVe
          obtain ⟨t01, t02⟩ := ht0
          obtain ⟨t11, t12⟩ := ht1
          go_wp2_with fail
          refine Sched.wp_region_sched 13 [] [] (by kernel_rfl) (by kernel_rfl) ?_
          simp only [List.take_succ_cons, List.take_zero, List.drop_succ_cons, List.drop_zero]
          repeat (first | (refine Sched.walk1_no rfl rfl (fun K hK => ?_); simp only [Act.put, List.setIfInBounds_toArray, List.set_cons_zero, List.set_cons_succ]; refine hK _ ?_; clear hK K) | (refine Sched.walk1_gr rfl rfl rfl (fun K hK => ?_); apply Exists.intro; refine ⟨fun w1 hw1 => ?_, ?_⟩; (focus (go_simp; (try go_ints); (try (simp only [IntWalk.iteOmega]; go_simp)); first | done | (go_at_call 60; (with_reducible exact rsum29_is HS16.out _ _ _ _ (rd_gr HRB.out hw1))) | (with_reducible rfl) | (with_reducible exact ⟨rfl, rfl⟩))); simp only [Act.put, List.setIfInBounds_toArray, List.set_cons_zero, List.set_cons_succ]; refine hK _ ?_; clear hK K) | (refine Sched.walk1_pure rfl rfl rfl (fun K hK => ?_); apply Exists.intro; refine ⟨fun w1 => ?_, ?_⟩; (focus (go_simp; (try go_ints); (try (simp only [IntWalk.iteOmega]; go_simp)); first | done | (with_reducible rfl) | (with_reducible exact ⟨rfl, rfl⟩))); simp only [Act.put, List.setIfInBounds_toArray, List.set_cons_zero, List.set_cons_succ]; refine hK _ ?_; clear hK K) | (refine Sched.walk1_box rfl rfl ?_; apply Exists.intro; refine ⟨fun w1 hw1 => ?_, ?_⟩; (focus (go_simp; exact ⟨Gr.alloc _ _, rfl, by simp, heap_alloc_new _ _⟩))))
          refine Sched.walk1_nil ?_
          intro wq hwq
          have HCz := Lib.hid (HCq.out.kept hwq)
          have HZz := Lib.hid (HZq.out.kept hwq)
          have HXz := Lib.hid (HXq.out.kept hwq)
          have HOz := Lib.hid (HOq.out.stay hwq)
          have HGz := Lib.hid (HGq.out.trans hwq)
          have HRz := Lib.hid (rd_gr HRB.out hwq)
          have HN6 := Lib.hid (show (Value.slice (Option.some ⟨bx, 0, none⟩) bl c5).ownBlock = none ∨ (Value.slice (Option.some ⟨bx, 0, none⟩) bl c5).ownBlock ≠ Option.some g6 from .inr (by simp only [Value.ownBlock]; intro h3; have := HLT4.out; cases h3; omega))
          have HN12 := Lib.hid (show (Value.slice (Option.some ⟨bx, 0, none⟩) bl c5).ownBlock = none ∨ (Value.slice (Option.some ⟨bx, 0, none⟩) bl c5).ownBlock ≠ Option.some g12 from .inr (by simp only [Value.ownBlock]; intro h3; have := HLT4.out; cases h3; omega))
          have HGB6 := Lib.hid (show gb ≠ g6 ∧ gb ≠ g12 by have := HGB.out; have := H9X.out; have := H612.out; omega)
          clear hwq k0 k1 hor HCq HAq HZq HXq HOq HGq HBq
          dsimp only [Sched.EndN, List.nil_append, List.cons_append, Act.put]
          (try simp only [List.setIfInBounds_toArray, List.set_cons_zero, List.set_cons_succ])
          repeat (first | (refine Sched.walk2_no rfl (fun K hK => ?_); simp only [Act.put, List.setIfInBounds_toArray, List.set_cons_zero, List.set_cons_succ]; refine hK _ ?_; clear hK K) | (refine Sched.walk2_go rfl (fun K hK => ?_); go_simp; (try go_ints); (try (simp only [IntWalk.iteOmega]; go_simp)); first | (refine hK _ _ ?_; clear hK K) | fail))
          refine Sched.walk2_nil ?_
          rw [HVE.out]
          cases V
          · have HF := Lib.hid (show recF c ss a ls = ⟨0, Cl.mk bf bs ba bl bc bsm false, S, false, []⟩ by unfold recF; rw [if_neg HNV.out, if_neg HNC.out, if_neg HNB.out, if_neg HND.out, if_neg (by rw [HGL.out, HN.out]; show ¬ decOk S n = true; rw [HV.out]; simp), HYB.out, HGL.out])
            go_upto_region 24 with (fail)
            obtain ⟨u1, hu1⟩ : ∃ y, y = (wq).setCells g6 0 (CList (Cl.mk bf bs (Option.some ⟨bx, 0, none⟩) bl c5 bsm false)) := ⟨_, rfl⟩
            have hz1 : CBlk g6 (Cl.mk bf bs (Option.some ⟨bx, 0, none⟩) bl c5 bsm false) u1 := by rw [hu1]; exact cblk_put (HZz).out (Cl.mk bf bs (Option.some ⟨bx, 0, none⟩) bl c5 bsm false)
            have hg1 : Gr w u1 := by rw [hu1]; exact grown_setCells_new (HGz).out HG6.out _ _
            have hw1 : (wq).grownBy u1 (Option.some g6) := by rw [hu1]; exact grown_setCells _ _ _ _
            have HTH := Lib.hid (cblk_there (HZz).out)
            have HU1 := Lib.hid hu1
            have HZ1 := Lib.hid hz1
            have HG1 := Lib.hid hg1
            have HW1 := Lib.hid hw1
            have h6u := (HXz).out
            unfold CBlk CCells at h6u
            have H6U := Lib.hid h6u
            clear hu1 hz1 hg1 h6u hw1
            go_wp2_with (first | (refine wpList_load_w rfl 27 _ rfl g12 rfl 27 _ _ _ H6U.out Tryd.underlying27 rfl (by kernel_rfl) ?_) | (refine wpList_store_mid rfl 27 _ _ rfl g6 0 (CList (Cl.mk bf bs (Option.some ⟨bx, 0, none⟩) bl c5 bsm false)).toArray rfl rfl HTH.out (by kernel_rfl) (clist_one _) ?_; rw [← HU1.out]))
            refine bodyPost_ret (results_cell_row3h Tryd.results23 _ _ g6 _ _ _ _ rfl HZ1.out Tryd.underlying27 rfl (by kernel_rfl)) rfl ?_
            rw [HF.out]
            exact ⟨(Option.some ⟨bx, 0, none⟩), c5, none, 0, 0, rfl, ((HOz.out.kept HW1.out HN6.out).rd), (⟨rfl, by simp, by simp, .inl rfl⟩), HG1.out, (fun b off _ he => .inl (by injection he with he; injection he with he1 he2; have := HLT4.out; omega))⟩
          · have HF := Lib.hid (show recF c ss a ls = ⟨0, Cl.mk bf bs ba bl bc bsm true, S, true, Bk⟩ by unfold recF; rw [if_neg HNV.out, if_neg HNC.out, if_neg HNB.out, if_neg HND.out, if_pos (by rw [HGL.out, HN.out]; show decOk S n = true; exact HV.out), HYB.out, HGL.out, HN.out, ← HBk.out]; rfl)
            have d0 := cblk_at HXz.out 4 (v := .bool false) rfl
            have d1 := frozen_of_block HXz.out 4
            go_upto_region 26 with (fail)
            obtain ⟨w13, hw13⟩ : ∃ y, y = wq.setCell ⟨g12, 4, none⟩ (.bool true) := ⟨_, rfl⟩
            rw [← hw13]
            have hgs13 : wq.grownBy w13 (Option.some g12) := by rw [hw13]; exact grown_setAt _ _ _ _
            have hx13 : CBlk g12 (Cl.mk bf bs (Option.some ⟨bx, 0, none⟩) bl c5 bsm true) w13 := by rw [hw13]; exact heap_setCell_eq HXz.out 4 (.bool true)
            have h612' := H612.out
            have HX13 := Lib.hid hx13
            have HZ13 := Lib.hid (HZz.out.keptBut hgs13 (by omega))
            have HO13 := Lib.hid (HOz.out.kept hgs13 HN12.out)
            have HG13 := Lib.hid (show Gr w w13 by rw [hw13]; exact grown_set HGz.out (a := ⟨g12, 4, none⟩) (by have := HG6.out; show w.heap.size ≤ g12; omega) _)
            have HR13 := Lib.hid (rd_keptBut HRz.out hgs13 (fun b off h0 he h3 => by injection he with he; injection he with he1 he2; injection h3 with h3; exact HGB6.out.2 (he1.trans h3)))
            clear hw13 hgs13 hx13 h612' d0 d1
            obtain ⟨u1, hu1⟩ : ∃ y, y = (w13).setCells g6 0 (CList (Cl.mk bf bs (Option.some ⟨bx, 0, none⟩) bl c5 bsm true)) := ⟨_, rfl⟩
            have hz1 : CBlk g6 (Cl.mk bf bs (Option.some ⟨bx, 0, none⟩) bl c5 bsm true) u1 := by rw [hu1]; exact cblk_put (HZ13).out (Cl.mk bf bs (Option.some ⟨bx, 0, none⟩) bl c5 bsm true)
            have hg1 : Gr w u1 := by rw [hu1]; exact grown_setCells_new (HG13).out HG6.out _ _
            have hw1 : (w13).grownBy u1 (Option.some g6) := by rw [hu1]; exact grown_setCells _ _ _ _
            have HTH := Lib.hid (cblk_there (HZ13).out)
            have HU1 := Lib.hid hu1
            have HZ1 := Lib.hid hz1
            have HG1 := Lib.hid hg1
            have HW1 := Lib.hid hw1
            have h6u := (HX13).out
            unfold CBlk CCells at h6u
            have H6U := Lib.hid h6u
            clear hu1 hz1 hg1 h6u hw1
            go_wp2_with (first | (refine wpList_load_w rfl 27 _ rfl g12 rfl 27 _ _ _ H6U.out Tryd.underlying27 rfl (by kernel_rfl) ?_) | (refine wpList_store_mid rfl 27 _ _ rfl g6 0 (CList (Cl.mk bf bs (Option.some ⟨bx, 0, none⟩) bl c5 bsm true)).toArray rfl rfl HTH.out (by kernel_rfl) (clist_one _) ?_; rw [← HU1.out]))
            refine bodyPost_ret (results_cell_row3h Tryd.results23 _ _ g6 _ _ _ _ rfl HZ1.out Tryd.underlying27 rfl (by kernel_rfl)) rfl ?_
            rw [HF.out]
            exact ⟨(Option.some ⟨bx, 0, none⟩), c5, (Option.some ⟨gb, 0, none⟩), n, (n + 2), rfl, ((HO13.out.kept HW1.out HN6.out).rd), (rd_keptBut HR13.out HW1.out (fun b off h0 he h3 => by injection he with he; injection he with he1 he2; injection h3 with h3; exact HGB6.out.1 (he1.trans h3))), HG1.out, (fun b off _ he => .inl (by injection he with he; injection he with he1 he2; have := HLT4.out; omega))⟩
end Go.Proofs.YtcleegibdcphiaaDoor

/- Layer 29 (harq): both sides in one form. -/
namespace Go.Proofs.YtcleegibdcphiaaDoor
open Go.ChangeShapes Go.WideShapes Go.ChangeAt Go.RowKit
open Cod
def LikeP (q : Pc) (l : List Int) (E : Int) (w : World) (e : Ending) (w' : World) : Prop := ∃ x : Pc, x.Like q ∧ e = .returned (.tuple #[PVal x, .int .i64 E]) ∧ Rd .u8 w' x.a x.len l ∧ Gr w w'
theorem start_like (p : Pc) (blk : List Int) (x : Option Addr) (len cap : Nat) (ys : List Int) (n : Int) (w : World) (hr : Rd .u8 w p.a p.len blk) (hl : p.len ≤ 17592186044000) (hy : Rd .u8 w x len ys) (hl2 : len ≤ 17592186044000) :
    Calls Tryd.prog 12 #[PVal p, .slice x len cap, .int .i64 n] w (LikeP (startQ p len n) (startL p blk ys len n) (startE p len n) w) := by
  refine (start_any p blk x len cap ys n w hr hl hy hl2).mono ?_
  rintro e w' ⟨a', c', he, ho, hg⟩
  exact ⟨{ startQ p len n with a := a', cap := c' }, ⟨rfl, rfl, rfl, rfl, rfl, rfl⟩, he, ho.rd, hg⟩
theorem rstart_like (p : Pc) (blk : List Int) (x : Option Addr) (len cap : Nat) (ys : List Int) (n : Int) (w : World) (hr : Rd .u8 w p.a p.len blk) (hy : Rd .u8 w x len ys) (hl2 : len ≤ 17592186044000) :
    Calls Tryd.prog 13 #[PVal p, .slice x len cap, .int .i64 n] w (LikeP (startQ p len n) (startL p blk ys len n) (startE p len n) w) := by
  refine (rstart_any p blk x len cap ys n w hr hy hl2).mono ?_
  rintro e w' ⟨a', c', he, ho, hg⟩
  exact ⟨{ startQ p len n with a := a', cap := c' }, ⟨rfl, rfl, rfl, rfl, rfl, rfl⟩, he, ho, hg⟩
def LikeS (p : Pc) (blk : List Int) (number : Int) (w : World) (e : Ending) (w' : World) : Prop :=
  ∃ (x : Pc) (A : An) (a2 : Option Addr) (n2 c2 : Nat), x.Like (sendP p number) ∧ A = sendA p number ∧ e = .returned (.tuple #[PVal x, AVal A, .slice a2 n2 c2, .int .i64 (sendE p number)]) ∧ Rd .u8 w' x.a x.len blk ∧ OwnI w.heap.size 3 .i64 w' a2 n2 c2 (sendS p blk number) ∧ Gr w w'
theorem sendP_len (p : Pc) (number : Int) : (sendP p number).len = p.len := by unfold sendP; split <;> rfl
theorem send_like (p : Pc) (blk : List Int) (number : Int) (w : World) (hl : LaidIn w) (hr : Rd .u8 w p.a p.len blk) (hlen : p.len ≤ 17592186044000) :
    Calls Tryd.prog 17 #[PVal p, .int .i64 number] w (LikeS p blk number w) := by
  refine (send_any p blk number w hl hr hlen).mono ?_
  rintro e w' ⟨a', c', a2, n2, c2, he, ho, ho2, hg⟩
  exact ⟨{ sendP p number with a := a', cap := c' }, _, a2, n2, c2, ⟨rfl, rfl, rfl, rfl, rfl, rfl⟩, rfl, he, by dsimp only; rw [sendP_len]; exact ho.rd, ho2, hg⟩
theorem rsend_like (p : Pc) (blk : List Int) (number : Int) (w : World) (hr : Rd .u8 w p.a p.len blk) :
    Calls Tryd.prog 18 #[PVal p, .int .i64 number] w (LikeS p blk number w) := by
  refine (rsend_any p blk number w hr).mono ?_
  rintro e w' ⟨a', c', a2, n2, c2, he, ho, ho2, hg⟩
  exact ⟨{ sendP p number with a := a', cap := c' }, _, a2, n2, c2, ⟨rfl, rfl, rfl, rfl, rfl, rfl⟩, rfl, he, by dsimp only; rw [sendP_len]; exact ho, ho2, hg⟩
def LikeA (p : Pc) (blk : List Int) (F : Bool × Bool × Int) (w : World) (e : Ending) (w' : World) : Prop := ∃ x : Pc, x.Like (if F.1 then p else newP p) ∧ e = .returned (.tuple #[PVal x, .bool F.2.1, .int .i64 F.2.2]) ∧ Rd .u8 w' x.a x.len (if F.1 then blk else []) ∧ Gr w w'
theorem answer_like (p : Pc) (blk : List Int) (right : Bool) (most : Int) (w : World) (hr : Rd .u8 w p.a p.len blk) (hl : p.len ≤ 17592186044000) :
    Calls Tryd.prog 20 #[PVal p, .bool right, .int .i64 most] w (LikeA p blk (ansF p right most) w) := by
  refine (answer_any p blk right most w hr hl).mono ?_
  rintro e w' ⟨a', c', he, ho, hg⟩
  exact ⟨{ (if (ansF p right most).1 then p else newP p) with a := a', cap := c' }, ⟨rfl, rfl, rfl, rfl, rfl, rfl⟩, he, ho.rd, hg⟩
theorem ranswer_like (p : Pc) (blk : List Int) (right : Bool) (most : Int) (w : World) (hr : Rd .u8 w p.a p.len blk) :
    Calls Tryd.prog 21 #[PVal p, .bool right, .int .i64 most] w (LikeA p blk (ansF p right most) w) := by
  refine (ranswer_any p blk right most w hr).mono ?_
  rintro e w' ⟨a', c', he, ho, hg⟩
  exact ⟨{ (if (ansF p right most).1 then p else newP p) with a := a', cap := c' }, ⟨rfl, rfl, rfl, rfl, rfl, rfl⟩, he, ho, hg⟩
def LikeR (R : RecR) (w : World) (e : Ending) (w' : World) : Prop :=
  ∃ (x : Cl) (ab : Option Addr) (nb cb : Nat), x.Like R.c ∧ e = .returned (.tuple #[CVal x, .slice ab nb cb, .bool R.ok, .int .i64 R.E]) ∧ Rd .i64 w' x.a x.len R.ss ∧ Rd .u8 w' ab nb R.blk ∧ Gr w w'
theorem receive_like (c : Cl) (ss : List Int) (a : An) (l : Option Addr) (len cap : Nat) (ls : List Int) (w : World) (hl : LaidIn w) (hr : Rd .i64 w c.a c.len ss) (hm : c.len ≤ 17592186044000) (hs : Rd .i64 w l len ls) :
    Calls Tryd.prog 22 #[CVal c, AVal a, .slice l len cap] w (LikeR (recF c ss a ls) w) := by
  refine (receive_any c ss a l len cap ls w hl hr hm hs).mono ?_
  rintro e w' ⟨a', c', ab, cb, he, ho, ho2, hg⟩
  exact ⟨{ (recF c ss a ls).c with a := a', cap := c' }, ab, _, cb, ⟨rfl, rfl, rfl, rfl, rfl⟩, he, ho.rd, ho2.rd, hg⟩
theorem rreceive_like (c : Cl) (ss : List Int) (a : An) (l : Option Addr) (len cap : Nat) (ls : List Int) (w : World) (hr : Rd .i64 w c.a c.len ss) (hm : c.len ≤ 17592186044000) (hs : Rd .i64 w l len ls) :
    Calls Tryd.prog 23 #[CVal c, AVal a, .slice l len cap] w (LikeR (recF c ss a ls) w) := by
  refine (rreceive_any c ss a l len cap ls w hr hm hs).mono ?_
  rintro e w' ⟨a', c', ab, nb, cb, he, ho, ho2, hg, _⟩
  exact ⟨{ (recF c ss a ls).c with a := a', cap := c' }, ab, nb, cb, ⟨rfl, rfl, rfl, rfl, rfl⟩, he, ho, ho2, hg⟩
/-- What the reference's Receive returns, with where its soft bits may lie. -/
def LikeRF (c : Cl) (R : RecR) (w : World) (e : Ending) (w' : World) : Prop :=
  ∃ (x : Cl) (ab : Option Addr) (nb cb : Nat), x.Like R.c ∧ e = .returned (.tuple #[CVal x, .slice ab nb cb, .bool R.ok, .int .i64 R.E]) ∧ Rd .i64 w' x.a x.len R.ss ∧ Rd .u8 w' ab nb R.blk ∧ Gr w w' ∧ ∀ b off, 0 < x.len → x.a = Option.some ⟨b, off, none⟩ → w.heap.size ≤ b ∨ (x.a = c.a ∧ x.len = c.len)
theorem rreceive_far (c : Cl) (ss : List Int) (a : An) (l : Option Addr) (len cap : Nat) (ls : List Int) (w : World) (hr : Rd .i64 w c.a c.len ss) (hm : c.len ≤ 17592186044000) (hs : Rd .i64 w l len ls) :
    Calls Tryd.prog 23 #[CVal c, AVal a, .slice l len cap] w (LikeRF c (recF c ss a ls) w) := by
  refine (rreceive_any c ss a l len cap ls w hr hm hs).mono ?_
  rintro e w' ⟨a', c', ab, nb, cb, he, ho, ho2, hg, hf⟩
  exact ⟨{ (recF c ss a ls).c with a := a', cap := c' }, ab, nb, cb, ⟨rfl, rfl, rfl, rfl, rfl⟩, he, ho, ho2, hg, hf⟩
theorem same_like {x y q : Pc} {l : List Int} (hx : x.Like q) (hy : y.Like q) (w : World) (h1 : Rd .u8 w x.a x.len l) (h2 : Rd .u8 w y.a y.len l) :
    Calls Tryd.prog 14 #[PVal x, PVal y] w fun e w' => e = .returned (.bool true) ∧ Gr w w' :=
  sameP_yes x y l w (hx.act.trans hy.act.symm) (hx.coded.trans hy.coded.symm) (hx.fresh.trans hy.fresh.symm) (hx.ver.trans hy.ver.symm) (hx.tries.trans hy.tries.symm) h1 h2
theorem samec_like {x y q : Cl} {l : List Int} (hx : x.Like q) (hy : y.Like q) (w : World) (h1 : Rd .i64 w x.a x.len l) (h2 : Rd .i64 w y.a y.len l) :
    Calls Tryd.prog 25 #[CVal x, CVal y] w fun e w' => e = .returned (.bool true) ∧ Gr w w' :=
  sameC_yes x y l w (hx.fresh.trans hy.fresh.symm) (hx.size.trans hy.size.symm) (hx.some.trans hy.some.symm) (hx.done.trans hy.done.symm) h1 h2
theorem samebR {xs : List Int} (a b : Option Addr) (l c l' c' : Nat) (w : World) (hx : Rd .u8 w a l xs) (hy : Rd .u8 w b l' xs) :
    Calls Tryd.prog 24 #[.slice a l c, .slice b l' c'] w fun e w' => e = .returned (.bool true) ∧ Gr w w' := by
  have h := same_bytes24 a b l c l' c' xs xs w hx hy
  rwa [decide_eq_true rfl] at h
theorem sameiR {xs : List Int} (a b : Option Addr) (l c l' c' : Nat) (w : World) (hx : Rd .i64 w a l xs) (hy : Rd .i64 w b l' xs) :
    Calls Tryd.prog 19 #[.slice a l c, .slice b l' c'] w fun e w' => e = .returned (.bool true) ∧ Gr w w' := by
  have h := same_ints a b l c l' c' xs xs w hx hy
  rwa [decide_eq_true rfl] at h
theorem run_neqA (A : An) (w : World) : (binOp .neq 29 (AVal A) (AVal A)).run Tryd.prog w = .ok (.bool false) w := by
  unfold AVal
  go_simp
/-- Bytes do not lie in a process's block. -/
theorem rd_not_p {g : Nat} {q : Pc} {w : World} {a : Option Addr} {n : Nat} {xs : List Int} (h : Rd .u8 w a n xs) (hq : PBlk g q w) : ∀ b off, 0 < n → a = some ⟨b, off, none⟩ → b ≠ g := by
  rintro b off h0 rfl rfl
  obtain ⟨b', off', e, _, hc⟩ := h.some h0
  injection e with e
  injection e with e1 e2
  subst e1 e2
  have h1 := hc 0 h0
  rw [cell_of_block hq] at h1
  have hl : off + 0 < 6 := by
    rcases Nat.lt_or_ge (off + 0) 6 with h2 | h2
    · exact h2
    · rw [Array.getElem?_eq_none (by simpa [PCells] using h2)] at h1; cases h1
  have h3 : off + 0 = 0 ∨ off + 0 = 1 ∨ off + 0 = 2 ∨ off + 0 = 3 ∨ off + 0 = 4 ∨ off + 0 = 5 := by omega
  rcases h3 with h3 | h3 | h3 | h3 | h3 | h3 <;> rw [h3] at h1 <;> simp [PCells] at h1
theorem PBlk.but {g k : Nat} {c : Pc} {w w' : World} (h : PBlk g c w) (hg : w.grownBy w' (some k)) (hk : g ≠ k) : PBlk g c w' := (hg.block g (heap_lt h) (by simpa using hk)).trans h
theorem raws_facts {W V X1 X2 : World} {g : Nat} {q r : Pc} {B : An} (hq : PBlk g q W) (hv : V = W.alloc (.cells #[.int .i64 0, .int .i64 0, .int .i64 0, .int .i64 0, .int .i64 0] 29))
    (h1 : X1 = V.setCells g 0 (PList r)) (h2 : X2 = X1.setCells W.heap.size 0 (AList B)) :
    V.there g 0 6 ∧ X1.there W.heap.size 0 5 ∧ PBlk g r X2 ∧ ABlk W.heap.size B X2 ∧ W.grownBy X2 (some g) := by
  have hgv : Gr W V := by rw [hv]; exact Gr.alloc _ _
  have hlt := heap_lt hq
  have a0 : ABlk W.heap.size zeroA V := by rw [hv]; exact heap_alloc_new _ _
  have p0 := hq.kept hgv
  have p1 : PBlk g r X1 := by rw [h1]; exact pblk_put p0 r
  have a1 : ABlk W.heap.size zeroA X1 := by rw [h1]; exact ablk_other a0 _ (by omega)
  refine ⟨pblk_there p0, ablk_there a1, by rw [h2]; exact pblk_other p1 _ (by omega), by rw [h2]; exact ablk_put a1 B, ?_⟩
  have g1 : W.grownBy X1 (some g) := grownBy_trans (grownBy_trans (grownBy_refl W (some g)) hgv (.inr (.inl rfl))) (by rw [h1]; exact grown_setCells g (PList r) 0 V) (.inl rfl)
  refine grownBy_trans g1 (by rw [h2]; exact grown_setCells W.heap.size (AList B) 0 X1) (.inr (.inr ⟨W.heap.size, rfl, Nat.le_refl _⟩))
def lightB (c : Cl) (n : Nat) (a : An) : Bool := decide (c.len ≤ 500) && (decide (n ≤ 500) && decide (a.size ≤ 20))
set_option maxRecDepth 20000 in
theorem light_any (c : Cl) (l : Option Addr) (n cap : Nat) (a : An) (w : World) (hn : n ≤ 9223372036854775807) (hm : c.len ≤ 9223372036854775807) : Calls Tryd.prog 10 #[CVal c, .slice l n cap, AVal a] w fun e w' => e = .returned (.bool (lightB c n a)) ∧ Gr w w' := by
  obtain ⟨R, hR⟩ : ∃ R, lightB c n a = R := ⟨_, rfl⟩
  rw [hR]
  unfold lightB at hR
  have HR := Lib.hid hR
  clear hR
  unfold CVal AVal
  go_enter Tryd.func10, Tryd.ntmps10
  go_upto_region 1 with (fail)
  obtain ⟨w1, hw1⟩ : ∃ y, y = w.alloc (.cells #[.int .i64 c.fresh, .int .i64 c.size, .slice c.a c.len c.cap, .bool c.some, .bool c.done] 27) := ⟨_, rfl⟩
  rw [← hw1]
  obtain ⟨w2, hw2⟩ : ∃ y, y = w1.alloc (.cells #[.int .i64 a.proc, .int .i64 a.fresh, .int .i64 a.ver, .int .i64 a.size, .int .i64 a.coded] 29) := ⟨_, rfl⟩
  rw [← hw2]
  have hg1 : Gr w w1 := by rw [hw1]; exact Gr.alloc _ _
  have hg2 : Gr w1 w2 := by rw [hw2]; exact Gr.alloc _ _
  have hs : w1.heap.size = w.heap.size + 1 := by rw [hw1]; simp
  have hb1 : CBlk w.heap.size c w2 := CBlk.kept (show CBlk w.heap.size c w1 by rw [hw1]; exact heap_alloc_new _ _) hg2
  have hb2 : ABlk (w.heap.size + 1) a w2 := by rw [hw2, ← hs]; exact heap_alloc_new _ _
  have HG := Lib.hid (hg1.trans hg2)
  have c2 := cblk_at hb1 2 (v := .slice c.a c.len c.cap) rfl
  have c3 := ablk_at hb2 3 (v := .int .i64 a.size) rfl
  clear hw1 hw2 hg1 hg2 hs hb1 hb2
  by_cases h1 : c.len ≤ 500
  · by_cases h2 : n ≤ 500
    · by_cases h3 : a.size ≤ 20
      · have hr := HR.out
        rw [decide_eq_true h1, decide_eq_true h2, decide_eq_true h3] at hr
        have HE := Lib.hid hr
        clear hr
        go_wp2_with fail
        go_ret
        exact ⟨by rw [← HE.out]; rfl, HG.out⟩
      · have hr := HR.out
        rw [decide_eq_true h1, decide_eq_true h2, decide_eq_false h3] at hr
        have HE := Lib.hid hr
        clear hr
        go_wp2_with fail
        go_ret
        exact ⟨by rw [← HE.out]; rfl, HG.out⟩
    · have hr := HR.out
      rw [decide_eq_true h1, decide_eq_false h2] at hr
      have HE := Lib.hid hr
      clear hr
      go_wp2_with fail
      go_ret
      exact ⟨by rw [← HE.out]; rfl, HG.out⟩
  · have hr := HR.out
    rw [decide_eq_false h1] at hr
    have HE := Lib.hid hr
    clear hr
    go_wp2_with fail
    go_ret
    exact ⟨by rw [← HE.out]; rfl, HG.out⟩
end Go.Proofs.YtcleegibdcphiaaDoor

/- Dice of radiolinkroll: numbers that are given out; what a call of them leaves. -/
namespace Go.Proofs.YtcleegibdcphiaaDoor
open Go.ChangeShapes Go.WideShapes Go.ChangeAt Go.RowKit

/-- Block p is a pair of dice; its list lies before it. -/
def Die (w : World) (p : Nat) : Prop := ∃ (a : Option Addr) (len cap : Nat) (ts : List Int) (k : Nat),
  w.heap[p]? = some (.cells #[.slice a len cap, .int .i64 k] 78 (0, 0)) ∧ Rd .i64 w a len ts ∧ k ≤ len ∧ ∀ b off, 0 < len → a = some ⟨b, off, none⟩ → b < p

theorem Die.lt {w : World} {p : Nat} (h : Die w p) : p < w.heap.size := by
  obtain ⟨_, _, _, _, _, h1, _⟩ := h
  exact heap_lt h1
/-- Other blocks turn. -/
theorem Die.kept {w w' : World} {p : Nat} {r : Option Nat} (h : Die w p) (hg : w.grownBy w' r) (hr : ∀ g, r = some g → p < g) : Die w' p := by
  have hlt := h.lt
  obtain ⟨a, len, cap, ts, k, h1, h2, h3, h4⟩ := h
  refine ⟨a, len, cap, ts, k, ?_, rd_keptBut h2 hg ?_, h3, h4⟩
  · rw [hg.block p hlt ?_]
    · exact h1
    · intro he; have := hr p he.symm; omega
  · intro b off h0 he h; have := hr b h.symm; have := h4 b off h0 he; omega
def NextPost (p : Nat) (n : Int) (w : World) (e : Ending) (w' : World) : Prop := ∃ v : Int, e = .returned (.int .i64 v) ∧ 0 ≤ v ∧ v < n ∧ Die w' p ∧ w.grownBy w' (some p)

set_option maxHeartbeats 1000000 in
theorem dnext_any (p : Nat) (n : Int) (w : World) (hd : Die w p) (hn : 1 ≤ n) (hn2 : n ≤ 4611686018427387904) :
    Calls Tryd.prog 29 #[.pointer (some ⟨p, 0, none⟩), .int .i64 n] w (NextPost p n w) := by
  have HD := Lib.hid hd
  obtain ⟨a, len, cap, ts, k, h1, h2, h3, h4⟩ := hd
  have hplt := heap_lt h1
  have hm : len ≤ 9223372036854775807 := by have := h2.2.2.1; simp only [maxLen] at this; omega
  have c0 : ∀ w1, Gr w w1 → w1.cell? ⟨p, 0, none⟩ = some (.slice a len cap) := fun w1 h => h.cell (by rw [cell_of_block h1]; rfl)
  have c1 : ∀ w1, Gr w w1 → w1.cell? ⟨p, 1, none⟩ = some (.int .i64 k) := fun w1 h => h.cell (by rw [cell_of_block h1]; rfl)
  have H1 := Lib.hid h1
  have H2 := Lib.hid h2
  have H4 := Lib.hid h4
  clear h1 h2 h4
  go_enter Tryd.func29, Tryd.ntmps29
  go_wp2_with fail
  refine Sched.wp_region_sched 10 [] [] (by kernel_rfl) (by kernel_rfl) ?_
  simp only [List.take_succ_cons, List.take_zero, List.drop_succ_cons, List.drop_zero]
  repeat (first | (refine Sched.walk1_no rfl rfl (fun K hK => ?_); simp only [Act.put, List.setIfInBounds_toArray, List.set_cons_zero, List.set_cons_succ]; refine hK _ ?_; clear hK K) | (refine Sched.walk1_gr rfl rfl rfl (fun K hK => ?_); apply Exists.intro; refine ⟨fun w1 hw1 => ?_, ?_⟩; (focus (go_simp; (try go_ints); (try (simp only [IntWalk.iteOmega]; go_simp)); first | done | fail | (with_reducible rfl) | (with_reducible exact ⟨rfl, rfl⟩))); simp only [Act.put, List.setIfInBounds_toArray, List.set_cons_zero, List.set_cons_succ]; refine hK _ ?_; clear hK K) | (refine Sched.walk1_pure rfl rfl rfl (fun K hK => ?_); apply Exists.intro; refine ⟨fun w1 => ?_, ?_⟩; (focus (go_simp; (try go_ints); (try (simp only [IntWalk.iteOmega]; go_simp)); first | done | (with_reducible rfl) | (with_reducible exact ⟨rfl, rfl⟩))); simp only [Act.put, List.setIfInBounds_toArray, List.set_cons_zero, List.set_cons_succ]; refine hK _ ?_; clear hK K) | (refine Sched.walk1_box rfl rfl ?_; apply Exists.intro; refine ⟨fun w1 hw1 => ?_, ?_⟩; (focus (go_simp; exact ⟨Gr.alloc _ _, rfl, by simp, heap_alloc_new _ _⟩))))
  refine Sched.walk1_nil ?_
  intro wq hwq
  dsimp only [Sched.EndN, List.nil_append, List.cons_append, Act.put]
  (try simp only [List.setIfInBounds_toArray, List.set_cons_zero, List.set_cons_succ])
  repeat (first | (refine Sched.walk2_no rfl (fun K hK => ?_); simp only [Act.put, List.setIfInBounds_toArray, List.set_cons_zero, List.set_cons_succ]; refine hK _ ?_; clear hK K) | (refine Sched.walk2_go rfl (fun K hK => ?_); go_simp; (try go_ints); (try (simp only [IntWalk.iteOmega]; go_simp)); first | (refine hK _ _ ?_; clear hK K) | fail))
  refine Sched.walk2_nil ?_
  by_cases hk : k < len
  · obtain ⟨b, off, hab, hb, hcell⟩ := H2.out.some (by omega)
    subst hab
    have hbp := H4.out b off (by omega) rfl
    have ck := hcell k hk
    obtain ⟨x, hx⟩ : ∃ x, ts[k]?.getD 0 = x := ⟨_, rfl⟩
    rw [hx] at ck
    have c1' := c1 wq hwq
    have c0' := c0 wq hwq
    have ckq := hwq.cell ck
    have hfz : wq.frozen? ⟨p, 1, none⟩ = false := frozen_of_block (by rw [hwq.block p hplt (by simp)]; exact H1.out) 1
    have HX := Lib.hid hx
    have HQ := Lib.hid hwq
    clear hcell hx c0 c1 ck hb hwq
    go_wp2_with fail
    have hbw : (wq.setCell ⟨p, 1, none⟩ (.int .i64 (k + 1))).heap[p]? = some (.cells #[.slice (some ⟨b, off, none⟩) len cap, .int .i64 (k + 1)] 78 (0, 0)) :=
      heap_setCell_eq (by rw [HQ.out.block p hplt (by simp)]; exact H1.out) 1 _
    have hg2 := grown_trans' (grown_weak HQ.out (some p)) (grown_setAt wq p 1 (.int .i64 (k + 1)))
    have ckw : (wq.setCell ⟨p, 1, none⟩ (.int .i64 (k + 1))).cell? ⟨b, off + k, none⟩ = some (.int .i64 x) := by
      rw [World.cell?_of_block (heap_setCell_ne _ _ _ _ (by show b ≠ p; omega))]; exact ckq
    obtain ⟨w2, hw2⟩ : ∃ w2, w2 = wq.setCell ⟨p, 1, none⟩ (.int .i64 (k + 1)) := ⟨_, rfl⟩
    rw [← hw2] at hbw hg2 ckw
    rw [← hw2]
    have d0 : ∀ w1, Gr w2 w1 → w1.cell? ⟨p, 0, none⟩ = some (.slice (some ⟨b, off, none⟩) len cap) := fun w1 h => h.cell (by rw [cell_of_block hbw]; rfl)
    have d1 : ∀ w1, Gr w2 w1 → w1.cell? ⟨p, 1, none⟩ = some (.int .i64 (k + 1)) := fun w1 h => h.cell (by rw [cell_of_block hbw]; rfl)
    have d2 : ∀ w1, Gr w2 w1 → w1.cell? ⟨b, off + k, none⟩ = some (.int .i64 x) := fun w1 h => h.cell ckw
    have HBW := Lib.hid hbw
    have HG2 := Lib.hid hg2
    clear hw2 hbw hg2 ckw c1' c0' ckq hfz
    refine Sched.wp_region_sched 14 [] [] (by kernel_rfl) (by kernel_rfl) ?_
    simp only [List.take_succ_cons, List.take_zero, List.drop_succ_cons, List.drop_zero]
    repeat (first | (refine Sched.walk1_no rfl rfl (fun K hK => ?_); simp only [Act.put, List.setIfInBounds_toArray, List.set_cons_zero, List.set_cons_succ]; refine hK _ ?_; clear hK K) | (refine Sched.walk1_gr rfl rfl rfl (fun K hK => ?_); apply Exists.intro; refine ⟨fun w1 hw1 => ?_, ?_⟩; (focus (go_simp; (try go_ints); (try (simp only [IntWalk.iteOmega]; go_simp)); first | done | ((go_at_call 33; (with_reducible exact gr_same (rollmod_any _ _ _ (by omega))))) | (with_reducible rfl) | (with_reducible exact ⟨rfl, rfl⟩))); simp only [Act.put, List.setIfInBounds_toArray, List.set_cons_zero, List.set_cons_succ]; refine hK _ ?_; clear hK K) | (refine Sched.walk1_pure rfl rfl rfl (fun K hK => ?_); apply Exists.intro; refine ⟨fun w1 => ?_, ?_⟩; (focus (go_simp; (try go_ints); (try (simp only [IntWalk.iteOmega]; go_simp)); first | done | (with_reducible rfl) | (with_reducible exact ⟨rfl, rfl⟩))); simp only [Act.put, List.setIfInBounds_toArray, List.set_cons_zero, List.set_cons_succ]; refine hK _ ?_; clear hK K) | (refine Sched.walk1_box rfl rfl ?_; apply Exists.intro; refine ⟨fun w1 hw1 => ?_, ?_⟩; (focus (go_simp; exact ⟨Gr.alloc _ _, rfl, by simp, heap_alloc_new _ _⟩))))
    refine Sched.walk1_nil ?_
    intro wq hwq
    dsimp only [Sched.EndN, List.nil_append, List.cons_append, Act.put]
    (try simp only [List.setIfInBounds_toArray, List.set_cons_zero, List.set_cons_succ])
    repeat (first | (refine Sched.walk2_no rfl (fun K hK => ?_); simp only [Act.put, List.setIfInBounds_toArray, List.set_cons_zero, List.set_cons_succ]; refine hK _ ?_; clear hK K) | (refine Sched.walk2_go rfl (fun K hK => ?_); go_simp; (try go_ints); (try (simp only [IntWalk.iteOmega]; go_simp)); first | (refine hK _ _ ?_; clear hK K) | fail))
    refine Sched.walk2_nil ?_
    go_wp2_with fail
    go_ret
    have hg3 := grown_trans' HG2.out (grown_weak hwq (some p))
    refine ⟨modF x n, rfl, modF_lo _ _, modF_hi _ _ hn, ⟨some ⟨b, off, none⟩, len, cap, ts, k + 1, ?_, rd_keptBut H2.out hg3 ?_, by omega, H4.out⟩, hg3⟩
    · rw [hwq.block p (heap_lt HBW.out) (by simp), HBW.out]; rfl
    · intro b' off' h0 he h
      injection h with h
      have := H4.out b' off' h0 he
      omega
  · go_wp2_with fail
    go_ret
    exact ⟨0, rfl, by omega, by omega, HD.out.kept hwq (by simp), grown_weak hwq _⟩
end Go.Proofs.YtcleegibdcphiaaDoor

/- Layer 29 (harq): bytes and noise out of dice. -/
namespace Go.Proofs.YtcleegibdcphiaaDoor
open Go.ChangeShapes Go.WideShapes Go.ChangeAt Go.RowKit
open Cod

theorem rlight_any (a : Option Addr) (n cap : Nat) (w : World) (hn : n ≤ 9223372036854775807) : Calls Tryd.prog 26 #[.slice a n cap] w fun e w' => e = .returned (.bool (decide (n ≤ 300))) ∧ w = w' := by
  go_enter Tryd.func26, Tryd.ntmps26
  by_cases h : n ≤ 300
  · rw [decide_eq_true h]
    go_wp2_with fail
    go_ret
    exact ⟨by simp; omega, rfl⟩
  · rw [decide_eq_false h]
    go_wp2_with fail
    go_ret
    exact ⟨by simp; omega, rfl⟩
def RollPost (w : World) (e : Ending) (w' : World) : Prop := ∃ p, e = .returned (.pointer (some ⟨p, 0, none⟩)) ∧ w.heap.size ≤ p ∧ Die w' p ∧ Gr w w'
theorem roll_any (a : Option Addr) (n cap : Nat) (ts : List Int) (w : World) (hr : Rd .i64 w a n ts) (hn : n ≤ 100000) : Calls Tryd.prog 27 #[.slice a n cap] w (RollPost w) := by
  obtain ⟨v0, hv0⟩ : ∃ y, y = w.alloc (.cells #[] 3) := ⟨_, rfl⟩
  have ho0 := lit_nilI29 w.heap.size w (Nat.le_refl _)
  rw [← hv0] at ho0
  have hg0 : Gr w v0 := by rw [hv0]; exact Gr.alloc _ _
  obtain ⟨a5, c5, v1, hrun, ho1, hg1, _⟩ := app_i64 w.heap.size v0 (some ⟨w.heap.size, 0, none⟩) 0 0 [] ho0 a n cap ts (hr.kept hg0) (by omega) hg0.size
  rw [Nat.zero_add] at hrun ho1
  rw [List.nil_append] at ho1
  have hgv : Gr w v1 := grown_own hg0 ho0 (Nat.le_refl _) hg1
  obtain ⟨v2, hv2⟩ : ∃ y, y = v1.alloc (.cells #[.slice a5 n c5, .int .i64 0] 78) := ⟨_, rfl⟩
  have hb2 : v2.heap[v1.heap.size]? = some (.cells #[.slice a5 n c5, .int .i64 0] 78 (0, 0)) := by rw [hv2]; exact heap_alloc_new _ _
  have hg2 : Gr v1 v2 := by rw [hv2]; exact Gr.alloc _ _
  have HD := Lib.hid (show Die v2 v1.heap.size from ⟨a5, n, c5, ts, 0, hb2, (ho1.stay hg2).rd, Nat.zero_le _, fun b off h0 he => (ho1.below b (by rw [he]; rfl)).2⟩)
  have HRUN := Lib.hid hrun
  have HV0 := Lib.hid hv0
  have HV2 := Lib.hid hv2
  have HG := Lib.hid (hgv.trans hg2)
  have HS := Lib.hid (show w.heap.size ≤ v1.heap.size from hgv.size)
  clear hrun hv0 hv2 hgv hg2 hb2 ho1 hg1 hg0 ho0 hr
  go_enter Tryd.func27, Tryd.ntmps27
  go_wp2_with (at_builtin; (have hw1 := HV0.out; rw [← hw1]; clear hw1); refine wpList_app rfl _ _ _ rfl rfl rfl HRUN.out ?_)
  rw [← HV2.out]
  go_ret
  exact ⟨_, rfl, HS.out, HD.out, HG.out⟩
def DBPost (p n : Nat) (w : World) (e : Ending) (w' : World) : Prop := ∃ a cap xs, e = .returned (.slice a n cap) ∧ OwnI w.heap.size 5 .u8 w' a n cap xs ∧ Die w' p ∧ w.grownBy w' (some p)
def DBRel (p n g : Nat) (w : World) (t : Value) (wr : World) : Prop := ∃ (i : Nat) (xs : List Int), i ≤ n ∧ t = .int .i64 i ∧ OwnI w.heap.size 5 .u8 wr (some ⟨g, 0, none⟩) n n xs ∧ Die wr p ∧ w.grownBy wr (some p)
set_option maxHeartbeats 1000000 in
theorem dbytes_any (p n : Nat) (w : World) (hd : Die w p) (hn : n ≤ 1000) : Calls Tryd.prog 28 #[.pointer (some ⟨p, 0, none⟩), .int .i64 (n : Int)] w (DBPost p n w) := by
  have hmk := fun u => make_bytes29 n (by omega) u
  have hpl := hd.lt
  obtain ⟨w1, hw1⟩ : ∃ y, y = w.alloc (.cells (Array.replicate n (.int .u8 0)) 5) := ⟨_, rfl⟩
  have ho0 := own_made_u8 w.heap.size n w (Nat.le_refl _) (by simp only [maxLen]; omega)
  have hg1 : Gr w w1 := by rw [hw1]; exact Gr.alloc _ _
  rw [← hw1] at ho0
  have HO1 := Lib.hid ho0
  have HD1 := Lib.hid (hd.kept hg1 (by simp))
  have HG1 := Lib.hid hg1
  have HW1 := Lib.hid hw1
  clear hw1 ho0 hg1 hd
  go_enter Tryd.func28, Tryd.ntmps28
  go_upto_region 2 with (fail)
  rw [← HW1.out]
  clear hmk HW1
  go_wp2_with fail
  refine (dnext_any p 256 w1 HD1.out (by omega) (by omega)).mono ?_
  rintro e w2 ⟨k, rfl, k1, k2, hd2, hg2⟩
  have HO2 := Lib.hid (HO1.out.kept hg2 (.inr (by simp only [Value.ownBlock]; intro h; injection h; omega)))
  have HD2 := Lib.hid hd2
  have HG2 := Lib.hid (grownBy_trans (grownBy_trans (grownBy_refl w (some p)) HG1.out (.inr (.inl rfl))) hg2 (.inl rfl))
  clear hd2 hg2 HO1 HD1 HG1
  go_wp2_with fail
  go_loopw [7] (fun t wr => DBRel p n w.heap.size w t wr) (fun t _ => n - (intOf t).toNat)
  case atStart => exact ⟨0, _, by omega, rfl, HO2.out, HD2.out, HG2.out⟩
  case round =>
    clear HO2 HD2 HG2
    obtain ⟨i, xs, hi, rfl, ho, hd, hg⟩ := hrel
    by_cases hlt : i < n
    · obtain ⟨ci, fi⟩ := ho.at i hlt
      have HO := Lib.hid ho
      have HD := Lib.hid hd
      have HG := Lib.hid hg
      have HWP := Lib.hid (show p < w.heap.size from hpl)
      clear ho hd hg
      go_upto_region 5 with (fail)
      obtain ⟨z, hz⟩ : ∃ z, wrap64 (k + wrap64 ((i : Int) * (k + 7))) % 256 = z := ⟨_, rfl⟩
      rw [hz]
      have hzr : 0 ≤ z ∧ z ≤ 255 := by
        have h1 := Int.emod_nonneg (wrap64 (k + wrap64 ((i : Int) * (k + 7)))) (show (256 : Int) ≠ 0 by decide)
        have h2 := Int.emod_lt_of_pos (wrap64 (k + wrap64 ((i : Int) * (k + 7)))) (show (0 : Int) < 256 by decide)
        omega
      clear hz
      obtain ⟨w5, hw5⟩ : ∃ y, y = wr.setCell ⟨w.heap.size, i, none⟩ (.int .u8 z) := ⟨_, rfl⟩
      rw [← hw5]
      have hgs : wr.grownBy w5 (some w.heap.size) := by rw [hw5]; exact grown_setAt _ _ _ _
      have HO5 := Lib.hid (show OwnI w.heap.size 5 .u8 w5 (some ⟨w.heap.size, 0, none⟩) n n (xs.set i z) by rw [hw5]; exact HO.out.set i z (WalkArith.wf_u8 hzr))
      have HD5 := Lib.hid (HD.out.kept hgs (by intro g h; injection h with h; omega))
      have HG5 := Lib.hid (grownBy_trans HG.out hgs (.inr (.inr ⟨w.heap.size, rfl, Nat.le_refl _⟩)))
      clear hw5 hgs hzr HO HD HG
      go_wp2_with fail
      go_roundw
      case rel => exact ⟨i + 1, _, by omega, by go_num, HO5.out, HD5.out, HG5.out⟩
      case measure => (simp [intOf] <;> omega)
    · obtain rfl : i = n := by omega
      have HO := Lib.hid ho
      have HD := Lib.hid hd
      have HG := Lib.hid hg
      clear ho hd hg
      go_wp2_with fail
      go_ret
      exact ⟨_, _, _, rfl, HO.out, HD.out, HG.out⟩
def NoisePost (p n : Nat) (w : World) (e : Ending) (w' : World) : Prop := ∃ a cap L, e = .returned (.slice a n cap) ∧ L.length = n ∧ softOk L ∧ OwnI w.heap.size 3 .i64 w' a n cap L ∧ Die w' p ∧ w.grownBy w' (some p)
def NzRel (p len : Nat) (w : World) (s t : Value) (wr : World) : Prop := ∃ (ak : Option Addr) (ck k : Nat) (zs : List Int), k ≤ len ∧ s = .slice ak k ck ∧ t = .int .i64 k ∧ OwnI w.heap.size 3 .i64 wr ak k ck zs ∧ (∀ z ∈ zs, -1000 ≤ z ∧ z ≤ 1000) ∧ Die wr p ∧ w.grownBy wr (some p)
set_option maxHeartbeats 1000000 in
set_option maxRecDepth 20000 in
theorem noise_any (p : Nat) (a : Option Addr) (len cap : Nat) (bs : List Int) (w : World) (hd : Die w p) (hr : Rd .i64 w a len bs) (hb : isBits bs) (hL : len ≤ 5000) (hne : ∀ b off, 0 < len → a = some ⟨b, off, none⟩ → b ≠ p) :
    Calls Tryd.prog 30 #[.pointer (some ⟨p, 0, none⟩), .slice a len cap, .int .i64 20] w (NoisePost p len w) := by
  have hpl := hd.lt
  have HR := Lib.hid hr
  have HBB := Lib.hid hb
  have HNE := Lib.hid hne
  have HD := Lib.hid hd
  clear hr hb hne hd
  go_enter Tryd.func30, Tryd.ntmps30
  go_wp2_with fail
  refine (dnext_any p 60 w HD.out (by omega) (by omega)).mono ?_
  rintro e w1 ⟨m, rfl, m1, m2, hd1, hg1⟩
  have HD1 := Lib.hid hd1
  have HG1 := Lib.hid hg1
  clear hd1 hg1 HD
  go_wp2_with fail
  go_loopw [8, 9] (fun s t wr => NzRel p len w s t wr) (fun _ t _ => len - (intOf t).toNat)
  case atStart => exact ⟨none, 0, 0, [], by omega, rfl, rfl, OwnI.nil _ _ _ _, by simp, HD1.out, HG1.out⟩
  case round =>
    clear HD1 HG1
    obtain ⟨ak, ck, k, zs, hk, rfl, rfl, ho, hz, hd, hg⟩ := hrel
    have HO := Lib.hid ho
    have HZ := Lib.hid hz
    have HD := Lib.hid hd
    have HG := Lib.hid hg
    clear ho hz hd hg
    by_cases hlt : k < len
    · go_wp2_with fail
      refine (dnext_any p (2 * (1 + m) + 1) wr HD.out (by omega) (by omega)).mono ?_
      rintro e w2 ⟨v, rfl, v1, v2, hd2, hg2⟩
      have ho2 := HO.out.kept hg2 (by
        cases hv : (Value.slice ak k ck).ownBlock with
        | none => exact .inl rfl
        | some b => exact .inr (by intro h; have := (HO.out.below b hv).1; cases h; omega))
      have hg12 := grownBy_trans HG.out hg2 (.inl rfl)
      have hrd := rd_new (k := .i64) (w := w2) [v - (1 + m)] 3 (0, 0) 1 rfl (by simp [maxLen]) (by intro z hz; simp only [List.mem_singleton] at hz; subst hz; exact WalkArith.wf_i64 (by constructor <;> omega))
      have hga : Gr w2 (w2.alloc (.cells ([v - (1 + m)].map (Value.int .i64)).toArray 3)) := Gr.alloc _ _
      obtain ⟨a9, c9, w9, hrun9, ho9, hg9, _⟩ := app_i64 w.heap.size (w2.alloc (.cells ([v - (1 + m)].map (Value.int .i64)).toArray 3)) ak k ck _ (ho2.stay hga) (some ⟨w2.heap.size, 0, none⟩) 1 1 _ hrd (by omega) (Nat.le_trans hg12.size (by simp))
      have hd9 := (hd2.kept hga (by simp)).kept hg9 (by
        intro g h
        have := (ho2.below g h).1
        omega)
      have hgw9 := grownBy_trans (grownBy_trans hg12 hga (.inr (.inl rfl))) hg9 (by
        cases hv : (Value.slice ak k ck).ownBlock with
        | none => exact .inr (.inl rfl)
        | some b => exact .inr (.inr ⟨b, rfl, (ho2.below b hv).1⟩))
      simp only [List.map_cons, List.map_nil] at hrun9
      have HR9 := Lib.hid hrun9
      have HO9 := Lib.hid ho9
      have HD9 := Lib.hid hd9
      have HG9 := Lib.hid hgw9
      have HZ9 := Lib.hid (show ∀ z ∈ zs ++ [v - (1 + m)], -1000 ≤ z ∧ z ≤ 1000 from fun z hz => by
        rcases List.mem_append.1 hz with h | h
        · exact HZ.out z h
        · simp only [List.mem_singleton] at h; omega)
      clear hd2 hg2 ho2 hg12 hrd hga hrun9 ho9 hg9 hd9 hgw9 HO HD HG HZ
      go_wp2_with (at_builtin; refine wpList_app rfl _ _ _ rfl rfl rfl HR9.out ?_)
      go_roundw
      case rel => exact ⟨a9, c9, k + 1, _, by omega, rfl, by go_num, HO9.out, HZ9.out, HD9.out, HG9.out⟩
      case measure => (simp [intOf] <;> omega)
    · obtain rfl : k = len := by omega
      have hrb : Rd .i64 wr a k bs := rd_keptBut HR.out HG.out (fun b off h0 he h3 => HNE.out b off h0 he (by injection h3))
      have HRB := Lib.hid hrb
      clear hrb
      go_wp2_with fail
      refine (rof_any a k cap bs 20 ak k ck zs wr HRB.out HBB.out (by omega) HO.out.rd HZ.out (by omega) (by omega)).mono ?_
      rintro e w5 ⟨a5, c5, rfl, ho5, hg5⟩
      have HO5 := Lib.hid (ho5.weak29 (B' := w.heap.size) HG.out.size)
      have HD5 := Lib.hid (HD.out.kept hg5 (by simp))
      have HG5 := Lib.hid (grownBy_trans HG.out hg5 (.inr (.inl rfl)))
      have HLL := Lib.hid (show (ofL bs zs 20).length = k by rw [ofL_len, HR.out.1])
      clear ho5 hg5
      go_wp2_with fail
      go_ret
      exact ⟨a5, c5, _, rfl, HLL.out, ofL_ok _ _ _, HO5.out, HD5.out, HG5.out⟩
end Go.Proofs.YtcleegibdcphiaaDoor

/- Layer 29 (harq): what a round of HarqRuns keeps. -/
namespace Go.Proofs.YtcleegibdcphiaaDoor
open Go.ChangeShapes Go.WideShapes Go.ChangeAt Go.RowKit
open Cod
/-- Bytes do not lie in a collector's block. -/
theorem rd_not_c {g : Nat} {q : Cl} {w : World} {a : Option Addr} {n : Nat} {xs : List Int} (h : Rd .u8 w a n xs) (hq : CBlk g q w) : ∀ b off, 0 < n → a = some ⟨b, off, none⟩ → b ≠ g := by
  rintro b off h0 rfl rfl
  obtain ⟨b', off', e, _, hc⟩ := h.some h0
  injection e with e
  injection e with e1 e2
  subst e1 e2
  have h1 := hc 0 h0
  rw [cell_of_block hq] at h1
  have hl : off + 0 < 5 := by
    rcases Nat.lt_or_ge (off + 0) 5 with h2 | h2
    · exact h2
    · rw [Array.getElem?_eq_none (by simpa [CCells] using h2)] at h1; cases h1
  have h3 : off + 0 = 0 ∨ off + 0 = 1 ∨ off + 0 = 2 ∨ off + 0 = 3 ∨ off + 0 = 4 := by omega
  rcases h3 with h3 | h3 | h3 | h3 | h3 <;> rw [h3] at h1 <;> simp [CCells] at h1
/-- Bytes do not lie in a block of dice. -/
theorem rd_not_d {g : Nat} {w : World} {a : Option Addr} {n : Nat} {xs : List Int} (h : Rd .u8 w a n xs) (hq : Die w g) : ∀ b off, 0 < n → a = some ⟨b, off, none⟩ → b ≠ g := by
  obtain ⟨xa, xl, xc, ts, k, hb, _, _, _⟩ := hq
  rintro b off h0 rfl rfl
  obtain ⟨b', off', e, _, hc⟩ := h.some h0
  injection e with e
  injection e with e1 e2
  subst e1 e2
  have h1 := hc 0 h0
  rw [cell_of_block hb] at h1
  have hl : off + 0 < 2 := by
    rcases Nat.lt_or_ge (off + 0) 2 with h2 | h2
    · exact h2
    · rw [Array.getElem?_eq_none (by simpa using h2)] at h1; cases h1
  have h3 : off + 0 = 0 ∨ off + 0 = 1 := by omega
  rcases h3 with h3 | h3 <;> rw [h3] at h1 <;> simp at h1
structure RunSt (g5 g6 g7 : Nat) (w : World) (p : Pc) (pb : List Int) (c : Cl) (ss : List Int) (u : World) : Prop where
  p6 : PBlk g6 p u
  c7 : CBlk g7 c u
  d5 : Die u g5
  rp : Rd .u8 u p.a p.len pb
  rc : Rd .i64 u c.a c.len ss
  lp : p.len ≤ 300
  lc : c.len ≤ 5000
  far : ∀ b off, 0 < c.len → c.a = some ⟨b, off, none⟩ → b ≠ g5 ∧ b ≠ g6 ∧ b ≠ g7
  gr : Gr w u
  ord : w.heap.size ≤ g5 ∧ g5 < g6 ∧ g6 < g7
theorem RunSt.kept {g5 g6 g7 : Nat} {w u u' : World} {p : Pc} {pb : List Int} {c : Cl} {ss : List Int} (h : RunSt g5 g6 g7 w p pb c ss u) (hg : Gr u u') : RunSt g5 g6 g7 w p pb c ss u' :=
  ⟨h.p6.kept hg, h.c7.kept hg, h.d5.kept hg (by simp), rd_gr h.rp hg, rd_gr h.rc hg, h.lp, h.lc, h.far, h.gr.trans hg, h.ord⟩
theorem RunSt.dice {g5 g6 g7 : Nat} {w u u' : World} {p : Pc} {pb : List Int} {c : Cl} {ss : List Int} (h : RunSt g5 g6 g7 w p pb c ss u) (hg : u.grownBy u' (some g5)) (hd : Die u' g5) : RunSt g5 g6 g7 w p pb c ss u' := by
  have ho := h.ord
  refine ⟨h.p6.but hg (by omega), h.c7.keptBut hg (by omega), hd, rd_keptBut h.rp hg (fun b off h0 he h3 => rd_not_d h.rp h.d5 b off h0 he (by injection h3)), rd_keptBut h.rc hg (fun b off h0 he h3 => (h.far b off h0 he).1 (by injection h3)), h.lp, h.lc, h.far, ?_, ho⟩
  exact grownBy_trans h.gr hg (.inr (.inr ⟨g5, rfl, ho.1⟩))
theorem RunSt.putp {g5 g6 g7 : Nat} {w u : World} {p : Pc} {pb : List Int} {c : Cl} {ss : List Int} (h : RunSt g5 g6 g7 w p pb c ss u) {q : Pc} {qb : List Int} (hq : Rd .u8 u q.a q.len qb) (hl : q.len ≤ 300) : RunSt g5 g6 g7 w q qb c ss (u.setCells g6 0 (PList q)) := by
  have ho := h.ord
  have hg := grown_setCells g6 (PList q) 0 u
  refine ⟨pblk_put h.p6 q, cblk_other h.c7 _ (by omega), h.d5.kept hg (by intro g he; injection he with he; omega), rd_keptBut hq hg (fun b off h0 he h3 => rd_not_p hq h.p6 b off h0 he (by injection h3)), rd_keptBut h.rc hg (fun b off h0 he h3 => (h.far b off h0 he).2.1 (by injection h3)), hl, h.lc, h.far, ?_, ho⟩
  exact grownBy_trans h.gr hg (.inr (.inr ⟨g6, rfl, by omega⟩))
theorem RunSt.putc {g5 g6 g7 : Nat} {w u : World} {p : Pc} {pb : List Int} {c : Cl} {ss : List Int} (h : RunSt g5 g6 g7 w p pb c ss u) {q : Cl} {qs : List Int} (hq : Rd .i64 u q.a q.len qs) (hl : q.len ≤ 5000) (hf : ∀ b off, 0 < q.len → q.a = some ⟨b, off, none⟩ → b ≠ g5 ∧ b ≠ g6 ∧ b ≠ g7) : RunSt g5 g6 g7 w p pb q qs (u.setCells g7 0 (CList q)) := by
  have ho := h.ord
  have hg := grown_setCells g7 (CList q) 0 u
  refine ⟨h.p6.but hg (by omega), cblk_put h.c7 q, h.d5.kept hg (by intro g he; injection he with he; omega), rd_keptBut h.rp hg (fun b off h0 he h3 => rd_not_c h.rp h.c7 b off h0 he (by injection h3)), rd_keptBut hq hg (fun b off h0 he h3 => (hf b off h0 he).2.2 (by injection h3)), h.lp, hl, hf, ?_, ho⟩
  exact grownBy_trans h.gr hg (.inr (.inr ⟨g7, rfl, by omega⟩))
theorem RunSt.far' {g5 g6 g7 : Nat} {w u : World} {p : Pc} {pb : List Int} {c x : Cl} {ss : List Int} (h : RunSt g5 g6 g7 w p pb c ss u) (hf : ∀ b off, 0 < x.len → x.a = some ⟨b, off, none⟩ → u.heap.size ≤ b ∨ (x.a = c.a ∧ x.len = c.len)) : ∀ b off, 0 < x.len → x.a = some ⟨b, off, none⟩ → b ≠ g5 ∧ b ≠ g6 ∧ b ≠ g7 := by
  intro b off h0 he
  have h5 := h.d5.lt
  have h6 := heap_lt h.p6
  have h7 := heap_lt h.c7
  rcases hf b off h0 he with h1 | ⟨h1, h2⟩
  · omega
  · exact h.far b off (by omega) (by rw [← h1]; exact he)
theorem rec_len {c : Cl} {ss ls : List Int} {a : An} (h : c.len ≤ 5000) : (recF c ss a ls).c.len ≤ 5000 := by
  have hb : anB a = true → (baseC c a).len ≤ 5000 := by
    intro ha
    have h1 := anB_facts ha
    unfold baseC
    split
    · show totN a.size.toNat ≤ 5000
      unfold totN; omega
    · exact h
  unfold recF
  split
  · exact h
  · rename_i h1
    have ha : anB a = true := by
      cases hh : anB a
      · rw [hh] at h1; simp at h1
      · rfl
    split
    · exact h
    · split
      · exact h
      · split
        · exact hb ha
        · split
          · exact hb ha
          · exact hb ha
theorem sendS_bits (p : Pc) (blk : List Int) (n : Int) : isBits (sendS p blk n) := by
  unfold sendS
  split
  · exact sentL_bits _ _ _
  · intro x hx; cases hx
theorem sendS_len (p : Pc) (blk : List Int) (n : Int) : (sendS p blk n).length ≤ 1152 := by
  unfold sendS
  split
  · rename_i h
    rw [sentL_len]
    unfold sendE at h
    split at h
    · omega
    · rename_i h1
      split at h
      · omega
      · split at h
        · omega
        · split at h
          · omega
          · rename_i h2 h3 h4
            have := (send_facts h1 h2 h3 h4).2.2.2.2.2
            omega
  · simp
theorem startQ_len {p : Pc} {len : Nat} {n : Int} (hp : p.len ≤ 300) (hl : len ≤ 300) : (startQ p len n).len ≤ 300 := by
  unfold startQ
  split
  · exact hl
  · exact hp
theorem ans_len {p : Pc} (b : Bool) (hp : p.len ≤ 300) : (if b then p else newP p).len ≤ 300 := by
  cases b
  · show 0 ≤ 300; omega
  · exact hp
end Go.Proofs.YtcleegibdcphiaaDoor

namespace Go.Proofs.YtcleegibdcphiaaDoor
open Go.ChangeShapes Go.WideShapes Go.ChangeAt Go.RowKit
open Cod
def RunRel (g5 g6 g7 m : Nat) (w : World) (t : Value) (wr : World) : Prop := ∃ (i : Nat) (p : Pc) (pb : List Int) (c : Cl) (ss : List Int), i ≤ m ∧ t = .int .i64 i ∧ RunSt g5 g6 g7 w p pb c ss wr
def PutRel (g5 g6 g7 : Nat) (w : World) (c : Cl) (ss : List Int) (wc : World) : Prop := ∃ (p : Pc) (pb : List Int), RunSt g5 g6 g7 w p pb c ss wc
set_option maxRecDepth 20000 in
set_option maxHeartbeats 1000000 in
theorem runs_walk (a : Option Addr) (len cap : Nat) (ts : List Int) (N : Int) (w : World) (hl : LaidIn w) (hr : Rd .i64 w a len ts) (h1 : len ≤ 300) (hN : 0 ≤ N ∧ N ≤ 255) :
    Calls Tryd.prog 4 #[.slice a len cap, .int .u8 N] w fun e w' => e = .returned (.bool true) ∧ Gr w w' := by
  have HL := Lib.hid hl
  have HR := Lib.hid hr
  clear hl hr
  have hlt : decide (len ≤ 300) = true := decide_eq_true h1
  go_enter Tryd.func4, Tryd.ntmps4
  go_wp2_with fail
  refine (rlight_any a len cap w (by omega)).mono ?_
  rw [hlt]
  rintro e w' ⟨rfl, rfl⟩
  clear hlt
  go_wp2_with fail
  refine (roll_any a len cap ts w HR.out (by omega)).mono ?_
  rintro e w1 ⟨g5, rfl, h5, hd5, hg1⟩
  have HD1 := Lib.hid hd5
  have HG1 := Lib.hid hg1
  clear hd5 hg1
  obtain ⟨u1, hu1⟩ : ∃ y, y = w1.alloc (.cells #[.bool false, .slice none 0 0, .int .i64 0, .int .i64 0, .int .i64 0, .int .i64 0] 24) := ⟨_, rfl⟩
  obtain ⟨u2, hu2⟩ : ∃ y, y = u1.alloc (.cells #[.int .i64 0, .int .i64 0, .slice none 0 0, .bool false, .bool false] 27) := ⟨_, rfl⟩
  obtain ⟨u3, hu3⟩ : ∃ y, y = u2.setCells w1.heap.size 0 (PList zeroP) := ⟨_, rfl⟩
  obtain ⟨u4, hu4⟩ : ∃ y, y = u3.setCells (w1.heap.size + 1) 0 (CList zeroC) := ⟨_, rfl⟩
  have hs1 : u1.heap.size = w1.heap.size + 1 := by rw [hu1]; simp
  have k1 : Gr w1 u1 := by rw [hu1]; exact Gr.alloc _ _
  have k2 : Gr u1 u2 := by rw [hu2]; exact Gr.alloc _ _
  have q1 : PBlk w1.heap.size zeroP u1 := by rw [hu1]; exact heap_alloc_new _ _
  have q2 : CBlk (w1.heap.size + 1) zeroC u2 := by rw [hu2, ← hs1]; exact heap_alloc_new _ _
  have q3 := q1.kept k2
  have t1 := pblk_there q3
  have q4 : PBlk w1.heap.size zeroP u3 := by rw [hu3]; exact pblk_put q3 zeroP
  have q5 : CBlk (w1.heap.size + 1) zeroC u3 := by rw [hu3]; exact cblk_other q2 _ (by omega)
  have t2 := cblk_there q5
  have q6 : PBlk w1.heap.size zeroP u4 := by rw [hu4]; exact pblk_other q4 _ (by omega)
  have q7 : CBlk (w1.heap.size + 1) zeroC u4 := by rw [hu4]; exact cblk_put q5 zeroC
  have k4 : Gr w1 u4 := by rw [hu4, hu3]; exact grown_setCells_new (grown_setCells_new (k1.trans k2) (Nat.le_refl _) _ _) (by omega) _ _
  have hw1s := HG1.out.size
  have hdl := HD1.out.lt
  have HST := Lib.hid (show RunSt g5 w1.heap.size (w1.heap.size + 1) w zeroP [] zeroC [] u4 from
    ⟨q6, q7, HD1.out.kept k4 (by simp), ⟨rfl, by simp, by simp [zeroP], .inl rfl⟩, ⟨rfl, by simp, by simp [zeroC], .inl rfl⟩, by decide, by decide, (fun b off h0 => by cases h0), HG1.out.trans k4, h5, hdl, by omega⟩)
  have HU1 := Lib.hid hu1
  have HU2 := Lib.hid hu2
  have HU3 := Lib.hid hu3
  have HU4 := Lib.hid hu4
  have HT1 := Lib.hid t1
  have HT2 := Lib.hid t2
  clear hu1 hu2 hu3 hu4 hs1 k1 k2 k4 q1 q2 q3 q4 q5 q6 q7 t1 t2 hw1s hdl HD1 HG1
  go_upto_region 5 with (first | (rw [← HU1.out, ← HU2.out]; refine wpList_store_mid rfl 24 _ _ rfl w1.heap.size 0 (PList zeroP).toArray rfl rfl HT1.out (by kernel_rfl) (plist_one _) ?_; rw [← HU3.out]) | (refine wpList_store_mid rfl 27 _ _ rfl (w1.heap.size + 1) 0 (CList zeroC).toArray rfl rfl HT2.out (by kernel_rfl) (clist_one _) ?_; rw [← HU4.out]))
  obtain ⟨g6, hg6⟩ : ∃ y, w1.heap.size = y := ⟨_, rfl⟩
  obtain ⟨g7, hg7⟩ : ∃ y, g6 + 1 = y := ⟨_, rfl⟩
  have hst := HST.out
  rw [hg6, hg7] at hst
  rw [hg6, hg7]
  have HS := Lib.hid hst
  clear HU1 HU2 HU3 HU4 HT1 HT2 HST hst hg6 hg7
  obtain ⟨m, hm⟩ : ∃ m : Nat, N % 12 = m := ⟨(N % 12).toNat, by omega⟩
  have hm2 : m ≤ 11 := by omega
  go_wp2_with fail
  go_loopw [8] (fun t wr => RunRel g5 g6 g7 m w t wr) (fun t _ => m - (intOf t).toNat)
  case atStart => exact ⟨0, zeroP, [], zeroC, [], by omega, rfl, HS.out⟩
  case round =>
    clear HS
    obtain ⟨i, p, pb, c, ss, hi, rfl, hs⟩ := hrel
    have HS := Lib.hid hs
    clear hs
    by_cases hlt : i < m
    · have hact : ∃ B, p.act = B := ⟨_, rfl⟩
      obtain ⟨B, hB⟩ := hact
      have c0 := pblk_at HS.out.p6 0 (v := .bool B) (by rw [← hB]; rfl)
      have HB := Lib.hid hB
      clear hB
      go_upto_if 47 with (fail)
      go_cut [9, 10, 11, 12, 13, 14] from 38 to 166 (fun _ _ _ _ _ _ wc => PutRel g5 g6 g7 w c ss wc)
      case first =>
        cases B
        · go_wp2_with fail
          refine (dnext_any g5 6 wr HS.out.d5 (by omega) (by omega)).mono ?_
          rintro e w2 ⟨v, rfl, v1, v2, hd2, hg2⟩
          have HS2 := Lib.hid (HS.out.dice hg2 hd2)
          clear hd2 hg2 HS c0
          obtain ⟨n1, hn1⟩ : ∃ n1 : Nat, 1 + v = n1 := ⟨(1 + v).toNat, by omega⟩
          have hn2 : n1 ≤ 6 := by omega
          go_wp2_with fail
          refine (dbytes_any g5 n1 w2 HS2.out.d5 (by omega)).mono ?_
          rintro e w3 ⟨ab, cb, ys, rfl, ho3, hd3, hg3⟩
          have HS3 := Lib.hid (HS2.out.dice hg3 hd3)
          have HO3 := Lib.hid ho3
          have H52 := Lib.hid (show g5 < w2.heap.size from HS2.out.d5.lt)
          clear ho3 hd3 hg3 HS2
          go_wp2_with fail
          refine (dnext_any g5 200 w3 HS3.out.d5 (by omega) (by omega)).mono ?_
          rintro e w4 ⟨x, rfl, x1, x2, hd4, hg4⟩
          have HS4 := Lib.hid (HS3.out.dice hg4 hd4)
          have HO4 := Lib.hid (HO3.out.kept hg4 (by
            cases hv : (Value.slice ab n1 cb).ownBlock with
            | none => exact .inl rfl
            | some b => exact .inr (by intro h3; have := (HO3.out.below b hv).1; have := H52.out; cases h3; omega)))
          clear hd4 hg4 HS3 HO3 H52
          have HP6 := Lib.hid HS4.out.p6
          have hb' := (HP6).out
          unfold PBlk PCells at hb'
          have HPU := Lib.hid hb'
          clear hb'
          go_upto_region 10 with (fail)
          obtain ⟨k, hk⟩ : ∃ k, 10 + x = k := ⟨_, rfl⟩
          rw [hk]
          obtain ⟨SE, hse⟩ : ∃ SE, startE p n1 k = SE := ⟨_, rfl⟩
          obtain ⟨SQ, hsq⟩ : ∃ SQ, startQ p n1 k = SQ := ⟨_, rfl⟩
          obtain ⟨SL, hsl⟩ : ∃ SL, startL p pb ys n1 k = SL := ⟨_, rfl⟩
          have HSE := Lib.hid hse
          have HSQ := Lib.hid hsq
          have HSL := Lib.hid hsl
          clear hse hsq hsl hk x1 x2
          go_wp2_with (refine wpList_load_w rfl 24 _ rfl g6 rfl 24 _ _ _ HPU.out Tryd.underlying24 rfl (by kernel_rfl) ?_)
          refine (start_like p pb ab n1 cb ys k w4 HS4.out.rp (by have := HS4.out.lp; omega) HO4.out.rd (by omega)).mono ?_
          rw [HSE.out, HSQ.out, HSL.out]
          rintro e w5 ⟨x, hx, rfl, hrx, hg5⟩
          have HX := Lib.hid hx
          have HRX := Lib.hid hrx
          have HS5 := Lib.hid (HS4.out.kept hg5)
          have HO5 := Lib.hid (HO4.out.stay hg5)
          clear hx hrx hg5 HS4 HO4 HPU HP6
          obtain ⟨v1, hv⟩ : ∃ y, y = (w5).alloc (.cells #[.bool false, .slice none 0 0, .int .i64 0, .int .i64 0, .int .i64 0, .int .i64 0] 24) := ⟨_, rfl⟩
          obtain ⟨w6, hw⟩ : ∃ y, y = v1.setCells (w5).heap.size 0 (PList x) := ⟨_, rfl⟩
          obtain ⟨hf1, hf2, hf3⟩ := pnew_facts hv hw
          have HV1 := Lib.hid hv
          have HW1 := Lib.hid hw
          have HTH1 := Lib.hid hf1
          have HPB1 := Lib.hid hf2
          have HGR1 := Lib.hid hf3
          clear hv hw hf1 hf2 hf3
          go_upto_region 11 with (rw [← HV1.out]; refine wpList_store_mid rfl 24 _ _ rfl w5.heap.size 0 (PList x).toArray rfl rfl HTH1.out (by kernel_rfl) (plist_one _) ?_; rw [← HW1.out])
          have HS6 := Lib.hid (HS5.out.kept HGR1.out)
          have HO6 := Lib.hid (HO5.out.stay HGR1.out)
          have HRX6 := Lib.hid (rd_gr HRX.out HGR1.out)
          clear HV1 HW1 HTH1 HS5 HO5 HRX HGR1
          have HP6 := Lib.hid HS6.out.p6
          have hb' := (HP6).out
          unfold PBlk PCells at hb'
          have HPU := Lib.hid hb'
          clear hb'
          go_wp2_with (refine wpList_load_w rfl 24 _ rfl g6 rfl 24 _ _ _ HPU.out Tryd.underlying24 rfl (by kernel_rfl) ?_)
          refine (rstart_like p pb ab n1 cb ys k w6 HS6.out.rp HO6.out.rd (by omega)).mono ?_
          rw [HSE.out, HSQ.out, HSL.out]
          rintro e w7 ⟨yv, hy, rfl, hry, hg7⟩
          have HY := Lib.hid hy
          have HRY := Lib.hid hry
          have HS7 := Lib.hid (HS6.out.kept hg7)
          have HRX7 := Lib.hid (rd_gr HRX6.out hg7)
          have HPX7 := Lib.hid (HPB1.out.kept hg7)
          clear hy hry hg7 HS6 HO6 HRX6 HPU HPB1 HP6
          obtain ⟨v2, hv⟩ : ∃ y, y = (w7).alloc (.cells #[.bool false, .slice none 0 0, .int .i64 0, .int .i64 0, .int .i64 0, .int .i64 0] 24) := ⟨_, rfl⟩
          obtain ⟨w8, hw⟩ : ∃ y, y = v2.setCells (w7).heap.size 0 (PList yv) := ⟨_, rfl⟩
          obtain ⟨hf1, hf2, hf3⟩ := pnew_facts hv hw
          have HV2 := Lib.hid hv
          have HW2 := Lib.hid hw
          have HTH2 := Lib.hid hf1
          have HPB2 := Lib.hid hf2
          have HGR2 := Lib.hid hf3
          clear hv hw hf1 hf2 hf3
          go_upto_region 12 with (rw [← HV2.out]; refine wpList_store_mid rfl 24 _ _ rfl w7.heap.size 0 (PList yv).toArray rfl rfl HTH2.out (by kernel_rfl) (plist_one _) ?_; rw [← HW2.out])
          have HS8 := Lib.hid (HS7.out.kept HGR2.out)
          have HRX8 := Lib.hid (rd_gr HRX7.out HGR2.out)
          have HRY8 := Lib.hid (rd_gr HRY.out HGR2.out)
          have HPX8 := Lib.hid (HPX7.out.kept HGR2.out)
          clear HV2 HW2 HTH2 HS7 HRX7 HRY HPX7 HGR2
          have hb' := (HPX8).out
          unfold PBlk PCells at hb'
          have HXU := Lib.hid hb'
          clear hb'
          have hb' := (HPB2).out
          unfold PBlk PCells at hb'
          have HYU := Lib.hid hb'
          clear hb'
          go_wp2_with (first | (refine wpList_load_w rfl 24 _ rfl w5.heap.size rfl 24 _ _ _ HXU.out Tryd.underlying24 rfl (by kernel_rfl) ?_) | (refine wpList_load_w rfl 24 _ rfl w7.heap.size rfl 24 _ _ _ HYU.out Tryd.underlying24 rfl (by kernel_rfl) ?_))
          refine (same_like HX.out HY.out w8 HRX8.out HRY8.out).mono ?_
          rintro e w9 ⟨rfl, hg9⟩
          have HS9 := Lib.hid (HS8.out.kept hg9)
          have HPY9 := Lib.hid (HPB2.out.kept hg9)
          have HRY9 := Lib.hid (rd_gr HRY8.out hg9)
          clear hg9 HXU HYU HS8 HPX8 HPB2 HRX8 HX
          have hb' := (HPY9).out
          unfold PBlk PCells at hb'
          have HYU := Lib.hid hb'
          clear hb'
          obtain ⟨w10, hw10⟩ : ∃ y, y = w9.setCells g6 0 (PList yv) := ⟨_, rfl⟩
          have hql : yv.len ≤ 300 := by
            rw [HY.out.len, ← HSQ.out]
            exact startQ_len HS9.out.lp (by omega)
          have hs10 := HS9.out.putp HRY9.out hql
          rw [← hw10] at hs10
          have HS10 := Lib.hid hs10
          have HT6 := Lib.hid (pblk_there HS9.out.p6)
          have HW10 := Lib.hid hw10
          clear hs10 hw10 hql HS9 HRY9 HPY9
          go_wp2_with (first | (refine wpList_load_w rfl 24 _ rfl w7.heap.size rfl 24 _ _ _ HYU.out Tryd.underlying24 rfl (by kernel_rfl) ?_) | (refine wpList_store_mid rfl 24 _ _ rfl g6 0 (PList yv).toArray rfl rfl HT6.out (by kernel_rfl) (plist_one _) ?_; rw [← HW10.out]))
          dsimp only [Act.put]
          go_meet
          exact ⟨yv, SL, HS10.out⟩
        · go_wp2_with fail
          go_meet
          exact ⟨p, pb, HS.out⟩
      case rest =>
        obtain ⟨p2, pb2, hs⟩ := hcut
        have HS2 := Lib.hid hs
        clear hs HS c0 HB
        have HP2 := Lib.hid HS2.out.p6
        have hb' := (HP2).out
        unfold PBlk PCells at hb'
        have HPU := Lib.hid hb'
        clear hb'
        obtain ⟨TE, hte⟩ : ∃ TE, sendE p2 1 = TE := ⟨_, rfl⟩
        have HTE := Lib.hid hte
        obtain ⟨TP, htp⟩ : ∃ TP, sendP p2 1 = TP := ⟨_, rfl⟩
        have HTP := Lib.hid htp
        obtain ⟨TA, hta⟩ : ∃ TA, sendA p2 1 = TA := ⟨_, rfl⟩
        have HTA := Lib.hid hta
        obtain ⟨TS, hts⟩ : ∃ TS, sendS p2 pb2 1 = TS := ⟨_, rfl⟩
        have HTSB := Lib.hid (show isBits TS by rw [← hts]; exact sendS_bits _ _ _)
        have HTSL := Lib.hid (show TS.length ≤ 1152 by rw [← hts]; exact sendS_len _ _ _)
        have HTS := Lib.hid hts
        clear hte htp hta hts
        go_wp2_with (refine wpList_load_w rfl 24 _ rfl g6 rfl 24 _ _ _ HPU.out Tryd.underlying24 rfl (by kernel_rfl) ?_)
        refine (send_like p2 pb2 1 wc (HL.out.kept HS2.out.gr) HS2.out.rp (by have := HS2.out.lp; omega)).mono ?_
        unfold LikeS
        rw [HTE.out, HTP.out, HTA.out, HTS.out]
        rintro e w9 ⟨x2, A1, l1, n1, c1, hx2, hA1, rfl, hrx2, hol1, hg9⟩
        subst A1
        have HX2 := Lib.hid hx2
        have HRX2 := Lib.hid hrx2
        have HOL1 := Lib.hid hol1
        have HS9 := Lib.hid (HS2.out.kept hg9)
        clear hx2 hrx2 hol1 hg9 HS2 HPU HP2
        obtain ⟨va3, hva⟩ : ∃ y, y = (w9).alloc (.cells #[.bool false, .slice none 0 0, .int .i64 0, .int .i64 0, .int .i64 0, .int .i64 0] 24) := ⟨_, rfl⟩
        obtain ⟨v3, hv⟩ : ∃ y, y = va3.alloc (.cells #[.int .i64 0, .int .i64 0, .int .i64 0, .int .i64 0, .int .i64 0] 29) := ⟨_, rfl⟩
        obtain ⟨wa3, hwa⟩ : ∃ y, y = v3.setCells (w9).heap.size 0 (PList x2) := ⟨_, rfl⟩
        obtain ⟨w10, hw⟩ : ∃ y, y = wa3.setCells ((w9).heap.size + 1) 0 (AList TA) := ⟨_, rfl⟩
        obtain ⟨hf1, hf2, hf3, hf4, hf5⟩ := snew_facts hva hv hwa hw
        have HVA3 := Lib.hid hva
        have HV3 := Lib.hid hv
        have HWA3 := Lib.hid hwa
        have HW3 := Lib.hid hw
        have HTH3 := Lib.hid hf1
        have HTA3 := Lib.hid hf2
        have HPB3 := Lib.hid hf3
        have HAB3 := Lib.hid hf4
        have HGR3 := Lib.hid hf5
        clear hva hv hwa hw hf1 hf2 hf3 hf4 hf5
        go_upto_region 16 with (first | (rw [← HVA3.out, ← HV3.out]; refine wpList_store_mid rfl 24 _ _ rfl w9.heap.size 0 (PList x2).toArray rfl rfl HTH3.out (by kernel_rfl) (plist_one _) ?_; rw [← HWA3.out]) | (refine wpList_store_mid rfl 29 _ _ rfl (w9.heap.size + 1) 0 (AList TA).toArray rfl rfl HTA3.out (by kernel_rfl) (alist_one _) ?_; rw [← HW3.out]))
        have HS10 := Lib.hid (HS9.out.kept HGR3.out)
        have HRX10 := Lib.hid (rd_gr HRX2.out HGR3.out)
        have HOL10 := Lib.hid (HOL1.out.stay HGR3.out)
        clear HVA3 HV3 HWA3 HW3 HTH3 HTA3 HS9 HRX2 HOL1 HGR3
        have HP10 := Lib.hid HS10.out.p6
        have hb' := (HP10).out
        unfold PBlk PCells at hb'
        have HPU := Lib.hid hb'
        clear hb'
        go_wp2_with (refine wpList_load_w rfl 24 _ rfl g6 rfl 24 _ _ _ HPU.out Tryd.underlying24 rfl (by kernel_rfl) ?_)
        refine (rsend_like p2 pb2 1 w10 HS10.out.rp).mono ?_
        unfold LikeS
        rw [HTE.out, HTP.out, HTA.out, HTS.out]
        rintro e w11 ⟨y2, A2, l2, n2, c2, hy2, hA2, rfl, hry2, hol2, hg11⟩
        subst A2
        have HY2 := Lib.hid hy2
        have HRY2 := Lib.hid hry2
        have HOL2 := Lib.hid hol2
        have HS11 := Lib.hid (HS10.out.kept hg11)
        have HRX11 := Lib.hid (rd_gr HRX10.out hg11)
        have HOL11 := Lib.hid (HOL10.out.stay hg11)
        have HPX11 := Lib.hid (HPB3.out.kept hg11)
        have HAX11 := Lib.hid (HAB3.out.kept hg11)
        have H510 := Lib.hid (show g5 < w10.heap.size from HS10.out.d5.lt)
        have H511 := Lib.hid (show g5 < w11.heap.size from HS11.out.d5.lt)
        clear hy2 hry2 hol2 hg11 HS10 HPU HP10 HRX10 HOL10 HPB3 HAB3
        obtain ⟨va4, hva⟩ : ∃ y, y = (w11).alloc (.cells #[.bool false, .slice none 0 0, .int .i64 0, .int .i64 0, .int .i64 0, .int .i64 0] 24) := ⟨_, rfl⟩
        obtain ⟨v4, hv⟩ : ∃ y, y = va4.alloc (.cells #[.int .i64 0, .int .i64 0, .int .i64 0, .int .i64 0, .int .i64 0] 29) := ⟨_, rfl⟩
        obtain ⟨wa4, hwa⟩ : ∃ y, y = v4.setCells (w11).heap.size 0 (PList y2) := ⟨_, rfl⟩
        obtain ⟨w12, hw⟩ : ∃ y, y = wa4.setCells ((w11).heap.size + 1) 0 (AList TA) := ⟨_, rfl⟩
        obtain ⟨hf1, hf2, hf3, hf4, hf5⟩ := snew_facts hva hv hwa hw
        have HVA4 := Lib.hid hva
        have HV4 := Lib.hid hv
        have HWA4 := Lib.hid hwa
        have HW4 := Lib.hid hw
        have HTH4 := Lib.hid hf1
        have HTA4 := Lib.hid hf2
        have HPB4 := Lib.hid hf3
        have HAB4 := Lib.hid hf4
        have HGR4 := Lib.hid hf5
        clear hva hv hwa hw hf1 hf2 hf3 hf4 hf5
        go_upto_region 17 with (first | (rw [← HVA4.out, ← HV4.out]; refine wpList_store_mid rfl 24 _ _ rfl w11.heap.size 0 (PList y2).toArray rfl rfl HTH4.out (by kernel_rfl) (plist_one _) ?_; rw [← HWA4.out]) | (refine wpList_store_mid rfl 29 _ _ rfl (w11.heap.size + 1) 0 (AList TA).toArray rfl rfl HTA4.out (by kernel_rfl) (alist_one _) ?_; rw [← HW4.out]))
        have HS12 := Lib.hid (HS11.out.kept HGR4.out)
        have HRX12 := Lib.hid (rd_gr HRX11.out HGR4.out)
        have HRY12 := Lib.hid (rd_gr HRY2.out HGR4.out)
        have HOL12 := Lib.hid (HOL11.out.stay HGR4.out)
        have HOM12 := Lib.hid (HOL2.out.stay HGR4.out)
        have HPX12 := Lib.hid (HPX11.out.kept HGR4.out)
        have HAX12 := Lib.hid (HAX11.out.kept HGR4.out)
        clear HVA4 HV4 HWA4 HW4 HTH4 HTA4 HS11 HRX11 HRY2 HOL11 HOL2 HPX11 HAX11 HGR4
        have hb' := (HPX12).out
        unfold PBlk PCells at hb'
        have HXU := Lib.hid hb'
        clear hb'
        have hb' := (HPB4).out
        unfold PBlk PCells at hb'
        have HYU := Lib.hid hb'
        clear hb'
        have hb' := (HAX12).out
        unfold ABlk ACells at hb'
        have HAU1 := Lib.hid hb'
        clear hb'
        have hb' := (HAB4).out
        unfold ABlk ACells at hb'
        have HAU2 := Lib.hid hb'
        clear hb'
        have hneq := run_neqA TA
        unfold AVal at hneq
        go_wp2_with (first | (refine wpList_load_w rfl 29 _ rfl (w9.heap.size + 1) rfl 29 _ _ _ HAU1.out Tryd.underlying29 rfl (by kernel_rfl) ?_) | (refine wpList_load_w rfl 29 _ rfl (w11.heap.size + 1) rfl 29 _ _ _ HAU2.out Tryd.underlying29 rfl (by kernel_rfl) ?_) | (refine wpList_load_w rfl 24 _ rfl w9.heap.size rfl 24 _ _ _ HXU.out Tryd.underlying24 rfl (by kernel_rfl) ?_) | (refine wpList_load_w rfl 24 _ rfl w11.heap.size rfl 24 _ _ _ HYU.out Tryd.underlying24 rfl (by kernel_rfl) ?_))
        refine (sameiR l1 l2 n1 c1 n2 c2 w12 HOL12.out.rd HOM12.out.rd).mono ?_
        rintro e w13 ⟨rfl, hg13⟩
        have HS13 := Lib.hid (HS12.out.kept hg13)
        have HRX13 := Lib.hid (rd_gr HRX12.out hg13)
        have HRY13 := Lib.hid (rd_gr HRY12.out hg13)
        have HOM13 := Lib.hid (HOM12.out.stay hg13)
        have HPX13 := Lib.hid (HPX12.out.kept hg13)
        have HPY13 := Lib.hid (HPB4.out.kept hg13)
        have HAY13 := Lib.hid (HAB4.out.kept hg13)
        clear hg13 hneq HXU HYU HAU1 HAU2 HS12 HRX12 HRY12 HOL12 HOM12 HPX12 HPB4 HAX12 HAB4
        have hb' := (HPX13).out
        unfold PBlk PCells at hb'
        have HXU := Lib.hid hb'
        clear hb'
        have hb' := (HPY13).out
        unfold PBlk PCells at hb'
        have HYU := Lib.hid hb'
        clear hb'
        go_wp2_with (first | (refine wpList_load_w rfl 24 _ rfl w9.heap.size rfl 24 _ _ _ HXU.out Tryd.underlying24 rfl (by kernel_rfl) ?_) | (refine wpList_load_w rfl 24 _ rfl w11.heap.size rfl 24 _ _ _ HYU.out Tryd.underlying24 rfl (by kernel_rfl) ?_))
        refine (same_like HX2.out HY2.out w13 HRX13.out HRY13.out).mono ?_
        rintro e w14 ⟨rfl, hg14⟩
        have HS14 := Lib.hid (HS13.out.kept hg14)
        have HRY14 := Lib.hid (rd_gr HRY13.out hg14)
        have HOM14 := Lib.hid (HOM13.out.stay hg14)
        have HPY14 := Lib.hid (HPY13.out.kept hg14)
        have HAY14 := Lib.hid (HAY13.out.kept hg14)
        clear hg14 HXU HYU HS13 HRX13 HRY13 HOM13 HPX13 HPY13 HAY13
        have HN2 := Lib.hid HOM14.out.rd.1
        go_wp2_with fail
        refine (noise_any g5 l2 n2 c2 TS w14 HS14.out.d5 HOM14.out.rd HTSB.out (by have := HTSL.out; have := HN2.out; omega) (fun b off h0 he => by
          have h3 := (HOM14.out.below b (by rw [he]; rfl)).1
          have h4 := H510.out
          omega)).mono ?_
        rintro e w15 ⟨a5, c5, L5, rfl, hl5, hs5, ho5, hd5, hg5⟩
        have HS15 := Lib.hid (HS14.out.dice hg5 hd5)
        have HRY15 := Lib.hid (rd_keptBut HRY14.out hg5 (fun b off h0 he h3 => rd_not_d HRY14.out HS14.out.d5 b off h0 he (by injection h3)))
        have h5x := HS14.out.d5.lt
        have h511 := H511.out
        have HPY15 := Lib.hid (HPY14.out.but hg5 (by omega))
        have HAY15 := Lib.hid (HAY14.out.keptBut hg5 (by omega))
        have HO15 := Lib.hid ho5.rd
        clear hl5 hs5 ho5 hd5 hg5 h5x h511 HS14 HRY14 HOM14 HPY14 HAY14
        obtain ⟨R, hRR⟩ : ∃ R, recF c ss TA L5 = R := ⟨_, rfl⟩
        have HRL := Lib.hid (show R.c.len ≤ 5000 by rw [← hRR]; exact rec_len HS15.out.lc)
        have HRR := Lib.hid hRR
        clear hRR
        have HC15 := Lib.hid HS15.out.c7
        have hb' := (HC15).out
        unfold CBlk CCells at hb'
        have HCU := Lib.hid hb'
        clear hb'
        have hb' := (HAY15).out
        unfold ABlk ACells at hb'
        have HAU := Lib.hid hb'
        clear hb'
        go_wp2_with (first | (refine wpList_load_w rfl 27 _ rfl g7 rfl 27 _ _ _ HCU.out Tryd.underlying27 rfl (by kernel_rfl) ?_) | (refine wpList_load_w rfl 29 _ rfl (w11.heap.size + 1) rfl 29 _ _ _ HAU.out Tryd.underlying29 rfl (by kernel_rfl) ?_))
        refine (receive_like c ss TA a5 n2 c5 L5 w15 (HL.out.kept HS15.out.gr) HS15.out.rc (by have := HS15.out.lc; omega) HO15.out).mono ?_
        rw [HRR.out]
        rintro e w20 ⟨cx, b5, nb5, cb5, hcx, rfl, hrcx, hrb5, hg20⟩
        have HCX := Lib.hid hcx
        have HRCX := Lib.hid hrcx
        have HRB5 := Lib.hid hrb5
        have HS20 := Lib.hid (HS15.out.kept hg20)
        have HRY20 := Lib.hid (rd_gr HRY15.out hg20)
        have HPY20 := Lib.hid (HPY15.out.kept hg20)
        have HAY20 := Lib.hid (HAY15.out.kept hg20)
        have HO20 := Lib.hid (rd_gr HO15.out hg20)
        clear hcx hrcx hrb5 hg20 HCU HAU HC15 HS15 HRY15 HPY15 HAY15 HO15
        obtain ⟨v6, hv⟩ : ∃ y, y = (w20).alloc (.cells #[.int .i64 0, .int .i64 0, .slice none 0 0, .bool false, .bool false] 27) := ⟨_, rfl⟩
        obtain ⟨w21, hw⟩ : ∃ y, y = v6.setCells (w20).heap.size 0 (CList cx) := ⟨_, rfl⟩
        obtain ⟨hf1, hf2, hf3⟩ := cnew_facts hv hw
        have HV6 := Lib.hid hv
        have HW6 := Lib.hid hw
        have HTH6 := Lib.hid hf1
        have HPB6 := Lib.hid hf2
        have HGR6 := Lib.hid hf3
        clear hv hw hf1 hf2 hf3
        go_upto_region 21 with (rw [← HV6.out]; refine wpList_store_mid rfl 27 _ _ rfl w20.heap.size 0 (CList cx).toArray rfl rfl HTH6.out (by kernel_rfl) (clist_one _) ?_; rw [← HW6.out])
        have HS21 := Lib.hid (HS20.out.kept HGR6.out)
        have HRY21 := Lib.hid (rd_gr HRY20.out HGR6.out)
        have HPY21 := Lib.hid (HPY20.out.kept HGR6.out)
        have HAY21 := Lib.hid (HAY20.out.kept HGR6.out)
        have HO21 := Lib.hid (rd_gr HO20.out HGR6.out)
        have HRC6 := Lib.hid (rd_gr HRCX.out HGR6.out)
        have HRB6 := Lib.hid (rd_gr HRB5.out HGR6.out)
        clear HV6 HW6 HTH6 HS20 HRY20 HPY20 HAY20 HO20 HRCX HRB5 HGR6
        have HC21 := Lib.hid HS21.out.c7
        have hb' := (HC21).out
        unfold CBlk CCells at hb'
        have HCU := Lib.hid hb'
        clear hb'
        have hb' := (HAY21).out
        unfold ABlk ACells at hb'
        have HAU := Lib.hid hb'
        clear hb'
        go_wp2_with (first | (refine wpList_load_w rfl 27 _ rfl g7 rfl 27 _ _ _ HCU.out Tryd.underlying27 rfl (by kernel_rfl) ?_) | (refine wpList_load_w rfl 29 _ rfl (w11.heap.size + 1) rfl 29 _ _ _ HAU.out Tryd.underlying29 rfl (by kernel_rfl) ?_))
        refine (rreceive_far c ss TA a5 n2 c5 L5 w21 HS21.out.rc (by have := HS21.out.lc; omega) HO21.out).mono ?_
        rw [HRR.out]
        rintro e w22 ⟨cy, b7, nb7, cb7, hcy, rfl, hrcy, hrb7, hg22, hfar⟩
        have HFAR := Lib.hid (HS21.out.far' hfar)
        have HCY := Lib.hid hcy
        have HRCY := Lib.hid hrcy
        have HRB7 := Lib.hid hrb7
        have HS22 := Lib.hid (HS21.out.kept hg22)
        have H622 := Lib.hid (show g6 < w22.heap.size from heap_lt HS22.out.p6)
        have HN7 := Lib.hid (show g7 < w22.heap.size from heap_lt HS22.out.c7)
        have HRY22 := Lib.hid (rd_gr HRY21.out hg22)
        have HPY22 := Lib.hid (HPY21.out.kept hg22)
        have HRC8 := Lib.hid (rd_gr HRC6.out hg22)
        have HRB8 := Lib.hid (rd_gr HRB6.out hg22)
        have HPB8 := Lib.hid (HPB6.out.kept hg22)
        clear hcy hrcy hrb7 hg22 hfar HCU HAU HC21 HS21 HRY21 HPY21 HAY21 HO21 HRC6 HRB6 HPB6
        obtain ⟨v7, hv⟩ : ∃ y, y = (w22).alloc (.cells #[.int .i64 0, .int .i64 0, .slice none 0 0, .bool false, .bool false] 27) := ⟨_, rfl⟩
        obtain ⟨w23, hw⟩ : ∃ y, y = v7.setCells (w22).heap.size 0 (CList cy) := ⟨_, rfl⟩
        obtain ⟨hf1, hf2, hf3⟩ := cnew_facts hv hw
        have HV7 := Lib.hid hv
        have HW7 := Lib.hid hw
        have HTH7 := Lib.hid hf1
        have HPB7 := Lib.hid hf2
        have HGR7 := Lib.hid hf3
        clear hv hw hf1 hf2 hf3
        have HS23 := Lib.hid (HS22.out.kept HGR7.out)
        have HRY23 := Lib.hid (rd_gr HRY22.out HGR7.out)
        have HPY23 := Lib.hid (HPY22.out.kept HGR7.out)
        have HRC9 := Lib.hid (rd_gr HRC8.out HGR7.out)
        have HRB9 := Lib.hid (rd_gr HRB8.out HGR7.out)
        have HRC10 := Lib.hid (rd_gr HRCY.out HGR7.out)
        have HRB10 := Lib.hid (rd_gr HRB7.out HGR7.out)
        have HPB9 := Lib.hid (HPB8.out.kept HGR7.out)
        go_upto_region 22 with (rw [← HV7.out]; refine wpList_store_mid rfl 27 _ _ rfl w22.heap.size 0 (CList cy).toArray rfl rfl HTH7.out (by kernel_rfl) (clist_one _) ?_; rw [← HW7.out])
        clear HV7 HW7 HTH7 HS22 HRY22 HPY22 HRC8 HRB8 HRCY HRB7 HPB8 HGR7
        have hok : (R.ok == R.ok) = true := by simp
        have hee : (R.E == R.E) = true := by simp
        go_wp2_with fail
        refine (samebR b5 b7 nb5 cb5 nb7 cb7 w23 HRB9.out HRB10.out).mono ?_
        rintro e w24 ⟨rfl, hg24⟩
        have HP24 := Lib.hid (HPB9.out.kept hg24)
        have HQ24 := Lib.hid (HPB7.out.kept hg24)
        have HS24 := Lib.hid (HS23.out.kept hg24)
        have HRY24 := Lib.hid (rd_gr HRY23.out hg24)
        have HPY24 := Lib.hid (HPY23.out.kept hg24)
        have HRC11 := Lib.hid (rd_gr HRC9.out hg24)
        have HRC12 := Lib.hid (rd_gr HRC10.out hg24)
        clear hg24 HPB9 HPB7 HS23 HRY23 HPY23 HRC9 HRC10 HRB9 HRB10
        have hb' := (HP24).out
        unfold CBlk CCells at hb'
        have HCU := Lib.hid hb'
        clear hb'
        have hb' := (HQ24).out
        unfold CBlk CCells at hb'
        have HCU2 := Lib.hid hb'
        clear hb'
        go_wp2_with (first | (refine wpList_load_w rfl 27 _ rfl w20.heap.size rfl 27 _ _ _ HCU.out Tryd.underlying27 rfl (by kernel_rfl) ?_) | (refine wpList_load_w rfl 27 _ rfl w22.heap.size rfl 27 _ _ _ HCU2.out Tryd.underlying27 rfl (by kernel_rfl) ?_))
        refine (samec_like HCX.out HCY.out w24 HRC11.out HRC12.out).mono ?_
        rintro e w25 ⟨rfl, hg25⟩
        have HQ25 := Lib.hid (HQ24.out.kept hg25)
        have HS25 := Lib.hid (HS24.out.kept hg25)
        have HRY25 := Lib.hid (rd_gr HRY24.out hg25)
        have HPY25 := Lib.hid (HPY24.out.kept hg25)
        have HRC25 := Lib.hid (rd_gr HRC12.out hg25)
        clear hg25 HCU HCU2 HP24 HQ24 HS24 HRY24 HPY24 HRC11 HRC12
        go_upto_region 24 with (fail)
        obtain ⟨g22, h22⟩ : ∃ y, w22.heap.size = y := ⟨_, rfl⟩
        obtain ⟨g11, h11⟩ : ∃ y, w11.heap.size = y := ⟨_, rfl⟩
        have hq25 := HQ25.out
        have hy25 := HPY25.out
        rw [h22] at hq25
        rw [h11] at hy25
        rw [h22, h11]
        have hn6 : g6 < g22 := by have := H622.out; omega
        have hn7g : g7 < g22 := by have := HN7.out; omega
        have HN7g := Lib.hid hn7g
        have HQQ := Lib.hid hq25
        have HYY := Lib.hid hy25
        have HN6 := Lib.hid hn6
        clear h22 h11 hq25 hy25 hn6 hn7g HQ25 HPY25
        have hI : ∀ u, Gr w25 u → CBlk g22 cy u := fun u hu => HQQ.out.kept hu
        refine Sched2.wp_region_sched (fun u => CBlk g22 cy u) [1] [] [2, 3] true hI (by kernel_rfl) (by kernel_rfl) ?_
        refine Sched2.walk1_gr rfl rfl rfl rfl (fun K hK => ?_)
        refine ⟨PVal y2, fun w1 hw1 => Sched2.pq_load_row 24 _ rfl g11 rfl _ _ _ _ (HYY.out.kept hw1) Tryd.underlying24 rfl (by kernel_rfl), ?_⟩
        simp only [Act.put, List.setIfInBounds_toArray, List.set_cons_zero, List.set_cons_succ]
        refine hK _ ?_
        clear hK K
        refine Sched2.walk1_late rfl rfl rfl rfl (fun K hK => ?_)
        refine ⟨CVal cy, fun w1 hw1 => Sched2.pq_load_row 27 _ rfl g22 rfl _ _ _ _ hw1 Tryd.underlying27 rfl (by kernel_rfl), ?_⟩
        simp only [Act.put, List.setIfInBounds_toArray, List.set_cons_zero, List.set_cons_succ]
        refine hK _ ?_
        clear hK K
        repeat (first | (refine Sched2.walk1_ord rfl ?_) | (refine Sched2.walk1_no rfl rfl rfl (fun K hK => ?_); simp only [Act.put, List.setIfInBounds_toArray, List.set_cons_zero, List.set_cons_succ]; refine hK _ ?_; clear hK K) | (refine Sched2.walk1_gr rfl rfl rfl rfl (fun K hK => ?_); apply Exists.intro; refine ⟨fun w1 hw1 => ?_, ?_⟩; (focus (go_simp; (try go_ints); (try (simp only [IntWalk.iteOmega]; go_simp)); first | done | fail | (with_reducible rfl) | (with_reducible exact ⟨rfl, rfl⟩))); simp only [Act.put, List.setIfInBounds_toArray, List.set_cons_zero, List.set_cons_succ]; refine hK _ ?_; clear hK K) | (refine Sched2.walk1_late rfl rfl rfl rfl (fun K hK => ?_); apply Exists.intro; refine ⟨fun w1 hw1 => ?_, ?_⟩; (focus (go_simp; (try go_ints); (try (simp only [IntWalk.iteOmega]; go_simp)); first | done | fail | (with_reducible rfl) | (with_reducible exact ⟨rfl, rfl⟩))); simp only [Act.put, List.setIfInBounds_toArray, List.set_cons_zero, List.set_cons_succ]; refine hK _ ?_; clear hK K) | (refine Sched2.walk1_box rfl rfl rfl ?_; apply Exists.intro; refine ⟨fun w1 hw1 => ?_, ?_⟩; (focus (go_simp; exact ⟨Gr.alloc _ _, rfl, by simp, heap_alloc_new _ _⟩))))
        refine Sched2.walk1_nil ?_
        intro wq hwq
        dsimp only [Sched.EndN, List.nil_append, List.cons_append, Act.put]
        (try simp only [List.setIfInBounds_toArray, List.set_cons_zero, List.set_cons_succ])
        simp only [Sched2.lasts, List.filterMap_cons, List.filterMap_nil, List.getElem?_toArray, List.getElem?_cons_succ, List.getElem?_cons_zero]
        obtain ⟨x1, hx1⟩ : ∃ y, y = wq.setCells g6 0 (PList y2) := ⟨_, rfl⟩
        obtain ⟨x2', hx2⟩ : ∃ y, y = x1.setCells g7 0 (CList cy) := ⟨_, rfl⟩
        have hyl : y2.len ≤ 300 := by
          rw [HY2.out.len, ← HTP.out, sendP_len]
          exact HS25.out.lp
        have hsq := HS25.out.kept hwq
        have hs1 := hsq.putp (rd_gr HRY25.out hwq) hyl
        rw [← hx1] at hs1
        have hrc1 := rd_keptBut (rd_gr HRC25.out hwq) (grown_setCells g6 (PList y2) 0 wq) (fun b off h0 he h3 => (HFAR.out b off h0 he).2.1 (by injection h3))
        rw [← hx1] at hrc1
        have hcl : cy.len ≤ 5000 := by rw [HCY.out.len]; exact HRL.out
        have hs2 := hs1.putc hrc1 hcl HFAR.out
        rw [← hx2] at hs2
        have hq1 := cblk_other (hI wq hwq) (k := g6) (PList y2) (by have := HN6.out; omega)
        rw [← hx1] at hq1
        have hn7 := HN7g.out
        have hq2 := cblk_other hq1 (k := g7) (CList cy) (by omega)
        rw [← hx2] at hq2
        have HT6 := Lib.hid (pblk_there hsq.p6)
        have HT7 := Lib.hid (cblk_there hs1.c7)
        have HX1 := Lib.hid hx1
        have HX2' := Lib.hid hx2
        have HSX := Lib.hid hs2
        have HQ1 := Lib.hid hq1
        have HQ2 := Lib.hid hq2
        clear hx1 hx2 hyl hsq hs1 hrc1 hcl hs2 hq1 hq2 hwq hI hn7 HS25 HRY25 HRC25 HQQ HYY
        refine Sched2.walk2_go rfl (fun K hK => ?_)
        refine tq_storeH 24 _ _ rfl g6 0 (PList y2).toArray rfl rfl HT6.out (by kernel_rfl) (plist_one _) ?_
        rw [← HX1.out]
        dsimp only [Act.put]
        try simp only [List.setIfInBounds_toArray, List.set_cons_zero, List.set_cons_succ]
        refine hK _ _ (.inr HQ1.out) ?_
        clear hK K
        refine Sched2.walk2_go rfl (fun K hK => ?_)
        refine tq_storeH 27 _ _ rfl g7 0 (CList cy).toArray rfl rfl HT7.out (by kernel_rfl) (clist_one _) ?_
        rw [← HX2'.out]
        dsimp only [Act.put]
        try simp only [List.setIfInBounds_toArray, List.set_cons_zero, List.set_cons_succ]
        refine hK _ _ (.inr HQ2.out) ?_
        clear hK K
        refine Sched2.walk2_nil ?_
        clear HT6 HT7 HX1 HX2' HQ1 HQ2
        go_wp2_with fail
        refine (dnext_any g5 9 x2' HSX.out.d5 (by omega) (by omega)).mono ?_
        rintro e w26 ⟨v9, rfl, z1, z2, hd26, hg26⟩
        have HS26 := Lib.hid (HSX.out.dice hg26 hd26)
        clear hd26 hg26 HSX
        by_cases h9 : v9 < 8
        · have HP26 := Lib.hid HS26.out.p6
          have hb' := (HP26).out
          unfold PBlk PCells at hb'
          have HPU := Lib.hid hb'
          clear hb'
          obtain ⟨F, hF⟩ : ∃ F, ansF y2 R.ok 4 = F := ⟨_, rfl⟩
          have HF := Lib.hid hF
          clear hF
          go_wp2_with (refine wpList_load_w rfl 24 _ rfl g6 rfl 24 _ _ _ HPU.out Tryd.underlying24 rfl (by kernel_rfl) ?_)
          refine (ranswer_like y2 pb2 R.ok 4 w26 HS26.out.rp).mono ?_
          rw [HF.out]
          unfold LikeA
          rintro e w27 ⟨x3, hx3, rfl, hrx3, hg27⟩
          obtain ⟨w28, hw28⟩ : ∃ y, y = w27.setCells g6 0 (PList x3) := ⟨_, rfl⟩
          have hs27 := HS26.out.kept hg27
          have hs28 := hs27.putp hrx3 (by rw [hx3.len]; exact ans_len _ HS26.out.lp)
          rw [← hw28] at hs28
          have HS28 := Lib.hid hs28
          have HT := Lib.hid (pblk_there hs27.p6)
          have HW28 := Lib.hid hw28
          clear hx3 hrx3 hg27 hs27 hs28 hw28 HS26 HPU HP26
          go_wp2_with (refine wpList_store_mid rfl 24 _ _ rfl g6 0 (PList x3).toArray rfl rfl HT.out (by kernel_rfl) (plist_one _) ?_; rw [← HW28.out])
          go_roundw
          case rel => exact ⟨i + 1, x3, _, cy, R.ss, by omega, by go_num, HS28.out⟩
          case measure => (simp [intOf] <;> omega)
        · go_wp2_with fail
          go_roundw
          case rel => exact ⟨i + 1, y2, pb2, cy, R.ss, by omega, by go_num, HS26.out⟩
          case measure => (simp [intOf] <;> omega)
    · obtain rfl : i = m := by omega
      go_wp2_with fail
      refine (awake29 wr (HL.out.kept HS.out.gr)).mono ?_
      rintro e w40 ⟨rfl, hg40⟩
      have HG40 := Lib.hid (HS.out.gr.trans hg40)
      clear hg40
      go_wp2_with fail
      go_ret
      exact ⟨rfl, HG40.out⟩
set_option maxRecDepth 20000 in
theorem runs_fit (a : Option Addr) (len cap : Nat) (ts : List Int) (N : Int) (w : World) (hl : LaidIn w) (hr : Rd .i64 w a len ts) (_h1 : len ≤ cap) (_h2 : len * 8 ≤ 140737488351232) (hN : 0 ≤ N ∧ N ≤ 255) :
    Calls Tryd.prog 4 #[.slice a len cap, .int .u8 N] w fun e w' => e = .returned (.bool true) ∧ Below w.heap.size w w' := by
  have key : Calls Tryd.prog 4 #[.slice a len cap, .int .u8 N] w fun e w' => e = .returned (.bool true) ∧ Gr w w' := by
    by_cases h : len ≤ 300
    · exact runs_walk a len cap ts N w hl hr h hN
    · have HL := Lib.hid hl
      have hm := hr.2.2.1
      simp only [maxLen] at hm
      have hlt : decide (len ≤ 300) = false := decide_eq_false h
      clear hl hr
      go_enter Tryd.func4, Tryd.ntmps4
      go_wp2_with fail
      refine (rlight_any a len cap w (by omega)).mono ?_
      rw [hlt]
      rintro e w' ⟨rfl, rfl⟩
      clear hlt
      go_wp2_with fail
      refine (awake29 w HL.out).mono ?_
      rintro e w5 ⟨rfl, hg5⟩
      have HG5 := Lib.hid hg5
      clear hg5
      go_wp2_with fail
      go_ret
      exact ⟨rfl, HG5.out⟩
  exact key.mono fun _ _ ⟨he, hg⟩ => ⟨he, Below.of_none hg⟩
end Go.Proofs.YtcleegibdcphiaaDoor
