/- Layer 28 (code): Decode of the program. -/
import Derived.Test.YtcleegibdcphiaaDoorCodeEnc
import Derived.Laws.MakeOwn
namespace Go.Proofs.YtcleegibdcphiaaDoor
open Go.ChangeShapes Go.WideShapes Go.ChangeAt Go.RowKit
open Cod

theorem info_four : (Tryd.prog.info? 86).map (fun i => (i.zero, i.size, i.bytes)) = some (some (.agg #[.int .i64 0, .int .i64 0, .int .i64 0, .int .i64 0]), 4, 32) := by kernel_rfl
/-- Block g is the table of the likenesses. -/
def Tab (g : Nat) (L : List Int) (w : World) : Prop := w.heap[g]? = some (.cells (L.map (Value.int .i64)).toArray 86 (0, 0))
theorem Tab.cell {g : Nat} {L : List Int} {w : World} (h : Tab g L w) {i : Nat} (hi : i < L.length) : w.cell? ⟨g, i, none⟩ = some (.int .i64 (L[i]?.getD 0)) := by
  rw [cell_of_block h]; simp [hi]
theorem Tab.frozen {g : Nat} {L : List Int} {w : World} (h : Tab g L w) (i : Nat) : w.frozen? ⟨g, i, none⟩ = false := frozen_of_block h i
theorem Tab.set {g : Nat} {L : List Int} {w : World} (h : Tab g L w) (i : Nat) (v : Int) : Tab g (L.set i v) (w.setCell ⟨g, i, none⟩ (.int .i64 v)) := by
  have := heap_setCell_eq h i (.int .i64 v)
  unfold Tab
  rw [this]
  simp [List.map_set]
theorem Tab.kept {g : Nat} {L : List Int} {w w' : World} (h : Tab g L w) (hg : Gr w w') : Tab g L w' := by
  unfold Tab; rw [hg.block _ (heap_lt h) (by simp)]; exact h
theorem made_tab (m : Nat) : madeCells #[.int .i64 0, .int .i64 0, .int .i64 0, .int .i64 0] m = ((List.replicate m (0 : Int)).map (Value.int .i64)).toArray := by
  apply Array.ext
  · simp [madeCells]
  · intro i h1 h2
    simp [madeCells]
    have : i % 4 = 0 ∨ i % 4 = 1 ∨ i % 4 = 2 ∨ i % 4 = 3 := by omega
    rcases this with h | h | h | h <;> simp [h]
theorem make_tab (m : Nat) (hm : m ≤ 100000) (w : World) : (Instr.makeSlice 85 (.int .i64 (m : Int)) (.int .i64 (m : Int))).run Tryd.prog w = .ok (.slice (some ⟨w.heap.size, 0, none⟩) m m) (w.alloc (.cells ((List.replicate (m * 4) (0 : Int)).map (Value.int .i64)).toArray 86)) := by
  obtain ⟨i0, hi, hz0, hz1, hz2⟩ := info_parts info_four
  have := run_makeSlice (P := Tryd.prog) w 85 86 i0 _ Tryd.underlying85 hi hz0 .i64 .i64 m m (by omega) (by omega) (by rw [hz1]; omega) (by rw [hz2]; omega) (by omega)
  rw [hz1] at this
  rw [← made_tab]
  exact this

theorem length_is {n r : Int} (h : lenS n = r) (w : World) : Calls Tryd.prog 48 #[.int .i64 n] w fun e w' => e = .returned (.int .i64 r) ∧ w = w' := h ▸ length_any n w
def part (n : Nat) (ss : List Int) (q s x : Nat) : Int := if x = 0 then never else if x = 1 then max never (val n ss q s 0) else bestAt n ss q s
def FwdRel (n : Nat) (ss : List Int) (w : World) (L : List Int) (o t i : Value) (wr : World) : Prop := ∃ (a' : Option Addr) (cap' j sn : Nat), j ≤ n ∧ sn < 4 ∧ o = .slice a' j cap' ∧ t = .int .i64 sn ∧ i = .int .i64 j ∧ OwnI (w.heap.size + 1) 3 .i64 wr a' j cap' ((dec n ss 0).take j) ∧ (dec n ss 0).drop j = dec (n - j) (ss.drop (2 * j)) sn ∧ Tab w.heap.size L wr ∧ Gr w wr ∧ Follows w (.slice none 0 0) (.slice a' j cap')
def XRel (n : Nat) (ss : List Int) (w : World) (q s : Nat) (t : Value) (wr : World) : Prop := ∃ (x : Nat) (L : List Int), x ≤ 2 ∧ t = .int .i64 x ∧ Tab w.heap.size L wr ∧ TabRows n ss L (q + 1) ∧ TabRow n ss L q s ∧ L[q * 4 + s]?.getD 0 = part n ss q s x ∧ Gr w wr
theorem part_one {n : Nat} {ss : List Int} {q s : Nat} : part n ss q s 1 = max (part n ss q s 0) (val n ss q s 0) := rfl
theorem part_two {n : Nat} {ss : List Int} {q s : Nat} (h1 : 2 * q + 1 < ss.length) (h2 : q < n) : part n ss q s 2 = max (part n ss q s 1) (val n ss q s 1) := bestAt_head h1 h2 _
theorem next_is {s x t : Int} (h : nx s x = t) (w : World) (hs : isSt s) (hx : x = 0 ∨ x = 1) : Calls Tryd.prog 61 #[.int .i64 s, .int .i64 x] w fun e w' => e = .returned (.tuple #[.int .i64 t, .agg #[.int .i64 (o0 s x), .int .i64 (o1 s x)]]) ∧ Gr w w' := h ▸ next28 s x w hs hx
theorem like_is {p0 p1 c0 c1 v : Int} (h : p0 * (1 - 2 * c0) + p1 * (1 - 2 * c1) = v) (a : Option Addr) (cap : Nat) (w : World) (hr : Rd .i64 w a 2 [p0, p1]) (h0 : -127 ≤ p0 ∧ p0 ≤ 127) (h1 : -127 ≤ p1 ∧ p1 ≤ 127) (b0 : c0 = 0 ∨ c0 = 1) (b1 : c1 = 0 ∨ c1 = 1) :
    Calls Tryd.prog 67 #[.agg #[.int .i64 c0, .int .i64 c1], .slice a 2 cap] w fun e w' => e = .returned (.int .i64 v) ∧ Gr w w' := h ▸ like28 a cap p0 p1 c0 c1 w hr h0 h1 b0 b1
def DecPost (ss : List Int) (n : Nat) (w : World) (e : Ending) (w' : World) : Prop := ∃ (a : Option Addr) (cap : Nat), e = .returned (.tuple #[.slice a n cap, .int .i64 0]) ∧ Rd .i64 w' a n (dec n ss 0) ∧ Gr w w'
def DecPostC (ss : List Int) (n : Nat) (w : World) (e : Ending) (w' : World) : Prop := ∃ (a : Option Addr) (cap : Nat), e = .returned (.tuple #[.slice a n cap, .int .i64 0]) ∧ n ≤ cap ∧ Rd .i64 w' a n (dec n ss 0) ∧ Gr w w'
theorem own_cap {B : Nat} {e : TypeId} {k : IntKind} {w : World} {a : Option Addr} {n cap : Nat} {xs : List Int} (h : OwnI B e k w a n cap xs) : n ≤ cap := by
  rcases h.row.2 with ⟨hv, h0⟩ | ⟨g, cap', cur, hv, hb, hg, hn, hm, hs, ht⟩
  · omega
  · injection hv with h1 h2 h3; omega
set_option maxRecDepth 100000 in
set_option maxHeartbeats 4000000 in
theorem decode_cap (a : Option Addr) (n cap : Nat) (ss : List Int) (w : World) (hr : Rd .i64 w a (2 * (n + 2)) ss) (hs : softOk ss) (h1 : 1 ≤ n) (h2 : n ≤ 2064) (hcap : 2 * (n + 2) ≤ cap) :
    Calls Tryd.prog 52 #[.slice a (2 * (n + 2)) cap, .int .i64 n] w (DecPostC ss n w) := by
  obtain ⟨b, off, rfl, hb, hc⟩ := hr.some (by omega)
  have hlen : lenS n = 2 * ((n : Int) + 2) := by unfold lenS; rw [if_pos (by omega)]
  have hlz : (2 * ((n : Int) + 2) == 0) = false := by simp; omega
  have HS := Lib.hid hs
  have HC := Lib.hid hc
  have HL := Lib.hid hr.1
  have HLEN := Lib.hid hlen
  have hmk : ∀ u : World, (Instr.makeSlice 85 (.int .i64 ((n : Int) + 2 + 1)) (.int .i64 ((n : Int) + 2 + 1))).run Tryd.prog u = .ok (.slice (some ⟨u.heap.size, 0, none⟩) (n + 3) (n + 3)) (u.alloc (.cells ((List.replicate ((n + 3) * 4) (0 : Int)).map (Value.int .i64)).toArray 86)) := fun u => make_tab (n + 3) (by omega) u
  clear hr hs hc hlen
  go_enter Tryd.func52, Tryd.ntmps52
  go_wp2_with ((go_at_call 48; refine (length_is HLEN.out _).mono ?_; rintro e w' ⟨rfl, rfl⟩))
  go_loop [32] (fun i => ∃ k : Nat, k ≤ 2 * (n + 2) ∧ i = .int .i64 k) (fun i => 2 * (n + 2) - (intOf i).toNat)
  case atStart => exact ⟨0, by omega, rfl⟩
  case round =>
    obtain ⟨k, hk, rfl⟩ := hrel
    by_cases hlt : k < 2 * (n + 2)
    · have ck := HC.out k hlt
      have hxk := HS.out (ss[k]?.getD 0) (by have := HL.out; simp [show k < ss.length by omega])
      obtain ⟨x, hxx⟩ : ∃ x, ss[k]?.getD 0 = x := ⟨_, rfl⟩
      rw [hxx] at ck hxk
      obtain ⟨x1, x2⟩ := hxk
      clear hxx
      go_wp2_with fail
      go_round
      case rel => exact ⟨k + 1, by omega, by go_num⟩
      case measure => (simp [intOf] <;> omega)
    · obtain rfl : k = 2 * (n + 2) := by omega
      go_upto_region 10 with (fail)
      obtain ⟨w1, hw1⟩ : ∃ y, y = w.alloc (.cells (Array.replicate ((n + 3) * 4) (.int .i64 0)) 86) := ⟨_, rfl⟩
      rw [← hw1]
      have hg1 : Gr w w1 := by rw [hw1]; exact Gr.alloc _ _
      have ht1 : Tab w.heap.size (List.replicate ((n + 3) * 4) 0) w1 := by
        unfold Tab; rw [hw1, heap_alloc_new]; simp
      have HG1 := Lib.hid hg1
      have HT1 := Lib.hid ht1
      clear hw1 hg1 ht1 hmk
      have hq : (n + 2) * 4 + 3 < (List.replicate ((n + 3) * 4) (0 : Int)).length := by simp; omega
      have x_0 := HT1.out.cell (i := (n + 2) * 4) (by omega)
      have x_1 := HT1.out.cell (i := (n + 2) * 4 + 1) (by omega)
      have x_2 := HT1.out.cell (i := (n + 2) * 4 + 2) (by omega)
      have x_3 := HT1.out.cell (i := (n + 2) * 4 + 3) (by omega)
      have f_0 := HT1.out.frozen ((n + 2) * 4)
      have f_1 := HT1.out.frozen ((n + 2) * 4 + 1)
      have f_2 := HT1.out.frozen ((n + 2) * 4 + 2)
      have f_3 := HT1.out.frozen ((n + 2) * 4 + 3)
      go_upto_region 11 with (fail)
      clear x_0 x_1 x_2 x_3 f_0 f_1 f_2 f_3
      have ht2 := (((HT1.out.set ((n + 2) * 4) 0).set ((n + 2) * 4 + 1) never).set ((n + 2) * 4 + 2) never).set ((n + 2) * 4 + 3) never
      have hr2 : TabRows n ss (((((List.replicate ((n + 3) * 4) (0 : Int)).set ((n + 2) * 4) 0).set ((n + 2) * 4 + 1) never).set ((n + 2) * 4 + 2) never).set ((n + 2) * 4 + 3) never) (n + 2) := by
        refine ⟨by simp, fun q s h1 h2 h3 => ?_⟩
        obtain rfl : q = n + 2 := by omega
        rw [bestAt_end HL.out]
        have hs4 : s = 0 ∨ s = 1 ∨ s = 2 ∨ s = 3 := by omega
        rcases hs4 with rfl | rfl | rfl | rfl
        · rw [set_getD _ _ _ _ (by omega), set_getD _ _ _ _ (by omega), set_getD _ _ _ _ (by omega)]; exact set_getD_eq _ _ _ (by simp <;> omega)
        · rw [set_getD _ _ _ _ (by omega), set_getD _ _ _ _ (by omega)]; exact set_getD_eq _ _ _ (by simp <;> omega)
        · rw [set_getD _ _ _ _ (by omega)]; exact set_getD_eq _ _ _ (by simp <;> omega)
        · exact set_getD_eq _ _ _ (by simp <;> omega)
      unfold never at ht2
      obtain ⟨w2, hw2⟩ : ∃ y, y = (((w1.setCell ⟨w.heap.size, (n + 2) * 4, none⟩ (.int .i64 0)).setCell ⟨w.heap.size, (n + 2) * 4 + 1, none⟩ (.int .i64 (-1099511627776))).setCell ⟨w.heap.size, (n + 2) * 4 + 2, none⟩ (.int .i64 (-1099511627776))).setCell ⟨w.heap.size, (n + 2) * 4 + 3, none⟩ (.int .i64 (-1099511627776)) := ⟨_, rfl⟩
      rw [← hw2] at ht2
      rw [← hw2]
      have hg2 : Gr w w2 := by
        rw [hw2]
        exact grown_set (grown_set (grown_set (grown_set HG1.out (a := ⟨w.heap.size, (n + 2) * 4, none⟩) (Nat.le_refl _) _) (a := ⟨w.heap.size, (n + 2) * 4 + 1, none⟩) (Nat.le_refl _) _) (a := ⟨w.heap.size, (n + 2) * 4 + 2, none⟩) (Nat.le_refl _) _) (a := ⟨w.heap.size, (n + 2) * 4 + 3, none⟩) (Nat.le_refl _) _
      obtain ⟨L2, hL2⟩ : ∃ y, y = (((((List.replicate ((n + 3) * 4) (0 : Int)).set ((n + 2) * 4) 0).set ((n + 2) * 4 + 1) (-1099511627776)).set ((n + 2) * 4 + 2) (-1099511627776)).set ((n + 2) * 4 + 3) (-1099511627776)) := ⟨_, rfl⟩
      rw [← hL2] at ht2
      have hr2' : TabRows n ss L2 (n + 2) := by rw [hL2]; exact hr2
      have HT2 := Lib.hid ht2
      have HR2 := Lib.hid hr2'
      have HG2 := Lib.hid hg2
      clear hw2 ht2 hr2 hr2' hg2 hL2 hq HT1 HG1
      go_wp2_with fail
      go_loopw [9] (fun i wr => ∃ (k : Nat) (L : List Int), k ≤ n + 2 ∧ i = .int .i64 ((k : Int) - 1) ∧ Tab w.heap.size L wr ∧ TabRows n ss L k ∧ Gr w wr) (fun i _ => (intOf i + 1).toNat)
      case atStart => exact ⟨n + 2, L2, by omega, by go_num, HT2.out, HR2.out, HG2.out⟩
      case round =>
        obtain ⟨k, L, hk, rfl, ht, hrw, hg⟩ := hrel
        have HT := Lib.hid ht
        have HRW := Lib.hid hrw
        have HG := Lib.hid hg
        clear ht hrw hg
        by_cases hk0 : k = 0
        · subst hk0
          go_wp2_with fail
          go_loopw [14, 15, 115] (fun o t i wr => FwdRel n ss w L o t i wr) (fun _ _ i _ => n - (intOf i).toNat)
          case atStart => exact ⟨none, 0, 0, 0, by omega, by omega, rfl, rfl, rfl, OwnI.nil _ _ _ _, rfl, HT.out, HG.out, Follows.refl _ _⟩
          case round =>
            clear HT HG
            obtain ⟨a', cap', j, sn, hj, hsn, rfl, rfl, rfl, hown, hdr, ht, hg, hf⟩ := hrel
            have HO := Lib.hid hown
            have HD := Lib.hid hdr
            have HT := Lib.hid ht
            have HG := Lib.hid hg
            have HF := Lib.hid hf
            clear hown hdr ht hg hf
            by_cases hlt : j < n
            · have hl2 : 2 * j + 1 < ss.length := by rw [HL.out]; omega
              have hss : isSt (sn : Int) := by unfold isSt; omega
              have hstep := dec_step hl2 hlt (sn : Int)
              obtain ⟨t, ht⟩ : ∃ t : Nat, nx sn 0 = t := ⟨(nx sn 0).toNat, by rcases nx_st (x := 0) hss (by omega) with h | h | h | h <;> omega⟩
              have ht4 : t < 4 := by rcases nx_st (x := 0) hss (by omega) with h | h | h | h <;> omega
              obtain ⟨t1, ht1⟩ : ∃ t : Nat, nx sn 1 = t := ⟨(nx sn 1).toNat, by rcases nx_st (x := 1) hss (by omega) with h | h | h | h <;> omega⟩
              have ht14 : t1 < 4 := by rcases nx_st (x := 1) hss (by omega) with h | h | h | h <;> omega
              have HNX := Lib.hid ht
              have HNX1 := Lib.hid ht1
              clear ht ht1
              have hcv := HRW.out.2 j sn (by omega) (by omega) hsn
              have hbv := HRW.out.2 (j + 1) t (by omega) (by omega) ht4
              have hin : j * 4 + sn < L.length := by rw [HRW.out.1]; omega
              have hin2 : (j + 1) * 4 + t < L.length := by rw [HRW.out.1]; omega
              obtain ⟨cv, hcw⟩ : ∃ v, L[j * 4 + sn]?.getD 0 = v := ⟨_, rfl⟩
              obtain ⟨bv, hbw⟩ : ∃ v, L[(j + 1) * 4 + t]?.getD 0 = v := ⟨_, rfl⟩
              have rb := bestAt_rng (n := n) HS.out (by rw [HL.out]; omega) (j + 1) t
              rw [← hbv, hbw] at rb
              obtain ⟨rb1, rb2⟩ := rb
              obtain ⟨p0, hp0⟩ : ∃ v, ss[2 * j]?.getD 0 = v := ⟨_, rfl⟩
              obtain ⟨p1, hp1⟩ : ∃ v, ss[2 * j + 1]?.getD 0 = v := ⟨_, rfl⟩
              have r0 : -127 ≤ p0 ∧ p0 ≤ 127 := by rw [← hp0]; exact HS.out _ (by simp [show 2 * j < ss.length by omega])
              have r1 : -127 ≤ p1 ∧ p1 ≤ 127 := by rw [← hp1]; exact HS.out _ (by simp [hl2])
              obtain ⟨lv, hlv⟩ : ∃ v, lik p0 p1 sn 0 = v := ⟨_, rfl⟩
              have rl := lik_rng (s := sn) (x := 0) r0 r1
              rw [hlv] at rl
              obtain ⟨rl1, rl2⟩ := rl
              have hval : val n ss j sn 0 = bv + lv := by unfold val; rw [hp0, hp1, hlv, HNX.out, ← hbv, hbw]
              rw [hval, ← hcv, hcw, HNX.out, HNX1.out] at hstep
              have HLV := Lib.hid (show p0 * (1 - 2 * o0 sn 0) + p1 * (1 - 2 * o1 sn 0) = lv from hlv)
              have HSTEP := Lib.hid hstep
              have HR01 := Lib.hid (And.intro r0 r1)
              have hrd2 : ∀ u, Gr w u → Rd .i64 u (some ⟨b, off + 2 * j, none⟩) 2 [p0, p1] := by
                intro u hu
                refine ⟨rfl, ?_, by simp [maxLen], .inr ⟨b, off + 2 * j, rfl, Nat.lt_of_lt_of_le hb hu.size, ?_⟩⟩
                · intro y hy; simp at hy; rcases hy with rfl | rfl <;> (refine WalkArith.wf_i64 ?_; omega)
                · intro i hi
                  have hi2 : i = 0 ∨ i = 1 := by omega
                  rcases hi2 with rfl | rfl
                  · have := hu.cell (HC.out (2 * j) (by omega))
                    rw [hp0] at this; exact this
                  · have := hu.cell (HC.out (2 * j + 1) (by omega))
                    rw [hp1] at this
                    rw [show off + 2 * j + 1 = off + (2 * j + 1) by omega]; exact this
              have HRD2 := Lib.hid hrd2
              clear hstep hcv hbv hval hlv r0 r1 hrd2
              go_wp2_with fail
              refine (next_is HNX.out wr hss (by omega)).mono ?_
              rintro e w6 ⟨rfl, hg6⟩
              go_upto_region 33 with (fail)
              obtain ⟨w7, hw7⟩ : ∃ y, y = w6.alloc (.cells #[.int .i64 (o0 sn 0), .int .i64 (o1 sn 0)] 79) := ⟨_, rfl⟩
              rw [← hw7]
              have hg7 : Gr w6 w7 := by rw [hw7]; exact Gr.alloc _ _
              have hb7 : w7.heap[w6.heap.size]? = some (.cells #[.int .i64 (o0 sn 0), .int .i64 (o1 sn 0)] 79 (0, 0)) := by rw [hw7]; exact heap_alloc_new _ _
              have hg67 : Gr wr w7 := Gr.trans hg6 hg7
              have ht7 := HT.out.kept hg67
              have HG67 := Lib.hid hg67
              have y_0 : ∀ u, Gr w7 u → u.cell? ⟨w6.heap.size, 0, none⟩ = some (.int .i64 (o0 sn 0)) := fun u h => h.cell (by rw [cell_of_block hb7]; rfl)
              have y_1 : ∀ u, Gr w7 u → u.cell? ⟨w6.heap.size, 1, none⟩ = some (.int .i64 (o1 sn 0)) := fun u h => h.cell (by rw [cell_of_block hb7]; rfl)
              have z_s : ∀ u, Gr w7 u → u.cell? ⟨w.heap.size, j * 4 + sn, none⟩ = some (.int .i64 cv) := fun u h => by rw [← hcw]; exact (ht7.kept h).cell hin
              have z_t : ∀ u, Gr w7 u → u.cell? ⟨w.heap.size, (j + 1) * 4 + t, none⟩ = some (.int .i64 bv) := fun u h => by rw [← hbw]; exact (ht7.kept h).cell hin2
              have HRD7 := Lib.hid (HRD2.out w7 (HG.out.trans hg67))
              clear hw7 hg7 hb7 ht7 hg67 hg6 hcw hbw hp0 hp1 hin hin2
              refine Sched.wp_region_sched 24 [] [] (by kernel_rfl) (by kernel_rfl) ?_
              simp only [List.take_succ_cons, List.take_zero, List.drop_succ_cons, List.drop_zero]
              repeat (first | (refine Sched.walk1_no rfl rfl (fun K hK => ?_); simp only [Act.put, List.setIfInBounds_toArray, List.set_cons_zero, List.set_cons_succ]; refine hK _ ?_; clear hK K) | (refine Sched.walk1_gr rfl rfl rfl (fun K hK => ?_); apply Exists.intro; refine ⟨fun w1 hw1 => ?_, ?_⟩; (focus (go_simp; (try go_ints); (try (simp only [IntWalk.iteOmega]; go_simp)); first | done | (go_at_call 67; (with_reducible exact like_is HLV.out _ _ _ (rd_gr HRD7.out hw1) HR01.out.1 HR01.out.2 (o0_bit _ _) (o1_bit _ _))) | (with_reducible rfl) | (with_reducible exact ⟨rfl, rfl⟩))); simp only [Act.put, List.setIfInBounds_toArray, List.set_cons_zero, List.set_cons_succ]; refine hK _ ?_; clear hK K) | (refine Sched.walk1_pure rfl rfl rfl (fun K hK => ?_); apply Exists.intro; refine ⟨fun w1 => ?_, ?_⟩; (focus (go_simp; (try go_ints); (try (simp only [IntWalk.iteOmega]; go_simp)); first | done | (with_reducible rfl) | (with_reducible exact ⟨rfl, rfl⟩))); simp only [Act.put, List.setIfInBounds_toArray, List.set_cons_zero, List.set_cons_succ]; refine hK _ ?_; clear hK K) | (refine Sched.walk1_box rfl rfl ?_; apply Exists.intro; refine ⟨fun w1 hw1 => ?_, ?_⟩; (focus (go_simp; exact ⟨Gr.alloc _ _, rfl, by simp, heap_alloc_new _ _⟩))))
              refine Sched.walk1_nil ?_
              intro wq hwq
              dsimp only [Sched.EndN, List.nil_append, List.cons_append, Act.put]
              (try simp only [List.setIfInBounds_toArray, List.set_cons_zero, List.set_cons_succ])
              repeat (first | (refine Sched.walk2_no rfl (fun K hK => ?_); simp only [Act.put, List.setIfInBounds_toArray, List.set_cons_zero, List.set_cons_succ]; refine hK _ ?_; clear hK K) | (refine Sched.walk2_go rfl (fun K hK => ?_); go_simp; (try go_ints); (try (simp only [IntWalk.iteOmega]; go_simp)); first | (refine hK _ _ ?_; clear hK K) | fail))
              refine Sched.walk2_nil ?_
              have HGQ := Lib.hid (HG67.out.trans hwq)
              clear y_0 y_1 z_s z_t hwq
              by_cases hcmp : bv + lv < cv
              · go_wp2_with fail
                refine (next_is HNX1.out wq hss (by omega)).mono ?_
                rintro e wz ⟨rfl, hgz0⟩
                have hgz : Gr wr wz := HGQ.out.trans hgz0
                clear hgz0
                have hD := HD.out
                rw [HSTEP.out, if_pos hcmp] at hD
                obtain ⟨hD1, hD2⟩ := drop_cons hD
                have hrd1 := rd_new (k := .i64) (w := wz) [1] 3 (0, 0) 1 rfl (by simp [maxLen]) (by intro z hz; simp at hz; subst hz; exact WalkArith.wf_i64 (by omega))
                obtain ⟨a5, c5, w9, hrun5, ho5, hg5, hf5⟩ := app_i64 (w.heap.size + 1) (wz.alloc (.cells ([1].map (Value.int .i64)).toArray 3)) a' j cap' _ ((HO.out.stay hgz).stay (World.grownBy_alloc _ _ _)) (some ⟨wz.heap.size, 0, none⟩) 1 1 _ hrd1 (by omega) (by have := hgz.size; have := HT.out; have := heap_lt this; simp; omega)
                simp only [List.map_cons, List.map_nil] at hrun5 hg5 hf5
                rw [← hD1] at ho5
                have hgz2 : Gr wr (wz.alloc (.cells #[.int .i64 1] 3)) := hgz.trans (Gr.alloc _ _)
                have htz := HT.out.kept hgz2
                have hg9 : Gr w w9 := by
                  refine grownBy_trans (HG.out.trans hgz2) hg5 ?_
                  rcases HF.out with h | ⟨g, h, hg⟩
                  · exact .inr (.inl (by rw [h]; rfl))
                  · exact .inr (.inr ⟨g, h, hg⟩)
                have ht9 : Tab w.heap.size L w9 := by
                  unfold Tab
                  rw [hg5.block _ (heap_lt htz) ?_]
                  · exact htz
                  · intro e
                    have := (HO.out.below w.heap.size e.symm).1
                    omega
                have hf9 := HF.out.trans (hf5.later (w := w) (Nat.le_trans HG.out.size hgz2.size)) (Nat.le_refl _)
                have HR5 := Lib.hid hrun5
                have HO5 := Lib.hid ho5
                have HD2 := Lib.hid hD2
                have HT9 := Lib.hid ht9
                have HG9 := Lib.hid hg9
                have HF9 := Lib.hid hf9
                clear hrun5 ho5 hg5 hf5 hD hD1 hD2 hrd1 hgz2 htz hg9 ht9 hf9
                clear hgz
                go_wp2_with (at_builtin; refine wpList_app rfl _ _ _ rfl rfl rfl HR5.out ?_)
                go_roundw
                case rel =>
                  (repeat apply Exists.intro)
                  refine And.intro ?_ ?_
                  rotate_left
                  · (repeat' (first | exact rfl | apply And.intro))
                  exact ⟨a5, c5, j + 1, t1, by omega, ht14, rfl, rfl, rfl, HO5.out, HD2.out, HT9.out, HG9.out, HF9.out⟩
                case measure => simp [intOf]; omega
              · obtain ⟨wz, rfl⟩ : ∃ y : World, y = wq := ⟨_, rfl⟩
                have hgz : Gr wr wz := HGQ.out
                have hD := HD.out
                rw [HSTEP.out, if_neg hcmp] at hD
                obtain ⟨hD1, hD2⟩ := drop_cons hD
                have hrd1 := rd_new (k := .i64) (w := wz) [0] 3 (0, 0) 1 rfl (by simp [maxLen]) (by intro z hz; simp at hz; subst hz; exact WalkArith.wf_i64 (by omega))
                obtain ⟨a5, c5, w9, hrun5, ho5, hg5, hf5⟩ := app_i64 (w.heap.size + 1) (wz.alloc (.cells ([0].map (Value.int .i64)).toArray 3)) a' j cap' _ ((HO.out.stay hgz).stay (World.grownBy_alloc _ _ _)) (some ⟨wz.heap.size, 0, none⟩) 1 1 _ hrd1 (by omega) (by have := hgz.size; have := HT.out; have := heap_lt this; simp; omega)
                simp only [List.map_cons, List.map_nil] at hrun5 hg5 hf5
                rw [← hD1] at ho5
                have hgz2 : Gr wr (wz.alloc (.cells #[.int .i64 0] 3)) := hgz.trans (Gr.alloc _ _)
                have htz := HT.out.kept hgz2
                have hg9 : Gr w w9 := by
                  refine grownBy_trans (HG.out.trans hgz2) hg5 ?_
                  rcases HF.out with h | ⟨g, h, hg⟩
                  · exact .inr (.inl (by rw [h]; rfl))
                  · exact .inr (.inr ⟨g, h, hg⟩)
                have ht9 : Tab w.heap.size L w9 := by
                  unfold Tab
                  rw [hg5.block _ (heap_lt htz) ?_]
                  · exact htz
                  · intro e
                    have := (HO.out.below w.heap.size e.symm).1
                    omega
                have hf9 := HF.out.trans (hf5.later (w := w) (Nat.le_trans HG.out.size hgz2.size)) (Nat.le_refl _)
                have HR5 := Lib.hid hrun5
                have HO5 := Lib.hid ho5
                have HD2 := Lib.hid hD2
                have HT9 := Lib.hid ht9
                have HG9 := Lib.hid hg9
                have HF9 := Lib.hid hf9
                clear hrun5 ho5 hg5 hf5 hD hD1 hD2 hrd1 hgz2 htz hg9 ht9 hf9
                clear hgz
                go_wp2_with (at_builtin; refine wpList_app rfl _ _ _ rfl rfl rfl HR5.out ?_)
                go_roundw
                case rel =>
                  (repeat apply Exists.intro)
                  refine And.intro ?_ ?_
                  rotate_left
                  · (repeat' (first | exact rfl | apply And.intro))
                  exact ⟨a5, c5, j + 1, t, by omega, ht4, rfl, rfl, rfl, HO5.out, HD2.out, HT9.out, HG9.out, HF9.out⟩
                case measure => simp [intOf]; omega
            · obtain rfl : j = n := by omega
              go_wp2_with fail
              go_ret2
              have hd := HO.out.rd
              rw [List.take_of_length_le (by rw [dec_len _ _ _ HL.out]; exact Nat.le_refl _)] at hd
              exact ⟨a', cap', rfl, own_cap HO.out, hd, HG.out⟩
        · obtain ⟨q, rfl⟩ : ∃ q, k = q + 1 := ⟨k - 1, by omega⟩
          have hq1 : ((q + 1 : Nat) : Int) - 1 = (q : Int) := by omega
          rw [hq1]
          clear hq1 hk0
          go_wp2_with fail
          obtain ⟨wo, rfl⟩ : ∃ wo : World, wo = wr := ⟨_, rfl⟩
          have hl2 : 2 * q + 1 < ss.length := by rw [HL.out]; omega
          go_loopw [59] (fun t wr => ∃ (s : Nat) (L : List Int), s ≤ 4 ∧ t = .int .i64 s ∧ Tab w.heap.size L wr ∧ TabRows n ss L (q + 1) ∧ TabRow n ss L q s ∧ Gr w wr) (fun t _ => 4 - (intOf t).toNat)
          case atStart => exact ⟨0, L, by omega, rfl, HT.out, HRW.out, fun s hs => by omega, HG.out⟩
          case round =>
            clear HT HRW HG
            obtain ⟨s, L, hs4, rfl, ht, hrw, hro, hg⟩ := hrel
            have HT := Lib.hid ht
            have HRW := Lib.hid hrw
            have HRO := Lib.hid hro
            have HG := Lib.hid hg
            clear ht hrw hro hg
            by_cases hs : s < 4
            · have hin : q * 4 + s < L.length := by rw [HRW.out.1]; omega
              have x_s := HT.out.cell hin
              have f_s := HT.out.frozen (q * 4 + s)
              go_wp2_with fail
              clear x_s f_s
              have ht2 := HT.out.set (q * 4 + s) never
              have hgs := grown_set HG.out (a := ⟨w.heap.size, q * 4 + s, none⟩) (Nat.le_refl _) (.int .i64 never)
              have HT2 := Lib.hid ht2
              have HG2 := Lib.hid hgs
              have HRW2 := Lib.hid (HRW.out.put hs never)
              have HRO2 := Lib.hid (HRO.out.put never)
              have HV2 := Lib.hid (set_getD_eq L (q * 4 + s) never hin)
              clear ht2 hgs
              unfold never at HT2 HG2
              obtain ⟨w5, hw5⟩ : ∃ y, y = wr.setCell ⟨w.heap.size, q * 4 + s, none⟩ (.int .i64 (-1099511627776)) := ⟨_, rfl⟩
              rw [← hw5] at HT2 HG2
              rw [← hw5]
              clear hw5
              have hss : isSt (s : Int) := by unfold isSt; omega
              go_loopw [67] (fun t wr => XRel n ss w q s t wr) (fun t _ => 2 - (intOf t).toNat)
              case atStart => exact ⟨0, _, by omega, rfl, HT2.out, HRW2.out, HRO2.out, HV2.out, HG2.out⟩
              case round =>
                clear HT HRW HRO HG HT2 HG2 HRW2 HRO2 HV2
                obtain ⟨x, L, hx2, rfl, ht, hrw, hro, hv, hg⟩ := hrel
                have HT := Lib.hid ht
                have HRW := Lib.hid hrw
                have HRO := Lib.hid hro
                have HV := Lib.hid hv
                have HG := Lib.hid hg
                clear ht hrw hro hv hg
                have hx3 : x = 0 ∨ x = 1 ∨ x = 2 := by omega
                rcases hx3 with rfl | rfl | rfl
                · obtain ⟨t, ht⟩ : ∃ t : Nat, nx s 0 = t := ⟨(nx s 0).toNat, by rcases nx_st (x := 0) hss (by omega) with h | h | h | h <;> omega⟩
                  have ht4 : t < 4 := by rcases nx_st (x := 0) hss (by omega) with h | h | h | h <;> omega
                  have HNX := Lib.hid ht
                  clear ht
                  go_wp2_with fail
                  refine (next_is HNX.out wr hss (by omega)).mono ?_
                  rintro e w6 ⟨rfl, hg6⟩
                  have HT6 := Lib.hid (HT.out.kept hg6)
                  have HG6 := Lib.hid (HG.out.trans hg6)
                  clear hg6
                  go_upto_region 23 with (fail)
                  obtain ⟨w7, hw7⟩ : ∃ y, y = w6.alloc (.cells #[.int .i64 (o0 s 0), .int .i64 (o1 s 0)] 79) := ⟨_, rfl⟩
                  rw [← hw7]
                  have hg7 : Gr w6 w7 := by rw [hw7]; exact Gr.alloc _ _
                  have hb7 : w7.heap[w6.heap.size]? = some (.cells #[.int .i64 (o0 s 0), .int .i64 (o1 s 0)] 79 (0, 0)) := by rw [hw7]; exact heap_alloc_new _ _
                  have ht7 := HT6.out.kept hg7
                  have HT7 := Lib.hid ht7
                  have HG7 := Lib.hid (HG6.out.trans hg7)
                  have hin : q * 4 + s < L.length := by rw [HRW.out.1]; omega
                  have hin2 : (q + 1) * 4 + t < L.length := by rw [HRW.out.1]; omega
                  have hbv := HRW.out.2 (q + 1) t (by omega) (by omega) ht4
                  obtain ⟨ov, hov⟩ : ∃ v, L[q * 4 + s]?.getD 0 = v := ⟨_, rfl⟩
                  obtain ⟨bv, hbw⟩ : ∃ v, L[(q + 1) * 4 + t]?.getD 0 = v := ⟨_, rfl⟩
                  have rb := bestAt_rng (n := n) HS.out (by rw [HL.out]; omega) (q + 1) t
                  rw [← hbv, hbw] at rb
                  obtain ⟨rb1, rb2⟩ := rb
                  have y_0 : ∀ u, Gr w7 u → u.cell? ⟨w6.heap.size, 0, none⟩ = some (.int .i64 (o0 s 0)) := fun u h => h.cell (by rw [cell_of_block hb7]; rfl)
                  have y_1 : ∀ u, Gr w7 u → u.cell? ⟨w6.heap.size, 1, none⟩ = some (.int .i64 (o1 s 0)) := fun u h => h.cell (by rw [cell_of_block hb7]; rfl)
                  have z_s : ∀ u, Gr w7 u → u.cell? ⟨w.heap.size, q * 4 + s, none⟩ = some (.int .i64 ov) := fun u h => by rw [← hov]; exact (ht7.kept h).cell hin
                  have z_t : ∀ u, Gr w7 u → u.cell? ⟨w.heap.size, (q + 1) * 4 + t, none⟩ = some (.int .i64 bv) := fun u h => by rw [← hbw]; exact (ht7.kept h).cell hin2
                  obtain ⟨p0, hp0⟩ : ∃ v, ss[2 * q]?.getD 0 = v := ⟨_, rfl⟩
                  obtain ⟨p1, hp1⟩ : ∃ v, ss[2 * q + 1]?.getD 0 = v := ⟨_, rfl⟩
                  have r0 : -127 ≤ p0 ∧ p0 ≤ 127 := by rw [← hp0]; exact HS.out _ (by simp [show 2 * q < ss.length by omega])
                  have r1 : -127 ≤ p1 ∧ p1 ≤ 127 := by rw [← hp1]; exact HS.out _ (by simp [hl2])
                  have hrd2 : Rd .i64 w7 (some ⟨b, off + 2 * q, none⟩) 2 [p0, p1] := by
                    refine ⟨rfl, ?_, by simp [maxLen], .inr ⟨b, off + 2 * q, rfl, Nat.lt_of_lt_of_le hb HG7.out.size, ?_⟩⟩
                    · intro y hy; simp at hy; rcases hy with rfl | rfl <;> (refine WalkArith.wf_i64 ?_; omega)
                    · intro i hi
                      have hi2 : i = 0 ∨ i = 1 := by omega
                      rcases hi2 with rfl | rfl
                      · have := HG7.out.cell (HC.out (2 * q) (by omega))
                        rw [hp0] at this; exact this
                      · have := HG7.out.cell (HC.out (2 * q + 1) (by omega))
                        rw [hp1] at this
                        rw [show off + 2 * q + 1 = off + (2 * q + 1) by omega]; exact this
                  obtain ⟨lv, hlv⟩ : ∃ v, lik p0 p1 s 0 = v := ⟨_, rfl⟩
                  have rl := lik_rng (s := s) (x := 0) r0 r1
                  rw [hlv] at rl
                  obtain ⟨rl1, rl2⟩ := rl
                  have HLV := Lib.hid (show p0 * (1 - 2 * o0 s 0) + p1 * (1 - 2 * o1 s 0) = lv from hlv)
                  have HRD2 := Lib.hid hrd2
                  have HOV := Lib.hid hov
                  have hval : val n ss q s 0 = bv + lv := by unfold val; rw [hp0, hp1, hlv, HNX.out, ← hbv, hbw]
                  have HVAL := Lib.hid hval
                  have HR01 := Lib.hid (And.intro r0 r1)
                  clear hw7 hg7 hb7 ht7 hbv hov hbw hp0 hp1 hrd2 hlv hval r0 r1 hin hin2
                  refine Sched.wp_region_sched 29 [] [] (by kernel_rfl) (by kernel_rfl) ?_
                  simp only [List.take_succ_cons, List.take_zero, List.drop_succ_cons, List.drop_zero]
                  repeat (first | (refine Sched.walk1_no rfl rfl (fun K hK => ?_); simp only [Act.put, List.setIfInBounds_toArray, List.set_cons_zero, List.set_cons_succ]; refine hK _ ?_; clear hK K) | (refine Sched.walk1_gr rfl rfl rfl (fun K hK => ?_); apply Exists.intro; refine ⟨fun w1 hw1 => ?_, ?_⟩; (focus (go_simp; (try go_ints); (try (simp only [IntWalk.iteOmega]; go_simp)); first | done | (go_at_call 67; (with_reducible exact like_is HLV.out _ _ _ (rd_gr HRD2.out hw1) HR01.out.1 HR01.out.2 (o0_bit _ _) (o1_bit _ _))) | (with_reducible rfl) | (with_reducible exact ⟨rfl, rfl⟩))); simp only [Act.put, List.setIfInBounds_toArray, List.set_cons_zero, List.set_cons_succ]; refine hK _ ?_; clear hK K) | (refine Sched.walk1_pure rfl rfl rfl (fun K hK => ?_); apply Exists.intro; refine ⟨fun w1 => ?_, ?_⟩; (focus (go_simp; (try go_ints); (try (simp only [IntWalk.iteOmega]; go_simp)); first | done | (with_reducible rfl) | (with_reducible exact ⟨rfl, rfl⟩))); simp only [Act.put, List.setIfInBounds_toArray, List.set_cons_zero, List.set_cons_succ]; refine hK _ ?_; clear hK K) | (refine Sched.walk1_box rfl rfl ?_; apply Exists.intro; refine ⟨fun w1 hw1 => ?_, ?_⟩; (focus (go_simp; exact ⟨Gr.alloc _ _, rfl, by simp, heap_alloc_new _ _⟩))))
                  refine Sched.walk1_nil ?_
                  intro wq hwq
                  have f_s := (HT7.out.kept hwq).frozen (q * 4 + s)
                  have x_s := z_s wq hwq
                  have HQ := Lib.hid hwq
                  clear y_0 y_1 z_s z_t hwq
                  dsimp only [Sched.EndN, List.nil_append, List.cons_append, Act.put]
                  (try simp only [List.setIfInBounds_toArray, List.set_cons_zero, List.set_cons_succ])
                  repeat (first | (refine Sched.walk2_no rfl (fun K hK => ?_); simp only [Act.put, List.setIfInBounds_toArray, List.set_cons_zero, List.set_cons_succ]; refine hK _ ?_; clear hK K) | (refine Sched.walk2_go rfl (fun K hK => ?_); go_simp; (try go_ints); (try (simp only [IntWalk.iteOmega]; go_simp)); first | (refine hK _ _ ?_; clear hK K) | fail))
                  refine Sched.walk2_nil ?_
                  have hpart : part n ss q s 1 = max ov (bv + lv) := by rw [part_one, HVAL.out, ← HOV.out, HV.out]
                  have HPART := Lib.hid hpart
                  have HIN := Lib.hid (show q * 4 + s < L.length by rw [HRW.out.1]; omega)
                  clear hpart
                  go_wp2_with fail
                  · have hmx : bv + lv = max ov (bv + lv) := by omega
                    have hV : (L.set (q * 4 + s) (bv + lv))[q * 4 + s]?.getD 0 = part n ss q s 1 := by rw [set_getD_eq _ _ _ HIN.out, HPART.out]; exact hmx
                    have HVV := Lib.hid hV
                    clear hmx hV
                    go_roundw
                    case rel =>
                      (repeat apply Exists.intro)
                      refine And.intro ?_ ?_
                      rotate_left
                      · (repeat' (first | exact rfl | apply And.intro))
                      exact ⟨1, _, by omega, rfl, (HT7.out.kept HQ.out).set _ _, HRW.out.put (by omega) _, HRO.out.put _, HVV.out, grown_set (HG7.out.trans HQ.out) (a := ⟨w.heap.size, q * 4 + s, none⟩) (Nat.le_refl _) _⟩
                    case measure => simp [intOf]
                  · have hmx : ov = max ov (bv + lv) := by omega
                    have hV : (L.set (q * 4 + s) ov)[q * 4 + s]?.getD 0 = part n ss q s 1 := by rw [set_getD_eq _ _ _ HIN.out, HPART.out]; exact hmx
                    have HVV := Lib.hid hV
                    clear hmx hV
                    go_roundw
                    case rel =>
                      (repeat apply Exists.intro)
                      refine And.intro ?_ ?_
                      rotate_left
                      · (repeat' (first | exact rfl | apply And.intro))
                      exact ⟨1, _, by omega, rfl, (HT7.out.kept HQ.out).set _ _, HRW.out.put (by omega) _, HRO.out.put _, HVV.out, grown_set (HG7.out.trans HQ.out) (a := ⟨w.heap.size, q * 4 + s, none⟩) (Nat.le_refl _) _⟩
                    case measure => simp [intOf]
                · by_cases hqn : q < n
                  · obtain ⟨t, ht⟩ : ∃ t : Nat, nx s 1 = t := ⟨(nx s 1).toNat, by rcases nx_st (x := 1) hss (by omega) with h | h | h | h <;> omega⟩
                    have ht4 : t < 4 := by rcases nx_st (x := 1) hss (by omega) with h | h | h | h <;> omega
                    have HNX := Lib.hid ht
                    clear ht
                    go_wp2_with fail
                    refine (next_is HNX.out wr hss (by omega)).mono ?_
                    rintro e w6 ⟨rfl, hg6⟩
                    have HT6 := Lib.hid (HT.out.kept hg6)
                    have HG6 := Lib.hid (HG.out.trans hg6)
                    clear hg6
                    go_upto_region 23 with (fail)
                    obtain ⟨w7, hw7⟩ : ∃ y, y = w6.alloc (.cells #[.int .i64 (o0 s 1), .int .i64 (o1 s 1)] 79) := ⟨_, rfl⟩
                    rw [← hw7]
                    have hg7 : Gr w6 w7 := by rw [hw7]; exact Gr.alloc _ _
                    have hb7 : w7.heap[w6.heap.size]? = some (.cells #[.int .i64 (o0 s 1), .int .i64 (o1 s 1)] 79 (0, 0)) := by rw [hw7]; exact heap_alloc_new _ _
                    have ht7 := HT6.out.kept hg7
                    have HT7 := Lib.hid ht7
                    have HG7 := Lib.hid (HG6.out.trans hg7)
                    have hin : q * 4 + s < L.length := by rw [HRW.out.1]; omega
                    have hin2 : (q + 1) * 4 + t < L.length := by rw [HRW.out.1]; omega
                    have hbv := HRW.out.2 (q + 1) t (by omega) (by omega) ht4
                    obtain ⟨ov, hov⟩ : ∃ v, L[q * 4 + s]?.getD 0 = v := ⟨_, rfl⟩
                    obtain ⟨bv, hbw⟩ : ∃ v, L[(q + 1) * 4 + t]?.getD 0 = v := ⟨_, rfl⟩
                    have rb := bestAt_rng (n := n) HS.out (by rw [HL.out]; omega) (q + 1) t
                    rw [← hbv, hbw] at rb
                    obtain ⟨rb1, rb2⟩ := rb
                    have y_0 : ∀ u, Gr w7 u → u.cell? ⟨w6.heap.size, 0, none⟩ = some (.int .i64 (o0 s 1)) := fun u h => h.cell (by rw [cell_of_block hb7]; rfl)
                    have y_1 : ∀ u, Gr w7 u → u.cell? ⟨w6.heap.size, 1, none⟩ = some (.int .i64 (o1 s 1)) := fun u h => h.cell (by rw [cell_of_block hb7]; rfl)
                    have z_s : ∀ u, Gr w7 u → u.cell? ⟨w.heap.size, q * 4 + s, none⟩ = some (.int .i64 ov) := fun u h => by rw [← hov]; exact (ht7.kept h).cell hin
                    have z_t : ∀ u, Gr w7 u → u.cell? ⟨w.heap.size, (q + 1) * 4 + t, none⟩ = some (.int .i64 bv) := fun u h => by rw [← hbw]; exact (ht7.kept h).cell hin2
                    obtain ⟨p0, hp0⟩ : ∃ v, ss[2 * q]?.getD 0 = v := ⟨_, rfl⟩
                    obtain ⟨p1, hp1⟩ : ∃ v, ss[2 * q + 1]?.getD 0 = v := ⟨_, rfl⟩
                    have r0 : -127 ≤ p0 ∧ p0 ≤ 127 := by rw [← hp0]; exact HS.out _ (by simp [show 2 * q < ss.length by omega])
                    have r1 : -127 ≤ p1 ∧ p1 ≤ 127 := by rw [← hp1]; exact HS.out _ (by simp [hl2])
                    have hrd2 : Rd .i64 w7 (some ⟨b, off + 2 * q, none⟩) 2 [p0, p1] := by
                      refine ⟨rfl, ?_, by simp [maxLen], .inr ⟨b, off + 2 * q, rfl, Nat.lt_of_lt_of_le hb HG7.out.size, ?_⟩⟩
                      · intro y hy; simp at hy; rcases hy with rfl | rfl <;> (refine WalkArith.wf_i64 ?_; omega)
                      · intro i hi
                        have hi2 : i = 0 ∨ i = 1 := by omega
                        rcases hi2 with rfl | rfl
                        · have := HG7.out.cell (HC.out (2 * q) (by omega))
                          rw [hp0] at this; exact this
                        · have := HG7.out.cell (HC.out (2 * q + 1) (by omega))
                          rw [hp1] at this
                          rw [show off + 2 * q + 1 = off + (2 * q + 1) by omega]; exact this
                    obtain ⟨lv, hlv⟩ : ∃ v, lik p0 p1 s 1 = v := ⟨_, rfl⟩
                    have rl := lik_rng (s := s) (x := 1) r0 r1
                    rw [hlv] at rl
                    obtain ⟨rl1, rl2⟩ := rl
                    have HLV := Lib.hid (show p0 * (1 - 2 * o0 s 1) + p1 * (1 - 2 * o1 s 1) = lv from hlv)
                    have HRD2 := Lib.hid hrd2
                    have HOV := Lib.hid hov
                    have hval : val n ss q s 1 = bv + lv := by unfold val; rw [hp0, hp1, hlv, HNX.out, ← hbv, hbw]
                    have HVAL := Lib.hid hval
                    have HR01 := Lib.hid (And.intro r0 r1)
                    clear hw7 hg7 hb7 ht7 hbv hov hbw hp0 hp1 hrd2 hlv hval r0 r1 hin hin2
                    refine Sched.wp_region_sched 29 [] [] (by kernel_rfl) (by kernel_rfl) ?_
                    simp only [List.take_succ_cons, List.take_zero, List.drop_succ_cons, List.drop_zero]
                    repeat (first | (refine Sched.walk1_no rfl rfl (fun K hK => ?_); simp only [Act.put, List.setIfInBounds_toArray, List.set_cons_zero, List.set_cons_succ]; refine hK _ ?_; clear hK K) | (refine Sched.walk1_gr rfl rfl rfl (fun K hK => ?_); apply Exists.intro; refine ⟨fun w1 hw1 => ?_, ?_⟩; (focus (go_simp; (try go_ints); (try (simp only [IntWalk.iteOmega]; go_simp)); first | done | (go_at_call 67; (with_reducible exact like_is HLV.out _ _ _ (rd_gr HRD2.out hw1) HR01.out.1 HR01.out.2 (o0_bit _ _) (o1_bit _ _))) | (with_reducible rfl) | (with_reducible exact ⟨rfl, rfl⟩))); simp only [Act.put, List.setIfInBounds_toArray, List.set_cons_zero, List.set_cons_succ]; refine hK _ ?_; clear hK K) | (refine Sched.walk1_pure rfl rfl rfl (fun K hK => ?_); apply Exists.intro; refine ⟨fun w1 => ?_, ?_⟩; (focus (go_simp; (try go_ints); (try (simp only [IntWalk.iteOmega]; go_simp)); first | done | (with_reducible rfl) | (with_reducible exact ⟨rfl, rfl⟩))); simp only [Act.put, List.setIfInBounds_toArray, List.set_cons_zero, List.set_cons_succ]; refine hK _ ?_; clear hK K) | (refine Sched.walk1_box rfl rfl ?_; apply Exists.intro; refine ⟨fun w1 hw1 => ?_, ?_⟩; (focus (go_simp; exact ⟨Gr.alloc _ _, rfl, by simp, heap_alloc_new _ _⟩))))
                    refine Sched.walk1_nil ?_
                    intro wq hwq
                    have f_s := (HT7.out.kept hwq).frozen (q * 4 + s)
                    have x_s := z_s wq hwq
                    have HQ := Lib.hid hwq
                    clear y_0 y_1 z_s z_t hwq
                    dsimp only [Sched.EndN, List.nil_append, List.cons_append, Act.put]
                    (try simp only [List.setIfInBounds_toArray, List.set_cons_zero, List.set_cons_succ])
                    repeat (first | (refine Sched.walk2_no rfl (fun K hK => ?_); simp only [Act.put, List.setIfInBounds_toArray, List.set_cons_zero, List.set_cons_succ]; refine hK _ ?_; clear hK K) | (refine Sched.walk2_go rfl (fun K hK => ?_); go_simp; (try go_ints); (try (simp only [IntWalk.iteOmega]; go_simp)); first | (refine hK _ _ ?_; clear hK K) | fail))
                    refine Sched.walk2_nil ?_
                    have hpart : part n ss q s 2 = max ov (bv + lv) := by rw [part_two hl2 hqn, HVAL.out, ← HOV.out, HV.out]
                    have HPART := Lib.hid hpart
                    have HIN := Lib.hid (show q * 4 + s < L.length by rw [HRW.out.1]; omega)
                    clear hpart
                    go_wp2_with fail
                    · have hmx : bv + lv = max ov (bv + lv) := by omega
                      have hV : (L.set (q * 4 + s) (bv + lv))[q * 4 + s]?.getD 0 = part n ss q s 2 := by rw [set_getD_eq _ _ _ HIN.out, HPART.out]; exact hmx
                      have HVV := Lib.hid hV
                      clear hmx hV
                      go_roundw
                      case rel =>
                        (repeat apply Exists.intro)
                        refine And.intro ?_ ?_
                        rotate_left
                        · (repeat' (first | exact rfl | apply And.intro))
                        exact ⟨2, _, by omega, rfl, (HT7.out.kept HQ.out).set _ _, HRW.out.put (by omega) _, HRO.out.put _, HVV.out, grown_set (HG7.out.trans HQ.out) (a := ⟨w.heap.size, q * 4 + s, none⟩) (Nat.le_refl _) _⟩
                      case measure => simp [intOf]
                    · have hmx : ov = max ov (bv + lv) := by omega
                      have hV : (L.set (q * 4 + s) ov)[q * 4 + s]?.getD 0 = part n ss q s 2 := by rw [set_getD_eq _ _ _ HIN.out, HPART.out]; exact hmx
                      have HVV := Lib.hid hV
                      clear hmx hV
                      go_roundw
                      case rel =>
                        (repeat apply Exists.intro)
                        refine And.intro ?_ ?_
                        rotate_left
                        · (repeat' (first | exact rfl | apply And.intro))
                        exact ⟨2, _, by omega, rfl, (HT7.out.kept HQ.out).set _ _, HRW.out.put (by omega) _, HRO.out.put _, HVV.out, grown_set (HG7.out.trans HQ.out) (a := ⟨w.heap.size, q * 4 + s, none⟩) (Nat.le_refl _) _⟩
                      case measure => simp [intOf]
                  · go_wp2_with fail
                    go_roundw
                    case rel => exact ⟨2, L, by omega, rfl, HT.out, HRW.out, HRO.out, by rw [HV.out]; exact (bestAt_tail hl2 (by omega) _).symm, HG.out⟩
                    case measure => simp [intOf]
                · go_wp2_with fail
                  go_roundw
                  case rel => exact ⟨s + 1, L, by omega, by go_num, HT.out, HRW.out, HRO.out.more HV.out, HG.out⟩
                  case measure => (simp [intOf] <;> omega)
            · obtain rfl : s = 4 := by omega
              go_wp2_with fail
              go_roundw
              case rel => exact ⟨q, L, by omega, by go_num, HT.out, HRW.out.next HRO.out, HG.out⟩
              case measure => (simp [intOf] <;> omega)
theorem decode_yes (a : Option Addr) (n cap : Nat) (ss : List Int) (w : World) (hr : Rd .i64 w a (2 * (n + 2)) ss) (hs : softOk ss) (h1 : 1 ≤ n) (h2 : n ≤ 2064) (hcap : 2 * (n + 2) ≤ cap) :
    Calls Tryd.prog 52 #[.slice a (2 * (n + 2)) cap, .int .i64 n] w (DecPost ss n w) := by
  refine (decode_cap a n cap ss w hr hs h1 h2 hcap).mono ?_
  rintro e w' ⟨a', cap', rfl, _, hr, hg⟩
  exact ⟨a', cap', rfl, hr, hg⟩
end Go.Proofs.YtcleegibdcphiaaDoor
