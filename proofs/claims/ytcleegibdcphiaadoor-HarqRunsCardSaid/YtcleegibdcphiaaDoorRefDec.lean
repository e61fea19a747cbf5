/- The reference's decoder of layer 28: its walk. -/
import Derived.Test.YtcleegibdcphiaaDoorRefTrace
import Derived.Test.YtcleegibdcphiaaDoorMemC
import Derived.Test.YtcleegibdcphiaaDoorRLen
import Derived.Test.YtcleegibdcphiaaDoorCodeDec
import Derived.Deep.Cut
import Derived.Deep.CutRange
namespace Go.Proofs.YtcleegibdcphiaaDoor
open Go.ChangeShapes Go.WideShapes Go.ChangeAt Go.RowKit
open Cod

theorem info_w4 : (Tryd.prog.info? 90).map (fun i => (i.zero, i.size, i.bytes)) = some (some (.agg (tcells wz).toArray), 16, 128) := by kernel_rfl
def OwnW (B : Nat) (w : World) (a : Option Addr) (n cap : Nat) (L : List (List Cod.Way)) : Prop := w.ownsRow B 90 16 (.slice a n cap) n (lcells L)
def WBlk (g : Nat) (T : List Cod.Way) (w : World) : Prop := w.heap[g]? = some (.cells (tcells T).toArray 90 (0, 0))
theorem WBlk.kept {g : Nat} {T : List Cod.Way} {w w' : World} (h : WBlk g T w) (hg : Gr w w') : WBlk g T w' := by
  unfold WBlk; rw [hg.block _ (heap_lt h) (by simp)]; exact h
theorem WBlk.cell {g : Nat} {T : List Cod.Way} {w : World} (h : WBlk g T w) (hT : T.length = 4) {s j : Nat} {v : Value} (hs : s < 4) (hj : j < 4) (hv : (wcl (at4 T s))[j]? = some v) : w.cell? ⟨g, s * 4 + j, none⟩ = some v := by
  rw [cell_of_block h, List.getElem?_toArray, tcells_at hT hs hj]; exact hv
theorem app_w (B : Nat) (w : World) (a : Option Addr) (n cap : Nat) (L : List (List Cod.Way)) (hown : OwnW B w a n cap L) (b : Addr) (hseg : Seg w (some b) (tcells wz)) (hn : n ≤ 1000000) (hB : B ≤ w.heap.size) :
    ∃ a' cap' w', (Builtin.append_ #[91, 91] 91 #[.slice a n cap, .slice (some b) 1 1]).run Tryd.prog w = .ok (.slice a' (n + 1) cap') w' ∧ OwnW B w' a' (n + 1) cap' (L ++ [wz]) ∧
      w.grownBy w' (Value.slice a n cap).ownBlock ∧ Follows w (.slice a n cap) (.slice a' (n + 1) cap') := by
  obtain ⟨i0, hi, hz0, hz1, hz2⟩ := info_parts info_w4
  obtain ⟨v', w', h1, h2, h3, h4, h5⟩ := run_app (P := Tryd.prog) B 91 91 90 i0 _ 16 128 Tryd.underlying91 hi hz0 hz1 hz2 rfl (by omega) w _ n _ hown (some b) 1 1 (tcells wz) rfl hseg (by decide) (by simp) (by simp only [maxLen]; omega) (by omega) hB
  have hv : ∃ a' cap', v' = .slice a' (n + 1) cap' := by
    rcases h2.2 with ⟨rfl, h0⟩ | ⟨g, cap', cur, rfl, _⟩
    · omega
    · exact ⟨_, _, rfl⟩
  obtain ⟨a', cap', rfl⟩ := hv
  refine ⟨a', cap', w', h1, ?_, h3, h4⟩
  unfold OwnW
  rw [show lcells (L ++ [wz]) = lcells L ++ tcells wz by simp [lcells]]
  exact h2
theorem OwnW.stay {B : Nat} {w w' : World} {a : Option Addr} {n cap : Nat} {L : List (List Cod.Way)} (h : OwnW B w a n cap L) (hg : Gr w w') : OwnW B w' a n cap L :=
  World.ownsRow.kept h hg (by cases hv : (Value.slice a n cap).ownBlock <;> simp)
theorem OwnW.seg {B : Nat} {w : World} {a : Option Addr} {n cap : Nat} {L : List (List Cod.Way)} (h : OwnW B w a n cap L) : Seg w a (lcells L) := by
  rcases h.2 with ⟨hv, h0⟩ | ⟨g, cap', cur, hv, hb, hg, hn, hm, hs, ht⟩
  · exact .inl (List.eq_nil_of_length_eq_zero (by have := h.1; omega))
  · injection hv with e1 e2 e3
    subst e1
    subst e3
    refine .inr ⟨g, 0, rfl, heap_lt hg, fun i hi => ?_⟩
    have hl := h.1
    rw [Nat.zero_add]
    exact World.ownsRow.cellAt h i (by omega)
theorem own_grown {w0 w1 w2 : World} {B : Nat} {e : TypeId} {size n : Nat} {v : Value} {xs : List Value} (h : Gr w0 w1) (ho : w1.ownsRow B e size v n xs) (hB : w0.heap.size ≤ B) (hg : w1.grownBy w2 v.ownBlock) : Gr w0 w2 := by
  refine grownBy_trans h hg ?_
  cases hv : v.ownBlock with
  | none => exact .inl rfl
  | some g => exact .inr (.inr ⟨g, rfl, by have := (ho.lt g hv).1; omega⟩)
theorem blk_kept {w w' : World} {g : Nat} {o : Obj} {r : Option Nat} (h : w.heap[g]? = some o) (hg : w.grownBy w' r) (hne : some g ≠ r) : w'.heap[g]? = some o := by
  rw [hg.block _ (heap_lt h) hne]; exact h
def MRel (n : Nat) (ss : List Int) (k gN : Nat) (L : List (List Cod.Way)) (T : List Cod.Way) (w3 : World) (t : Value) (wr : World) : Prop := ∃ (s : Nat) (N : List Cod.Way), s ≤ 4 ∧ t = .int .i64 s ∧ WOK (254 * (k + 1)) N ∧
  Step n ss L.reverse T N (fun s' x' => okPair n k s' x' ∧ s' < (s : Int)) ∧ WBlk gN N wr ∧ w3.grownBy wr (some gN)
def X28 (n : Nat) (ss : List Int) (k gN s : Nat) (L : List (List Cod.Way)) (T : List Cod.Way) (w3 : World) (t : Value) (wr : World) : Prop := ∃ (x : Nat) (N : List Cod.Way), x ≤ 2 ∧ t = .int .i64 x ∧ WOK (254 * (k + 1)) N ∧
  Step n ss L.reverse T N (fun s' x' => okPair n k s' x' ∧ (s' < (s : Int) ∨ (s' = (s : Int) ∧ x' < (x : Int)))) ∧ WBlk gN N wr ∧ w3.grownBy wr (some gN)
theorem pair_zero {n k : Nat} {s s' x' : Int} : (okPair n k s' x' ∧ (s' < s ∨ (s' = s ∧ x' < ((0 : Nat) : Int)))) ↔ (okPair n k s' x' ∧ s' < s) := by
  constructor
  · rintro ⟨h, h1 | ⟨_, h1⟩⟩
    · exact ⟨h, h1⟩
    · have := h.2; omega
  · rintro ⟨h, h1⟩; exact ⟨h, .inl h1⟩
theorem pair_two {n k : Nat} {s : Nat} {s' x' : Int} : (okPair n k s' x' ∧ s' < ((s + 1 : Nat) : Int)) ↔ (okPair n k s' x' ∧ (s' < (s : Int) ∨ (s' = (s : Int) ∧ x' < ((2 : Nat) : Int)))) := by
  constructor
  · rintro ⟨h, h1⟩
    refine ⟨h, ?_⟩
    have := h.2
    omega
  · rintro ⟨h, h1⟩; exact ⟨h, by omega⟩
theorem pair_one {n k : Nat} (hk : ¬ k < n) {s : Nat} {s' x' : Int} : (okPair n k s' x' ∧ s' < ((s + 1 : Nat) : Int)) ↔ (okPair n k s' x' ∧ (s' < (s : Int) ∨ (s' = (s : Int) ∧ x' < ((1 : Nat) : Int)))) := by
  constructor
  · rintro ⟨h, h1⟩
    refine ⟨h, ?_⟩
    have := h.2
    omega
  · rintro ⟨h, h1⟩; exact ⟨h, by omega⟩
theorem pair_next {n k : Nat} {s x : Nat} (hx : okPair n k s x) {s' x' : Int} : (okPair n k s' x' ∧ (s' < (s : Int) ∨ (s' = (s : Int) ∧ x' < ((x + 1 : Nat) : Int)))) ↔ ((okPair n k s' x' ∧ (s' < (s : Int) ∨ (s' = (s : Int) ∧ x' < (x : Int)))) ∨ (s' = (s : Int) ∧ x' = (x : Int))) := by
  constructor
  · rintro ⟨h, h1⟩
    by_cases h2 : s' = (s : Int) ∧ x' = (x : Int)
    · exact .inr h2
    · refine .inl ⟨h, ?_⟩
      have := h.2; have := hx.2
      omega
  · rintro (⟨h, h1⟩ | ⟨rfl, rfl⟩)
    · exact ⟨h, by omega⟩
    · exact ⟨hx, by omega⟩
theorem pair_all {n k : Nat} {s' x' : Int} : okPair n k s' x' ↔ (okPair n k s' x' ∧ s' < ((4 : Nat) : Int)) :=
  ⟨fun h => ⟨h, by have := h.1; unfold isSt at this; omega⟩, fun h => h.1⟩
theorem sign_is {v c c' r : Int} (hc : c' = c) (h : sgn v c = r) (w : World) (hv : -127 ≤ v ∧ v ≤ 127) : Calls Tryd.prog 68 #[.int .i64 v, .int .i64 c'] w fun e w' => e = .returned (.int .i64 r) ∧ w = w' := by
  subst hc; exact h ▸ sign_any v _ w hv
theorem tcells_set {N : List Cod.Way} (h : N.length = 4) {t : Nat} (ht : t < 4) (x : Cod.Way) : setM (tcells N) (t * 4) (wcl x) = tcells (N.set t x) := by
  obtain ⟨a, b, c, d, rfl⟩ := list4 h
  have h4 : t = 0 ∨ t = 1 ∨ t = 2 ∨ t = 3 := by omega
  rcases h4 with rfl | rfl | rfl | rfl <;> rfl
theorem wok_set {c : Int} {N : List Cod.Way} (h : WOK c N) {t : Nat} (ht : t < 4) {x : Cod.Way} (hf : isSt x.f) (hb : x.b = 0 ∨ x.b = 1) (h1 : -c ≤ x.m) (h2 : x.m ≤ c) : WOK c (N.set t x) := by
  refine ⟨by simp [h.1], fun r hr => ?_⟩
  have e := at4_set (w := x) (isSt_nat ht) hr h.1
  rw [show ((t : Int)).toNat = t by omega] at e
  rw [e]
  split
  · exact ⟨hf, hb, h1, h2⟩
  · exact h.2 r hr
def ORel (n : Nat) (ss : List Int) (w : World) (y i : Value) (wr : World) : Prop := ∃ (a : Option Addr) (cap k : Nat) (L : List (List Cod.Way)) (T : List Cod.Way), k ≤ n + 2 ∧ y = .slice a k cap ∧ i = .int .i64 k ∧ L.length = k ∧ OwnW (w.heap.size + 1) wr a k cap L ∧
  (∀ T ∈ L, WOK 1000000 T) ∧ WOK (254 * k) T ∧ Best n ss L.reverse T ∧ WBlk w.heap.size T wr ∧ Gr w wr
theorem wok0 : WOK 0 T0 := by
  refine ⟨rfl, fun r hr => ?_⟩
  rcases hr with rfl | rfl | rfl | rfl <;> simp [at4, T0, Way.zero, isSt]
theorem wokz (c : Int) (h : 0 ≤ c) : WOK c wz := by
  refine ⟨rfl, fun r hr => ?_⟩
  rcases hr with rfl | rfl | rfl | rfl <;> (simp [at4, wz, Way.zero, isSt]; try omega)
theorem trace_is {i z : Int} {n s : Nat} (hi : i = n) (hz : z = s) (a : Option Addr) (len cap : Nat) (L : List (List Cod.Way)) (c : Int) (w : World) (hseg : Seg w a (lcells L)) (hL : L.length = len) (hok : ∀ T ∈ L, WOK c T) (hn : n ≤ len) (hs : s < 4) (hlen : len ≤ 100000) :
    Calls Tryd.prog 70 #[.slice a len cap, .int .i64 i, .int .i64 z] w (TrPost w n (tr (L.take n).reverse s)) := by
  subst hi
  subst hz
  exact trace_any a len cap L n s c w hseg hL hok hn hs hlen
set_option maxRecDepth 100000 in
set_option maxHeartbeats 40000000 in
theorem rdecode_yes (a : Option Addr) (n cap : Nat) (ss : List Int) (w : World) (hr : Rd .i64 w a (2 * (n + 2)) ss) (hs : softOk ss) (h1 : 1 ≤ n) (h2 : n ≤ 2064) :
    Calls Tryd.prog 58 #[.slice a (2 * (n + 2)) cap, .int .i64 n] w (DecPost ss n w) := by
  obtain ⟨b, off, rfl, hb, hc⟩ := hr.some (by omega)
  have hlen : lenS n = 2 * ((n : Int) + 2) := by unfold lenS; rw [if_pos (by omega)]
  have hlz : (2 * ((n : Int) + 2) == 0) = false := by simp; omega
  have HR := Lib.hid hr
  have HS := Lib.hid hs
  have HC := Lib.hid hc
  have HL := Lib.hid hr.1
  have HLEN := Lib.hid hlen
  clear hr hs hc hlen
  go_enter Tryd.func58, Tryd.ntmps58
  go_wp2_with (first | ((go_at_call 31; refine (rlength_is HLEN.out _).mono ?_; rintro e w' ⟨rfl, rfl⟩)) | ((go_at_call 56; refine (soft_any _ _ _ ss _ HR.out HS.out).mono ?_; rintro e w' ⟨rfl, rfl⟩)))
  go_loopw [7, 8] (fun y i wr => ORel n ss w y i wr) (fun _ i _ => n + 2 - (intOf i).toNat)
  case atStart => exact ⟨none, 0, 0, [], T0, by omega, rfl, rfl, rfl, World.ownsRow_nil _ _ _ _, by simp, wok0, best_start n ss, heap_alloc_new _ _, Gr.alloc _ _⟩
  case round =>
    obtain ⟨ay, cy, k, L, T, hk, rfl, rfl, hLL, hown, hLok, hTok, hbest, hblk, hg⟩ := hrel
    have HLL := Lib.hid hLL
    have HOWN := Lib.hid hown
    have HLOK := Lib.hid hLok
    have HTOK := Lib.hid hTok
    have HBEST := Lib.hid hbest
    have HBLK := Lib.hid hblk
    have HG := Lib.hid hg
    clear hLL hown hLok hTok hbest hblk hg
    by_cases hlt : k < n + 2
    · have hdk : decide ((k : Int) < (n : Int) + 2) = true := by rw [decide_eq_true_eq]; omega
      go_upto_region 12 with (fail)
      obtain ⟨w1, hw1⟩ : ∃ y, y = wr.alloc (.cells (tcells wz).toArray 90) := ⟨_, rfl⟩
      have hg1 : Gr wr w1 := by rw [hw1]; exact Gr.alloc _ _
      have hb1 : WBlk wr.heap.size wz w1 := by rw [hw1]; exact heap_alloc_new _ _
      have hs1 : w1.heap.size = wr.heap.size + 1 := by rw [hw1]; simp
      have hw1' := hw1
      simp only [tcells, wz, wcl, Way.zero, List.flatMap_cons, List.flatMap_nil, List.cons_append, List.nil_append] at hw1'
      rw [← hw1']
      -- the append
      obtain ⟨w2, hw2⟩ : ∃ y, y = w1.alloc (.cells (tcells wz).toArray 90) := ⟨_, rfl⟩
      have hg2 : Gr w1 w2 := by rw [hw2]; exact Gr.alloc _ _
      have hseg2 : Seg w2 (some ⟨w1.heap.size, 0, none⟩) (tcells wz) := by
        refine .inr ⟨_, 0, rfl, by rw [hw2]; simp, fun i hi => ?_⟩
        rw [hw2, Nat.zero_add, cell_new, List.getElem?_toArray]
      obtain ⟨a3, c3, w3, hrun3, hown3, hg3, hf3⟩ := app_w (w.heap.size + 1) w2 ay k cy L ((HOWN.out.stay hg1).stay hg2) ⟨w1.heap.size, 0, none⟩ hseg2 (by omega) (by have h3 := HG.out.size; have h4 := hg1.size; have h5 := hg2.size; have h6 := hs1; omega)
      have hrun3' := hrun3
      rw [hw2] at hrun3'
      simp only [tcells, wz, wcl, Way.zero, List.flatMap_cons, List.flatMap_nil, List.cons_append, List.nil_append] at hrun3'
      have hgw1 := HG.out.trans hg1
      have hgw2 := hgw1.trans hg2
      have hgw3 : Gr w w3 := own_grown hgw2 ((HOWN.out.stay hg1).stay hg2) (by omega) hg3
      have hlast3 : WBlk w.heap.size T w3 := blk_kept ((HBLK.out.kept hg1).kept hg2) hg3 (by
        intro e
        have := World.ownsRow.lt HOWN.out w.heap.size e.symm
        omega)
      have hnext3 : WBlk wr.heap.size wz w3 := blk_kept (hb1.kept hg2) hg3 (by
        intro e
        have := World.ownsRow.lt HOWN.out wr.heap.size e.symm
        omega)
      have hap3 : ∀ g, (Value.slice a3 (k + 1) c3).ownBlock = some g → g ≠ wr.heap.size := by
        intro g hg e
        subst e
        rcases hf3 with h | ⟨g', h, hg'⟩
        · rw [h] at hg
          have := World.ownsRow.lt HOWN.out _ hg
          omega
        · rw [h] at hg
          injection hg with hg
          have := hg2.size
          omega
      have HGW3 := Lib.hid hgw3
      have HLAST3 := Lib.hid hlast3
      have HNEXT3 := Lib.hid hnext3
      have HAP3 := Lib.hid hap3
      have HOWN3 := Lib.hid hown3
      have HR3 := Lib.hid hrun3'
      have hb1' := hb1
      unfold WBlk at hb1'
      have HB1 := Lib.hid hb1
      have HB1' := Lib.hid hb1'
      have HS1 := Lib.hid hs1
      clear hw1 hw1' hrun3 hrun3' hw2 hg2 hseg2 hb1 hb1' hs1 hg1 hgw1 hgw2 hgw3 hlast3 hnext3 hap3 hown3 hg3 hf3
      go_wp2_with (first | (refine wpList_load_row rfl 90 _ rfl wr.heap.size rfl 90 _ _ _ HB1'.out Tryd.underlying90 rfl (by as_aux_lemma => kernel_rfl) ?_; simp only [tcells, wz, wcl, Way.zero, List.flatMap_cons, List.flatMap_nil, List.cons_append, List.nil_append]) | (at_builtin; refine wpList_app rfl _ _ _ rfl rfl rfl HR3.out ?_))
      obtain ⟨wo, rfl⟩ : ∃ wo : World, wo = wr := ⟨_, rfl⟩
      go_loopw [10] (fun t wr => MRel n ss k wo.heap.size L T w3 t wr) (fun t _ => 4 - (intOf t).toNat)
      case atStart => exact ⟨0, wz, by omega, rfl, wokz _ (by omega), step_none n ss _ T _ (fun s x h => by have := h.1.1; have := h.2; unfold isSt at *; omega), HNEXT3.out, grownBy_refl _ _⟩
      case round =>
        clear HR3 HB1 HB1' HS1
        obtain ⟨s, N, hs4, rfl, hNok, hstep, hnb, hgr⟩ := hrel
        have HNOK := Lib.hid hNok
        have HSTEP := Lib.hid hstep
        have HNB := Lib.hid hnb
        have HGR := Lib.hid hgr
        clear hNok hstep hnb hgr
        by_cases hs : s < 4
        · obtain ⟨ia, hia⟩ : ∃ q : Nat, (s : Int) / 2 = q := ⟨s / 2, by omega⟩
          have hia2 : ia < 2 := by omega
          have hds : decide ((s : Int) < 4) = true := by rw [decide_eq_true_eq]; omega
          go_wp2_with fail
          have HIA := Lib.hid hia
          clear hia
          go_loopw [13] (fun t wr => X28 n ss k wo.heap.size s L T w3 t wr) (fun t _ => 2 - (intOf t).toNat)
          case atStart => exact ⟨0, N, by omega, rfl, HNOK.out, step_same HSTEP.out (fun s x => pair_zero), HNB.out, HGR.out⟩
          case round =>
            clear HNOK HSTEP HNB HGR
            obtain ⟨x, N, hx2, rfl, hNok, hstep, hnb, hgr⟩ := hrel
            have HNOK := Lib.hid hNok
            have HSTEP := Lib.hid hstep
            have HNB := Lib.hid hnb
            have HGR := Lib.hid hgr
            have hlast : WBlk w.heap.size T wr := blk_kept HLAST3.out hgr (by have := HG.out.size; have := heap_lt HBLK.out; simp; omega)
            have HLAST := Lib.hid hlast
            clear hNok hstep hnb hgr
            obtain ⟨ms, hms⟩ : ∃ v, (at4 T s).m = v := ⟨_, rfl⟩
            have hmr := (HTOK.out.2 s (isSt_nat hs)).2.2
            rw [hms] at hmr
            obtain ⟨hm1, hm2⟩ := hmr
            have HMS := Lib.hid hms
            by_cases hx3 : x = 2
            · subst hx3
              go_wp2_with fail
              go_roundw
              case rel => exact ⟨s + 1, N, by omega, by go_num, HNOK.out, step_same HSTEP.out (fun s x => pair_two), HNB.out, HGR.out⟩
              case measure => (simp [intOf] <;> omega)
            · cases hth : (at4 T s).t
              · have y_t := hlast.cell HTOK.out.1 (s := s) (j := 0) (v := .bool false) hs (by omega) (by simp [wcl, hth])
                rw [Nat.add_zero] at y_t
                clear hlast hms
                have hx4 : x = 0 ∨ x = 1 := by omega
                have HX4 := Lib.hid hx4
                have HTH := Lib.hid hth
                clear hth
                have hstp : Step n ss L.reverse T N (fun s' x' => okPair n k s' x' ∧ s' < ((s + 1 : Nat) : Int)) := Cod.step_skip HSTEP.out HTH.out (fun s' x' h => ⟨h.1, by have := h.2; omega⟩) (fun s' x' h => by
                  by_cases h5 : s' = (s : Int)
                  · exact .inr h5
                  · exact .inl ⟨h.1, .inl (by have := h.2; omega)⟩)
                have HSTP := Lib.hid hstp
                clear hstp
                have hdx : decide ((x : Int) < 2) = true := by rw [decide_eq_true_eq]; omega
                go_wp2_with fail
                go_roundw
                case rel => exact ⟨s + 1, N, by omega, by go_num, HNOK.out, HSTP.out, HNB.out, HGR.out⟩
                case measure => (simp [intOf] <;> omega)
              · have y_t := hlast.cell HTOK.out.1 (s := s) (j := 0) (v := .bool true) hs (by omega) (by simp [wcl, hth])
                rw [Nat.add_zero] at y_t
                have hl2 : 2 * k + 1 < ss.length := by rw [HL.out]; omega
                obtain ⟨q0, hq0⟩ : ∃ v, ss[2 * k]?.getD 0 = v := ⟨_, rfl⟩
                obtain ⟨q1, hq1⟩ : ∃ v, ss[2 * k + 1]?.getD 0 = v := ⟨_, rfl⟩
                have r0 : -127 ≤ q0 ∧ q0 ≤ 127 := by rw [← hq0]; exact HS.out _ (by simp [show 2 * k < ss.length by omega])
                have r1 : -127 ≤ q1 ∧ q1 ≤ 127 := by rw [← hq1]; exact HS.out _ (by simp [hl2])
                have HR01 := Lib.hid (And.intro r0 r1)
                have hgw : Gr w wr := grownBy_trans HGW3.out HGR.out (.inr (.inr ⟨_, rfl, HG.out.size⟩))
                have s_0 : ∀ u, Gr wr u → u.cell? ⟨b, off + 2 * k, none⟩ = some (.int .i64 q0) := fun u hu => by rw [← hq0]; exact (hgw.trans hu).cell (HC.out (2 * k) (by omega))
                have s_1 : ∀ u, Gr wr u → u.cell? ⟨b, off + (2 * k + 1), none⟩ = some (.int .i64 q1) := fun u hu => by rw [← hq1]; exact (hgw.trans hu).cell (HC.out (2 * k + 1) (by omega))
                have y_m : ∀ u, Gr wr u → u.cell? ⟨w.heap.size, s * 4 + 1, none⟩ = some (.int .i64 ms) := fun u hu => hu.cell (hlast.cell HTOK.out.1 (s := s) (j := 1) hs (by omega) (by simp [wcl, hms]))
                have HTH := Lib.hid hth
                have HQ0 := Lib.hid hq0
                have HQ1 := Lib.hid hq1
                have HGW := Lib.hid hgw
                have S0 := Lib.hid s_0
                have S1 := Lib.hid s_1
                have YM := Lib.hid y_m
                clear hth hlast hms hl2 hq0 hq1 r0 r1 hgw s_0 s_1 y_m
                have hdx : decide ((x : Int) < 2) = true := by rw [decide_eq_true_eq]; omega
                by_cases hkn : k < n
                · have hdn : decide ((k : Int) < (n : Int)) = true := by rw [decide_eq_true_eq]; omega
                  as_aux_lemma =>
                  obtain ⟨tt, hTT⟩ : ∃ tt : Nat, 2 * (x : Int) + (ia : Int) = (tt : Int) := ⟨2 * x + ia, by omega⟩
                  obtain ⟨v0, hv0⟩ : ∃ v, sgn q0 (p0 s ((x : Nat) : Int)) = v := ⟨_, rfl⟩
                  obtain ⟨v1, hv1⟩ : ∃ v, sgn q1 (p1 s ((x : Nat) : Int)) = v := ⟨_, rfl⟩
                  have b0 : -127 ≤ v0 ∧ v0 ≤ 127 := by have := HR01.out.1; rw [← hv0]; unfold sgn; split <;> omega
                  have b1 : -127 ≤ v1 ∧ v1 ≤ 127 := by have := HR01.out.2; rw [← hv1]; unfold sgn; split <;> omega
                  obtain ⟨b01, b02⟩ := b0
                  obtain ⟨b11, b12⟩ := b1
                  have hcand : cand ss L.reverse T s ((x : Nat) : Int) = ms + v0 + v1 := by
                    unfold cand gain
                    rw [HMS.out, List.length_reverse, HLL.out, HQ0.out, HQ1.out, hv0, hv1]
                    omega
                  have HCAND := Lib.hid hcand
                  have HV0 := Lib.hid hv0
                  have HV1 := Lib.hid hv1
                  clear hcand hv0 hv1
                  go_wp2_with fail
                  have s_0 := S0.out
                  have s_1 := S1.out
                  have y_m := YM.out
                  refine Sched.wp_region_sched 29 [] [] (by as_aux_lemma => kernel_rfl) (by as_aux_lemma => kernel_rfl) ?_
                  simp only [List.take_succ_cons, List.take_zero, List.drop_succ_cons, List.drop_zero]
                  repeat (first | ((with_reducible refine Sched.walk1_no ?_ ?_ (fun K hK => ?_)); (focus rfl); (focus rfl); simp only [Act.put, List.setIfInBounds_toArray, List.set_cons_zero, List.set_cons_succ]; refine hK _ ?_; clear hK K) | ((with_reducible refine Sched.walk1_gr ?_ ?_ ?_ (fun K hK => ?_)); (focus rfl); (focus rfl); (focus rfl); apply Exists.intro; refine ⟨fun w1 hw1 => ?_, ?_⟩; (focus (go_simp; (try go_ints); (try (simp only [IntWalk.iteOmega]; go_simp)); first | done | (first | (go_at_call 68; (with_reducible refine gr_same (sign_is ?_ HV0.out _ HR01.out.1)); (have := HIA.out; unfold p0; omega)) | (go_at_call 68; (with_reducible refine gr_same (sign_is ?_ HV1.out _ HR01.out.2)); (unfold p1; omega))) | (with_reducible rfl) | (with_reducible exact ⟨rfl, rfl⟩))); simp only [Act.put, List.setIfInBounds_toArray, List.set_cons_zero, List.set_cons_succ]; refine hK _ ?_; clear hK K) | ((with_reducible refine Sched.walk1_pure ?_ ?_ ?_ (fun K hK => ?_)); (focus rfl); (focus rfl); (focus rfl); apply Exists.intro; refine ⟨fun w1 => ?_, ?_⟩; (focus (go_simp; (try go_ints); (try (simp only [IntWalk.iteOmega]; go_simp)); first | done | (with_reducible rfl) | (with_reducible exact ⟨rfl, rfl⟩))); simp only [Act.put, List.setIfInBounds_toArray, List.set_cons_zero, List.set_cons_succ]; refine hK _ ?_; clear hK K) | (refine Sched.walk1_box rfl rfl ?_; apply Exists.intro; refine ⟨fun w1 hw1 => ?_, ?_⟩; (focus (go_simp; exact ⟨Gr.alloc _ _, rfl, by simp, heap_alloc_new _ _⟩))))
                  refine Sched.walk1_nil ?_
                  intro wq hwq
                  clear s_0 s_1 y_m
                  have HWQ := Lib.hid hwq
                  clear hwq
                  dsimp only [Sched.EndN, List.nil_append, List.cons_append, Act.put]
                  (try simp only [List.setIfInBounds_toArray, List.set_cons_zero, List.set_cons_succ])
                  repeat (first | (refine Sched.walk2_no rfl (fun K hK => ?_); simp only [Act.put, List.setIfInBounds_toArray, List.set_cons_zero, List.set_cons_succ]; refine hK _ ?_; clear hK K) | (refine Sched.walk2_go rfl (fun K hK => ?_); go_simp; (try go_ints); (try (simp only [IntWalk.iteOmega]; go_simp)); first | (refine hK _ _ ?_; clear hK K) | fail))
                  refine Sched.walk2_nil ?_
                  go_upto_region 23 with (fail)
                  have hss : isSt (s : Int) := isSt_nat hs
                  have htt : rx s ((x : Nat) : Int) = ((tt : Nat) : Int) := by have := HIA.out; unfold rx; omega
                  have ht4 : tt < 4 := by omega
                  have hin := HNOK.out.2 ((tt : Nat) : Int) (isSt_nat ht4)
                  obtain ⟨nt, hnt⟩ : ∃ v, (at4 N ((tt : Nat) : Int)).t = v := ⟨_, rfl⟩
                  obtain ⟨nm, hnm⟩ : ∃ v, (at4 N ((tt : Nat) : Int)).m = v := ⟨_, rfl⟩
                  obtain ⟨nb, hnb0⟩ : ∃ v, (at4 N ((tt : Nat) : Int)).b = v := ⟨_, rfl⟩
                  obtain ⟨nf, hnf4, hnf⟩ := isSt_to hin.1
                  have hbet : better ss L.reverse T N s ((x : Nat) : Int) = (!nt || decide (nm < ms + v0 + v1) || (ms + v0 + v1 == nm && lessL (tr L.reverse s ++ [((x : Nat) : Int)]) (tr L.reverse nf ++ [nb]))) := by
                    unfold better
                    rw [htt, HCAND.out, hnt, hnm, hnb0, hnf]
                  have hinb := hin.2.1
                  have hinm := hin.2.2
                  rw [hnb0] at hinb
                  rw [hnm] at hinm
                  obtain ⟨hnm1, hnm2⟩ := hinm
                  obtain ⟨E, hE⟩ : ∃ E, better ss L.reverse T N s ((x : Nat) : Int) = E := ⟨_, rfl⟩
                  rw [hE] at hbet
                  obtain ⟨w5, hw5⟩ : ∃ y, y = wq.alloc (.cells #[.bool true, .int .i64 (ms + v0 + v1), .int .i64 s, .int .i64 ((x : Nat) : Int)] 89) := ⟨_, rfl⟩
                  rw [← hw5]
                  have hg5 : Gr wr w5 := by rw [hw5]; exact HWQ.out.trans (Gr.alloc _ _)
                  have hb5 : w5.heap[wq.heap.size]? = some (.cells #[.bool true, .int .i64 (ms + v0 + v1), .int .i64 s, .int .i64 ((x : Nat) : Int)] 89 (0, 0)) := by rw [hw5]; exact heap_alloc_new _ _
                  have hnb5 := HNB.out.kept hg5
                  have y_0 : ∀ u, Gr w5 u → u.cell? ⟨wo.heap.size, (tt) * 4, none⟩ = some (.bool nt) := fun u hu => hu.cell (hnb5.cell HNOK.out.1 (s := tt) (j := 0) ht4 (by omega) (by rw [← hnt]; rfl))
                  have y_1 : ∀ u, Gr w5 u → u.cell? ⟨wo.heap.size, (tt) * 4 + 1, none⟩ = some (.int .i64 nm) := fun u hu => hu.cell (hnb5.cell HNOK.out.1 (s := tt) (j := 1) ht4 (by omega) (by rw [← hnm]; rfl))
                  have y_2 : ∀ u, Gr w5 u → u.cell? ⟨wo.heap.size, (tt) * 4 + 2, none⟩ = some (.int .i64 nf) := fun u hu => hu.cell (hnb5.cell HNOK.out.1 (s := tt) (j := 2) ht4 (by omega) (by rw [← hnf]; rfl))
                  have y_3 : ∀ u, Gr w5 u → u.cell? ⟨wo.heap.size, (tt) * 4 + 3, none⟩ = some (.int .i64 nb) := fun u hu => hu.cell (hnb5.cell HNOK.out.1 (s := tt) (j := 3) ht4 (by omega) (by rw [← hnb0]; rfl))
                  have HG5 := Lib.hid hg5
                  have HB5 := Lib.hid hb5
                  have HNB5 := Lib.hid hnb5
                  have HEE := Lib.hid hE
                  have HBET := Lib.hid hbet
                  have HTT := Lib.hid htt
                  have HSS := Lib.hid hss
                  have HINB := Lib.hid hinb
                  have Y0 := Lib.hid y_0
                  have Y1 := Lib.hid y_1
                  have Y2 := Lib.hid y_2
                  have Y3 := Lib.hid y_3
                  clear hw5 hg5 hb5 hnb5 hE hbet htt hss hin hinb hnt hnm hnb0 hnf y_0 y_1 y_2 y_3
                  go_cut [151] from 108 to 151 (fun s wc => s = .bool E ∧ Gr w5 wc)
                  case first =>
                    cases nt
                    · as_aux_lemma =>
                      have hE2 : E = true := HBET.out
                      subst hE2
                      have y_0 := Y0.out
                      have y_1 := Y1.out
                      refine Sched.wp_region_sched 43 [] [] (by as_aux_lemma => kernel_rfl) (by as_aux_lemma => kernel_rfl) ?_
                      simp only [List.take_succ_cons, List.take_zero, List.drop_succ_cons, List.drop_zero]
                      repeat (first | ((with_reducible refine Sched.walk1_no ?_ ?_ (fun K hK => ?_)); (focus rfl); (focus rfl); simp only [Act.put, List.setIfInBounds_toArray, List.set_cons_zero, List.set_cons_succ]; refine hK _ ?_; clear hK K) | ((with_reducible refine Sched.walk1_gr ?_ ?_ ?_ (fun K hK => ?_)); (focus rfl); (focus rfl); (focus rfl); apply Exists.intro; refine ⟨fun w1 hw1 => ?_, ?_⟩; (focus (go_simp; (try go_ints); (try (simp only [IntWalk.iteOmega]; go_simp)); first | done | fail | (with_reducible rfl) | (with_reducible exact ⟨rfl, rfl⟩))); simp only [Act.put, List.setIfInBounds_toArray, List.set_cons_zero, List.set_cons_succ]; refine hK _ ?_; clear hK K) | ((with_reducible refine Sched.walk1_pure ?_ ?_ ?_ (fun K hK => ?_)); (focus rfl); (focus rfl); (focus rfl); apply Exists.intro; refine ⟨fun w1 => ?_, ?_⟩; (focus (go_simp; (try go_ints); (try (simp only [IntWalk.iteOmega]; go_simp)); first | done | (with_reducible rfl) | (with_reducible exact ⟨rfl, rfl⟩))); simp only [Act.put, List.setIfInBounds_toArray, List.set_cons_zero, List.set_cons_succ]; refine hK _ ?_; clear hK K) | (refine Sched.walk1_box rfl rfl ?_; apply Exists.intro; refine ⟨fun w1 hw1 => ?_, ?_⟩; (focus (go_simp; exact ⟨Gr.alloc _ _, rfl, by simp, heap_alloc_new _ _⟩))))
                      (with_reducible refine Sched.walk1_nil ?_)
                      intro wq hwq
                      clear y_0 y_1
                      have HWX := Lib.hid hwq
                      clear hwq
                      dsimp only [Sched.EndN, List.nil_append, List.cons_append, Act.put]
                      (try simp only [List.setIfInBounds_toArray, List.set_cons_zero, List.set_cons_succ])
                      repeat (first | (refine Sched.walk2_no rfl (fun K hK => ?_); simp only [Act.put, List.setIfInBounds_toArray, List.set_cons_zero, List.set_cons_succ]; refine hK _ ?_; clear hK K) | (refine Sched.walk2_go rfl (fun K hK => ?_); go_simp; (try go_ints); (try (simp only [IntWalk.iteOmega]; go_simp)); first | (refine hK _ _ ?_; clear hK K) | fail))
                      refine Sched.walk2_nil ?_
                      go_wp2_with fail
                      go_meet
                      exact ⟨rfl, HWX.out⟩
                    · by_cases hc1 : nm < ms + v0 + v1
                      · as_aux_lemma =>
                        have hE2 : E = true := by rw [HBET.out, decide_eq_true hc1]; rfl
                        subst hE2
                        have y_0 := Y0.out
                        have y_1 := Y1.out
                        refine Sched.wp_region_sched 43 [] [] (by as_aux_lemma => kernel_rfl) (by as_aux_lemma => kernel_rfl) ?_
                        simp only [List.take_succ_cons, List.take_zero, List.drop_succ_cons, List.drop_zero]
                        repeat (first | ((with_reducible refine Sched.walk1_no ?_ ?_ (fun K hK => ?_)); (focus rfl); (focus rfl); simp only [Act.put, List.setIfInBounds_toArray, List.set_cons_zero, List.set_cons_succ]; refine hK _ ?_; clear hK K) | ((with_reducible refine Sched.walk1_gr ?_ ?_ ?_ (fun K hK => ?_)); (focus rfl); (focus rfl); (focus rfl); apply Exists.intro; refine ⟨fun w1 hw1 => ?_, ?_⟩; (focus (go_simp; (try go_ints); (try (simp only [IntWalk.iteOmega]; go_simp)); first | done | fail | (with_reducible rfl) | (with_reducible exact ⟨rfl, rfl⟩))); simp only [Act.put, List.setIfInBounds_toArray, List.set_cons_zero, List.set_cons_succ]; refine hK _ ?_; clear hK K) | ((with_reducible refine Sched.walk1_pure ?_ ?_ ?_ (fun K hK => ?_)); (focus rfl); (focus rfl); (focus rfl); apply Exists.intro; refine ⟨fun w1 => ?_, ?_⟩; (focus (go_simp; (try go_ints); (try (simp only [IntWalk.iteOmega]; go_simp)); first | done | (with_reducible rfl) | (with_reducible exact ⟨rfl, rfl⟩))); simp only [Act.put, List.setIfInBounds_toArray, List.set_cons_zero, List.set_cons_succ]; refine hK _ ?_; clear hK K) | (refine Sched.walk1_box rfl rfl ?_; apply Exists.intro; refine ⟨fun w1 hw1 => ?_, ?_⟩; (focus (go_simp; exact ⟨Gr.alloc _ _, rfl, by simp, heap_alloc_new _ _⟩))))
                        (with_reducible refine Sched.walk1_nil ?_)
                        intro wq hwq
                        clear y_0 y_1
                        have HWX := Lib.hid hwq
                        clear hwq
                        dsimp only [Sched.EndN, List.nil_append, List.cons_append, Act.put]
                        (try simp only [List.setIfInBounds_toArray, List.set_cons_zero, List.set_cons_succ])
                        repeat (first | (refine Sched.walk2_no rfl (fun K hK => ?_); simp only [Act.put, List.setIfInBounds_toArray, List.set_cons_zero, List.set_cons_succ]; refine hK _ ?_; clear hK K) | (refine Sched.walk2_go rfl (fun K hK => ?_); go_simp; (try go_ints); (try (simp only [IntWalk.iteOmega]; go_simp)); first | (refine hK _ _ ?_; clear hK K) | fail))
                        refine Sched.walk2_nil ?_
                        go_wp2_with fail
                        go_meet
                        exact ⟨rfl, HWX.out⟩
                      · by_cases hc2 : ms + v0 + v1 = nm
                        · as_aux_lemma =>
                          obtain ⟨F, hF⟩ : ∃ F, lessL (tr L.reverse s ++ [((x : Nat) : Int)]) (tr L.reverse nf ++ [nb]) = F := ⟨_, rfl⟩
                          have hE2 : E = F := by rw [HBET.out, decide_eq_false hc1, hc2, hF]; simp
                          subst hE2
                          have hcb1 : decide (nm < ms + v0 + v1) = false := decide_eq_false hc1
                          have hcb2 : (ms + v0 + v1 == nm) = true := by simpa using hc2
                          have HF := Lib.hid hF
                          clear hc2
                          have hownr : OwnW (w.heap.size + 1) wr a3 (k + 1) c3 (L ++ [wz]) := World.ownsRow.kept HOWN3.out HGR.out (by
                            cases hv : (Value.slice a3 (k + 1) c3).ownBlock with
                            | none => exact .inl rfl
                            | some g => exact .inr (by have := HAP3.out g hv; simpa using this))
                          have HOWNR := Lib.hid (hownr.stay HG5.out)
                          have hLk2 : ∀ T ∈ L ++ [wz], WOK 1000000 T := by
                            intro X hX
                            rcases List.mem_append.1 hX with hX | hX
                            · exact HLOK.out X hX
                            · simp at hX; subst hX; exact wokz _ (by omega)
                          have HLK2 := Lib.hid hLk2
                          have HLT := Lib.hid (show ((L ++ [wz]).take k).reverse = L.reverse by rw [List.take_left' HLL.out])
                          have HNB2 := Lib.hid (show i64 nb by have := HINB.out; constructor <;> omega)
                          clear hF hownr hLk2
                          have y_0 := Y0.out
                          have y_1 := Y1.out
                          have y_2 := Y2.out
                          have y_3 := Y3.out
                          refine SchedD.wp_region_schedd 44 [] [24, 26, 27, 34, 39, 40] (SchedD.nsel [(24, NFull k (tr L.reverse s)), (26, NOne .i64 3 ((x : Nat) : Int)), (27, NRd (k + 1) (tr L.reverse s ++ [((x : Nat) : Int)])), (34, NFull k (tr L.reverse nf)), (39, NOne .i64 3 nb), (40, NRd (k + 1) (tr L.reverse nf ++ [nb]))]) [(27, [(24, 132), (26, 134)]), (40, [(34, 142), (39, 147)]), (41, [(27, 135), (40, 148)])] (by as_aux_lemma => kernel_rfl) (by as_aux_lemma => kernel_rfl) ?_
                          simp only [List.take_succ_cons, List.take_zero, List.drop_succ_cons, List.drop_zero]
                          repeat (first | ((with_reducible refine SchedD.walk1_no ?_ ?_ ?_ (fun K hK => ?_)); (focus rfl); (focus rfl); (focus rfl); simp only [Act.put, List.setIfInBounds_toArray, List.set_cons_zero, List.set_cons_succ]; refine hK _ ?_; clear hK K) | ((with_reducible refine SchedD.walk1_gr ?_ ?_ ?_ ?_ (fun K hK => ?_)); (focus rfl); (focus rfl); (focus rfl); (focus rfl); apply Exists.intro; refine ⟨fun w1 hw1 => ?_, ?_⟩; (focus (go_simp; (try go_ints); (try (simp only [IntWalk.iteOmega]; go_simp)); first | done | fail | (with_reducible rfl) | (with_reducible exact ⟨rfl, rfl⟩))); simp only [Act.put, List.setIfInBounds_toArray, List.set_cons_zero, List.set_cons_succ]; refine hK _ ?_; clear hK K) | ((with_reducible refine SchedD.walk1_pure ?_ ?_ ?_ ?_ (fun K hK => ?_)); (focus rfl); (focus rfl); (focus rfl); (focus rfl); apply Exists.intro; refine ⟨fun w1 => ?_, ?_⟩; (focus (go_simp; (try go_ints); (try (simp only [IntWalk.iteOmega]; go_simp)); first | done | (with_reducible rfl) | (with_reducible exact ⟨rfl, rfl⟩))); simp only [Act.put, List.setIfInBounds_toArray, List.set_cons_zero, List.set_cons_succ]; refine hK _ ?_; clear hK K))
                          refine SchedD.walk1_new0 (NFull k (tr L.reverse s)) rfl rfl rfl rfl (NFull.stable _ _) (fun u hu => ?_) ?_
                          · go_simp
                            go_at_call 70
                            refine (trace_any a3 (k + 1) c3 (L ++ [wz]) k s 1000000 u (HOWNR.out.stay hu).seg (by simp [HLL.out]) HLK2.out (by omega) hs (by omega)).mono ?_
                            rw [HLT.out]
                            rintro e w8 ⟨g, rfl, _, hrd, hgr⟩
                            exact ⟨_, rfl, hgr, g, rfl, hrd⟩
                          repeat (first | ((with_reducible refine SchedD.walk1_no ?_ ?_ ?_ (fun K hK => ?_)); (focus rfl); (focus rfl); (focus rfl); simp only [Act.put, List.setIfInBounds_toArray, List.set_cons_zero, List.set_cons_succ]; refine hK _ ?_; clear hK K) | ((with_reducible refine SchedD.walk1_gr ?_ ?_ ?_ ?_ (fun K hK => ?_)); (focus rfl); (focus rfl); (focus rfl); (focus rfl); apply Exists.intro; refine ⟨fun w1 hw1 => ?_, ?_⟩; (focus (go_simp; (try go_ints); (try (simp only [IntWalk.iteOmega]; go_simp)); first | done | fail | (with_reducible rfl) | (with_reducible exact ⟨rfl, rfl⟩))); simp only [Act.put, List.setIfInBounds_toArray, List.set_cons_zero, List.set_cons_succ]; refine hK _ ?_; clear hK K) | ((with_reducible refine SchedD.walk1_pure ?_ ?_ ?_ ?_ (fun K hK => ?_)); (focus rfl); (focus rfl); (focus rfl); (focus rfl); apply Exists.intro; refine ⟨fun w1 => ?_, ?_⟩; (focus (go_simp; (try go_ints); (try (simp only [IntWalk.iteOmega]; go_simp)); first | done | (with_reducible rfl) | (with_reducible exact ⟨rfl, rfl⟩))); simp only [Act.put, List.setIfInBounds_toArray, List.set_cons_zero, List.set_cons_succ]; refine hK _ ?_; clear hK K))
                          refine SchedD.walk1_new0 (NOne .i64 3 ((x : Nat) : Int)) rfl rfl rfl rfl (NRow1.stable _ _) (fun u hu => ?_) ?_
                          · go_simp
                            exact ⟨Gr.alloc _ _, rfl, by simp, heap_alloc_new _ _⟩
                          refine SchedD.walk1_new2 (NRd (k + 1) (tr L.reverse s ++ [((x : Nat) : Int)])) (NFull k (tr L.reverse s)) (NOne .i64 3 ((x : Nat) : Int)) 24 132 26 134 rfl rfl rfl rfl rfl (NRd.stable _ _) (fun u hu lo1 hi1 u1 q1 lo2 hi2 u2 q2 => ?_) ?_
                          · obtain ⟨g, rfl, hr1⟩ := q1
                            obtain ⟨rfl, hr2⟩ := q2.rd (WalkArith.wf_i64 (by constructor <;> omega))
                            obtain ⟨g', c', w', hrun, hrd, hg⟩ := app_full u g k _ hr1 lo2 1 _ hr2 (by omega)
                            exact ⟨rfl, nq_app _ _ _ rfl rfl rfl hrun ⟨hg, _, _, rfl, hrd⟩⟩
                          repeat (first | ((with_reducible refine SchedD.walk1_no ?_ ?_ ?_ (fun K hK => ?_)); (focus rfl); (focus rfl); (focus rfl); simp only [Act.put, List.setIfInBounds_toArray, List.set_cons_zero, List.set_cons_succ]; refine hK _ ?_; clear hK K) | ((with_reducible refine SchedD.walk1_gr ?_ ?_ ?_ ?_ (fun K hK => ?_)); (focus rfl); (focus rfl); (focus rfl); (focus rfl); apply Exists.intro; refine ⟨fun w1 hw1 => ?_, ?_⟩; (focus (go_simp; (try go_ints); (try (simp only [IntWalk.iteOmega]; go_simp)); first | done | fail | (with_reducible rfl) | (with_reducible exact ⟨rfl, rfl⟩))); simp only [Act.put, List.setIfInBounds_toArray, List.set_cons_zero, List.set_cons_succ]; refine hK _ ?_; clear hK K) | ((with_reducible refine SchedD.walk1_pure ?_ ?_ ?_ ?_ (fun K hK => ?_)); (focus rfl); (focus rfl); (focus rfl); (focus rfl); apply Exists.intro; refine ⟨fun w1 => ?_, ?_⟩; (focus (go_simp; (try go_ints); (try (simp only [IntWalk.iteOmega]; go_simp)); first | done | (with_reducible rfl) | (with_reducible exact ⟨rfl, rfl⟩))); simp only [Act.put, List.setIfInBounds_toArray, List.set_cons_zero, List.set_cons_succ]; refine hK _ ?_; clear hK K))
                          refine SchedD.walk1_new0 (NFull k (tr L.reverse nf)) rfl rfl rfl rfl (NFull.stable _ _) (fun u hu => ?_) ?_
                          · go_simp
                            go_at_call 70
                            refine (trace_any a3 (k + 1) c3 (L ++ [wz]) k nf 1000000 u (HOWNR.out.stay hu).seg (by simp [HLL.out]) HLK2.out (by omega) hnf4 (by omega)).mono ?_
                            rw [HLT.out]
                            rintro e w8 ⟨g, rfl, _, hrd, hgr⟩
                            exact ⟨_, rfl, hgr, g, rfl, hrd⟩
                          repeat (first | ((with_reducible refine SchedD.walk1_no ?_ ?_ ?_ (fun K hK => ?_)); (focus rfl); (focus rfl); (focus rfl); simp only [Act.put, List.setIfInBounds_toArray, List.set_cons_zero, List.set_cons_succ]; refine hK _ ?_; clear hK K) | ((with_reducible refine SchedD.walk1_gr ?_ ?_ ?_ ?_ (fun K hK => ?_)); (focus rfl); (focus rfl); (focus rfl); (focus rfl); apply Exists.intro; refine ⟨fun w1 hw1 => ?_, ?_⟩; (focus (go_simp; (try go_ints); (try (simp only [IntWalk.iteOmega]; go_simp)); first | done | fail | (with_reducible rfl) | (with_reducible exact ⟨rfl, rfl⟩))); simp only [Act.put, List.setIfInBounds_toArray, List.set_cons_zero, List.set_cons_succ]; refine hK _ ?_; clear hK K) | ((with_reducible refine SchedD.walk1_pure ?_ ?_ ?_ ?_ (fun K hK => ?_)); (focus rfl); (focus rfl); (focus rfl); (focus rfl); apply Exists.intro; refine ⟨fun w1 => ?_, ?_⟩; (focus (go_simp; (try go_ints); (try (simp only [IntWalk.iteOmega]; go_simp)); first | done | (with_reducible rfl) | (with_reducible exact ⟨rfl, rfl⟩))); simp only [Act.put, List.setIfInBounds_toArray, List.set_cons_zero, List.set_cons_succ]; refine hK _ ?_; clear hK K))
                          refine SchedD.walk1_new0 (NOne .i64 3 nb) rfl rfl rfl rfl (NRow1.stable _ _) (fun u hu => ?_) ?_
                          · go_simp
                            exact ⟨Gr.alloc _ _, rfl, by simp, heap_alloc_new _ _⟩
                          refine SchedD.walk1_new2 (NRd (k + 1) (tr L.reverse nf ++ [nb])) (NFull k (tr L.reverse nf)) (NOne .i64 3 nb) 34 142 39 147 rfl rfl rfl rfl rfl (NRd.stable _ _) (fun u hu lo1 hi1 u1 q1 lo2 hi2 u2 q2 => ?_) ?_
                          · obtain ⟨g, rfl, hr1⟩ := q1
                            obtain ⟨rfl, hr2⟩ := q2.rd (WalkArith.wf_i64 HNB2.out)
                            obtain ⟨g', c', w', hrun, hrd, hg⟩ := app_full u g k _ hr1 lo2 1 _ hr2 (by omega)
                            exact ⟨rfl, nq_app _ _ _ rfl rfl rfl hrun ⟨hg, _, _, rfl, hrd⟩⟩
                          refine SchedD.walk1_dep2 (.bool E) (NRd (k + 1) (tr L.reverse s ++ [((x : Nat) : Int)])) (NRd (k + 1) (tr L.reverse nf ++ [nb])) 27 135 40 148 rfl rfl rfl rfl rfl (fun u hu lo1 hi1 u1 q1 lo2 hi2 u2 q2 => ?_) ?_
                          · obtain ⟨a8, c8, rfl, hr1⟩ := q1
                            obtain ⟨a9, c9, rfl, hr2⟩ := q2
                            refine ⟨rfl, ?_⟩
                            go_simp
                            go_at_call 69
                            (with_reducible exact less_is HF.out _ _ _ _ _ _ hr1 hr2)
                          simp only [Act.put, List.setIfInBounds_toArray, List.set_cons_zero, List.set_cons_succ]
                          repeat (first | ((with_reducible refine SchedD.walk1_no ?_ ?_ ?_ (fun K hK => ?_)); (focus rfl); (focus rfl); (focus rfl); simp only [Act.put, List.setIfInBounds_toArray, List.set_cons_zero, List.set_cons_succ]; refine hK _ ?_; clear hK K) | ((with_reducible refine SchedD.walk1_gr ?_ ?_ ?_ ?_ (fun K hK => ?_)); (focus rfl); (focus rfl); (focus rfl); (focus rfl); apply Exists.intro; refine ⟨fun w1 hw1 => ?_, ?_⟩; (focus (go_simp; (try go_ints); (try (simp only [IntWalk.iteOmega]; go_simp)); first | done | fail | (with_reducible rfl) | (with_reducible exact ⟨rfl, rfl⟩))); simp only [Act.put, List.setIfInBounds_toArray, List.set_cons_zero, List.set_cons_succ]; refine hK _ ?_; clear hK K) | ((with_reducible refine SchedD.walk1_pure ?_ ?_ ?_ ?_ (fun K hK => ?_)); (focus rfl); (focus rfl); (focus rfl); (focus rfl); apply Exists.intro; refine ⟨fun w1 => ?_, ?_⟩; (focus (go_simp; (try go_ints); (try (simp only [IntWalk.iteOmega]; go_simp)); first | done | (with_reducible rfl) | (with_reducible exact ⟨rfl, rfl⟩))); simp only [Act.put, List.setIfInBounds_toArray, List.set_cons_zero, List.set_cons_succ]; refine hK _ ?_; clear hK K))
                          (with_reducible refine SchedD.walk1_nil ?_)
                          intro wq hwq
                          have HWX := Lib.hid hwq
                          clear hwq
                          dsimp only [Sched.EndN, List.nil_append, List.cons_append, Act.put]
                          rintro lo1 hi1 u1 - - - - - lo2 hi2 u2 - - - - - lo3 hi3 u3 - - - - - lo4 hi4 u4 - - - - - lo5 hi5 u5 - - - - - lo6 hi6 u6 - - - - -
                          simp only [List.setIfInBounds_toArray, List.set_cons_zero, List.set_cons_succ]
                          refine Sched.walk2_nil ?_
                          go_wp2_with fail
                          go_meet
                          exact ⟨rfl, HWX.out⟩
                        · as_aux_lemma =>
                          have hE2 : E = false := by rw [HBET.out, decide_eq_false hc1, show (ms + v0 + v1 == nm) = false by simpa using hc2]; rfl
                          subst hE2
                          have hcb1 : decide (nm < ms + v0 + v1) = false := decide_eq_false hc1
                          have hcb2 : (ms + v0 + v1 == nm) = false := by simpa using hc2
                          have y_0 := Y0.out
                          have y_1 := Y1.out
                          refine Sched.wp_region_sched 43 [] [] (by as_aux_lemma => kernel_rfl) (by as_aux_lemma => kernel_rfl) ?_
                          simp only [List.take_succ_cons, List.take_zero, List.drop_succ_cons, List.drop_zero]
                          repeat (first | ((with_reducible refine Sched.walk1_no ?_ ?_ (fun K hK => ?_)); (focus rfl); (focus rfl); simp only [Act.put, List.setIfInBounds_toArray, List.set_cons_zero, List.set_cons_succ]; refine hK _ ?_; clear hK K) | ((with_reducible refine Sched.walk1_gr ?_ ?_ ?_ (fun K hK => ?_)); (focus rfl); (focus rfl); (focus rfl); apply Exists.intro; refine ⟨fun w1 hw1 => ?_, ?_⟩; (focus (go_simp; (try go_ints); (try (simp only [IntWalk.iteOmega]; go_simp)); first | done | fail | (with_reducible rfl) | (with_reducible exact ⟨rfl, rfl⟩))); simp only [Act.put, List.setIfInBounds_toArray, List.set_cons_zero, List.set_cons_succ]; refine hK _ ?_; clear hK K) | ((with_reducible refine Sched.walk1_pure ?_ ?_ ?_ (fun K hK => ?_)); (focus rfl); (focus rfl); (focus rfl); apply Exists.intro; refine ⟨fun w1 => ?_, ?_⟩; (focus (go_simp; (try go_ints); (try (simp only [IntWalk.iteOmega]; go_simp)); first | done | (with_reducible rfl) | (with_reducible exact ⟨rfl, rfl⟩))); simp only [Act.put, List.setIfInBounds_toArray, List.set_cons_zero, List.set_cons_succ]; refine hK _ ?_; clear hK K) | (refine Sched.walk1_box rfl rfl ?_; apply Exists.intro; refine ⟨fun w1 hw1 => ?_, ?_⟩; (focus (go_simp; exact ⟨Gr.alloc _ _, rfl, by simp, heap_alloc_new _ _⟩))))
                          (with_reducible refine Sched.walk1_nil ?_)
                          intro wq hwq
                          clear y_0 y_1
                          have HWX := Lib.hid hwq
                          clear hwq
                          dsimp only [Sched.EndN, List.nil_append, List.cons_append, Act.put]
                          (try simp only [List.setIfInBounds_toArray, List.set_cons_zero, List.set_cons_succ])
                          repeat (first | (refine Sched.walk2_no rfl (fun K hK => ?_); simp only [Act.put, List.setIfInBounds_toArray, List.set_cons_zero, List.set_cons_succ]; refine hK _ ?_; clear hK K) | (refine Sched.walk2_go rfl (fun K hK => ?_); go_simp; (try go_ints); (try (simp only [IntWalk.iteOmega]; go_simp)); first | (refine hK _ _ ?_; clear hK K) | fail))
                          refine Sched.walk2_nil ?_
                          go_wp2_with fail
                          go_meet
                          exact ⟨rfl, HWX.out⟩
                  case rest =>
                    as_aux_lemma =>
                    obtain ⟨rfl, hgc⟩ := hcut
                    have HGC := Lib.hid hgc
                    clear hgc
                    have hstp := Cod.step_try (x := ((x : Nat) : Int)) HSTEP.out HTH.out HSS.out (by omega) (fun r hr ht => ((HBEST.out.2 r hr).1 ht).1) (fun _ _ h => h.1.1) (fun _ _ => pair_next (x := x) ⟨HSS.out, by omega⟩)
                    rw [HEE.out, HTT.out, HCAND.out] at hstp
                    have HSTP := Lib.hid hstp
                    clear hstp
                    cases E
                    · have HSTP2 := Lib.hid (show Step n ss L.reverse T N _ from HSTP.out)
                      go_wp2_with fail
                      go_roundw
                      case rel =>
                        exact ⟨(x + 1), N, by omega, (by first | rfl | go_num), HNOK.out, HSTP2.out, HNB5.out.kept HGC.out, grown_trans' HGR.out (grown_weak (HG5.out.trans HGC.out) _)⟩
                      case measure => (simp [intOf] <;> omega)
                    · have hbw : wc.heap[wq.heap.size]? = some (.cells #[.bool true, .int .i64 (ms + v0 + v1), .int .i64 s, .int .i64 ((x : Nat) : Int)] 89 (0, 0)) := by
                        rw [HGC.out.block _ (heap_lt HB5.out) (by simp)]; exact HB5.out
                      have hnw := HNB5.out.kept HGC.out
                      have hnok2 := wok_set HNOK.out ht4 (x := ⟨true, ms + v0 + v1, s, ((x : Nat) : Int)⟩) HSS.out (by show (((x : Nat) : Int) : Int) = 0 ∨ (((x : Nat) : Int) : Int) = 1; omega) (by show -(254 * ((k : Int) + 1)) ≤ ms + v0 + v1; omega) (by show ms + v0 + v1 ≤ 254 * ((k : Int) + 1); omega)
                      have hnw2 : WBlk wo.heap.size (N.set (tt) ⟨true, ms + v0 + v1, s, ((x : Nat) : Int)⟩) (wc.setCells wo.heap.size ((tt) * 4) [.bool true, .int .i64 (ms + v0 + v1), .int .i64 s, .int .i64 ((x : Nat) : Int)]) := by
                        have h := heap_setCells [.bool true, .int .i64 (ms + v0 + v1), .int .i64 s, .int .i64 ((x : Nat) : Int)] ((tt) * 4) wc _ hnw
                        rw [show [Value.bool true, .int .i64 (ms + v0 + v1), .int .i64 s, .int .i64 ((x : Nat) : Int)] = wcl ⟨true, ms + v0 + v1, s, ((x : Nat) : Int)⟩ from rfl, tcells_set HNOK.out.1 ht4] at h
                        exact h
                      have hthr : wc.there wo.heap.size ((tt) * 4) 4 := there_block hnw (by rw [List.size_toArray, tcells_len HNOK.out.1]; omega)
                      have HSTP2 := Lib.hid (show Step n ss L.reverse T (N.set (tt) ⟨true, ms + v0 + v1, s, ((x : Nat) : Int)⟩) _ from HSTP.out)
                      have HBW := Lib.hid hbw
                      have HNW := Lib.hid hnw
                      have HNOK2 := Lib.hid hnok2
                      have HNW2 := Lib.hid hnw2
                      have HTHR := Lib.hid hthr
                      have HGE := Lib.hid (grown_trans' HGR.out (grown_trans' (grown_weak (HG5.out.trans HGC.out) _) (grown_setCells wo.heap.size [.bool true, .int .i64 (ms + v0 + v1), .int .i64 s, .int .i64 ((x : Nat) : Int)] ((tt) * 4) wc)))
                      clear hbw hnw hnok2 hnw2 hthr
                      go_wp2_with (first | (refine wpList_load_row rfl 89 _ rfl wq.heap.size rfl 89 _ _ _ HBW.out Tryd.underlying89 rfl (by as_aux_lemma => kernel_rfl) ?_) | (refine wpList_store_mid rfl 89 _ _ rfl wo.heap.size ((tt) * 4) #[.bool true, .int .i64 (ms + v0 + v1), .int .i64 s, .int .i64 ((x : Nat) : Int)] rfl rfl HTHR.out (by as_aux_lemma => kernel_rfl) (all_oneCell_toArray (cs := [.bool true, .int .i64 (ms + v0 + v1), .int .i64 s, .int .i64 ((x : Nat) : Int)]) (by intro v hv; simp only [List.mem_cons, List.not_mem_nil, or_false] at hv; rcases hv with rfl | rfl | rfl | rfl <;> rfl)) ?_))
                      go_roundw
                      case rel =>
                        exact ⟨(x + 1), _, by omega, (by first | rfl | go_num), HNOK2.out, HSTP2.out, HNW2.out, HGE.out⟩
                      case measure => (simp [intOf] <;> omega)
                · have hdn : decide ((k : Int) < (n : Int)) = false := by rw [decide_eq_false_iff_not]; omega
                  clear hdx
                  have hx4 : x = 0 ∨ x = 1 := by omega
                  rcases hx4 with rfl | rfl
                  · rw [show ((0 : Nat) : Int) = 0 from rfl]
                    as_aux_lemma =>
                    obtain ⟨v0, hv0⟩ : ∃ v, sgn q0 (p0 s 0) = v := ⟨_, rfl⟩
                    obtain ⟨v1, hv1⟩ : ∃ v, sgn q1 (p1 s 0) = v := ⟨_, rfl⟩
                    have b0 : -127 ≤ v0 ∧ v0 ≤ 127 := by have := HR01.out.1; rw [← hv0]; unfold sgn; split <;> omega
                    have b1 : -127 ≤ v1 ∧ v1 ≤ 127 := by have := HR01.out.2; rw [← hv1]; unfold sgn; split <;> omega
                    obtain ⟨b01, b02⟩ := b0
                    obtain ⟨b11, b12⟩ := b1
                    have hcand : cand ss L.reverse T s 0 = ms + v0 + v1 := by
                      unfold cand gain
                      rw [HMS.out, List.length_reverse, HLL.out, HQ0.out, HQ1.out, hv0, hv1]
                      omega
                    have HCAND := Lib.hid hcand
                    have HV0 := Lib.hid hv0
                    have HV1 := Lib.hid hv1
                    clear hcand hv0 hv1
                    go_wp2_with fail
                    have s_0 := S0.out
                    have s_1 := S1.out
                    have y_m := YM.out
                    refine Sched.wp_region_sched 29 [] [] (by as_aux_lemma => kernel_rfl) (by as_aux_lemma => kernel_rfl) ?_
                    simp only [List.take_succ_cons, List.take_zero, List.drop_succ_cons, List.drop_zero]
                    repeat (first | ((with_reducible refine Sched.walk1_no ?_ ?_ (fun K hK => ?_)); (focus rfl); (focus rfl); simp only [Act.put, List.setIfInBounds_toArray, List.set_cons_zero, List.set_cons_succ]; refine hK _ ?_; clear hK K) | ((with_reducible refine Sched.walk1_gr ?_ ?_ ?_ (fun K hK => ?_)); (focus rfl); (focus rfl); (focus rfl); apply Exists.intro; refine ⟨fun w1 hw1 => ?_, ?_⟩; (focus (go_simp; (try go_ints); (try (simp only [IntWalk.iteOmega]; go_simp)); first | done | (first | (go_at_call 68; (with_reducible refine gr_same (sign_is ?_ HV0.out _ HR01.out.1)); (have := HIA.out; unfold p0; omega)) | (go_at_call 68; (with_reducible refine gr_same (sign_is ?_ HV1.out _ HR01.out.2)); (unfold p1; omega))) | (with_reducible rfl) | (with_reducible exact ⟨rfl, rfl⟩))); simp only [Act.put, List.setIfInBounds_toArray, List.set_cons_zero, List.set_cons_succ]; refine hK _ ?_; clear hK K) | ((with_reducible refine Sched.walk1_pure ?_ ?_ ?_ (fun K hK => ?_)); (focus rfl); (focus rfl); (focus rfl); apply Exists.intro; refine ⟨fun w1 => ?_, ?_⟩; (focus (go_simp; (try go_ints); (try (simp only [IntWalk.iteOmega]; go_simp)); first | done | (with_reducible rfl) | (with_reducible exact ⟨rfl, rfl⟩))); simp only [Act.put, List.setIfInBounds_toArray, List.set_cons_zero, List.set_cons_succ]; refine hK _ ?_; clear hK K) | (refine Sched.walk1_box rfl rfl ?_; apply Exists.intro; refine ⟨fun w1 hw1 => ?_, ?_⟩; (focus (go_simp; exact ⟨Gr.alloc _ _, rfl, by simp, heap_alloc_new _ _⟩))))
                    refine Sched.walk1_nil ?_
                    intro wq hwq
                    clear s_0 s_1 y_m
                    have HWQ := Lib.hid hwq
                    clear hwq
                    dsimp only [Sched.EndN, List.nil_append, List.cons_append, Act.put]
                    (try simp only [List.setIfInBounds_toArray, List.set_cons_zero, List.set_cons_succ])
                    repeat (first | (refine Sched.walk2_no rfl (fun K hK => ?_); simp only [Act.put, List.setIfInBounds_toArray, List.set_cons_zero, List.set_cons_succ]; refine hK _ ?_; clear hK K) | (refine Sched.walk2_go rfl (fun K hK => ?_); go_simp; (try go_ints); (try (simp only [IntWalk.iteOmega]; go_simp)); first | (refine hK _ _ ?_; clear hK K) | fail))
                    refine Sched.walk2_nil ?_
                    go_upto_region 23 with (fail)
                    have hss : isSt (s : Int) := isSt_nat hs
                    have htt : rx s 0 = ((ia : Nat) : Int) := by have := HIA.out; unfold rx; omega
                    have ht4 : ia < 4 := by omega
                    have hin := HNOK.out.2 ((ia : Nat) : Int) (isSt_nat ht4)
                    obtain ⟨nt, hnt⟩ : ∃ v, (at4 N ((ia : Nat) : Int)).t = v := ⟨_, rfl⟩
                    obtain ⟨nm, hnm⟩ : ∃ v, (at4 N ((ia : Nat) : Int)).m = v := ⟨_, rfl⟩
                    obtain ⟨nb, hnb0⟩ : ∃ v, (at4 N ((ia : Nat) : Int)).b = v := ⟨_, rfl⟩
                    obtain ⟨nf, hnf4, hnf⟩ := isSt_to hin.1
                    have hbet : better ss L.reverse T N s 0 = (!nt || decide (nm < ms + v0 + v1) || (ms + v0 + v1 == nm && lessL (tr L.reverse s ++ [0]) (tr L.reverse nf ++ [nb]))) := by
                      unfold better
                      rw [htt, HCAND.out, hnt, hnm, hnb0, hnf]
                    have hinb := hin.2.1
                    have hinm := hin.2.2
                    rw [hnb0] at hinb
                    rw [hnm] at hinm
                    obtain ⟨hnm1, hnm2⟩ := hinm
                    obtain ⟨E, hE⟩ : ∃ E, better ss L.reverse T N s 0 = E := ⟨_, rfl⟩
                    rw [hE] at hbet
                    obtain ⟨w5, hw5⟩ : ∃ y, y = wq.alloc (.cells #[.bool true, .int .i64 (ms + v0 + v1), .int .i64 s, .int .i64 0] 89) := ⟨_, rfl⟩
                    rw [← hw5]
                    have hg5 : Gr wr w5 := by rw [hw5]; exact HWQ.out.trans (Gr.alloc _ _)
                    have hb5 : w5.heap[wq.heap.size]? = some (.cells #[.bool true, .int .i64 (ms + v0 + v1), .int .i64 s, .int .i64 0] 89 (0, 0)) := by rw [hw5]; exact heap_alloc_new _ _
                    have hnb5 := HNB.out.kept hg5
                    have y_0 : ∀ u, Gr w5 u → u.cell? ⟨wo.heap.size, (ia) * 4, none⟩ = some (.bool nt) := fun u hu => hu.cell (hnb5.cell HNOK.out.1 (s := ia) (j := 0) ht4 (by omega) (by rw [← hnt]; rfl))
                    have y_1 : ∀ u, Gr w5 u → u.cell? ⟨wo.heap.size, (ia) * 4 + 1, none⟩ = some (.int .i64 nm) := fun u hu => hu.cell (hnb5.cell HNOK.out.1 (s := ia) (j := 1) ht4 (by omega) (by rw [← hnm]; rfl))
                    have y_2 : ∀ u, Gr w5 u → u.cell? ⟨wo.heap.size, (ia) * 4 + 2, none⟩ = some (.int .i64 nf) := fun u hu => hu.cell (hnb5.cell HNOK.out.1 (s := ia) (j := 2) ht4 (by omega) (by rw [← hnf]; rfl))
                    have y_3 : ∀ u, Gr w5 u → u.cell? ⟨wo.heap.size, (ia) * 4 + 3, none⟩ = some (.int .i64 nb) := fun u hu => hu.cell (hnb5.cell HNOK.out.1 (s := ia) (j := 3) ht4 (by omega) (by rw [← hnb0]; rfl))
                    have HG5 := Lib.hid hg5
                    have HB5 := Lib.hid hb5
                    have HNB5 := Lib.hid hnb5
                    have HEE := Lib.hid hE
                    have HBET := Lib.hid hbet
                    have HTT := Lib.hid htt
                    have HSS := Lib.hid hss
                    have HINB := Lib.hid hinb
                    have Y0 := Lib.hid y_0
                    have Y1 := Lib.hid y_1
                    have Y2 := Lib.hid y_2
                    have Y3 := Lib.hid y_3
                    clear hw5 hg5 hb5 hnb5 hE hbet htt hss hin hinb hnt hnm hnb0 hnf y_0 y_1 y_2 y_3
                    go_cut [151] from 108 to 151 (fun s wc => s = .bool E ∧ Gr w5 wc)
                    case first =>
                      cases nt
                      · as_aux_lemma =>
                        have hE2 : E = true := HBET.out
                        subst hE2
                        have y_0 := Y0.out
                        have y_1 := Y1.out
                        refine Sched.wp_region_sched 43 [] [] (by as_aux_lemma => kernel_rfl) (by as_aux_lemma => kernel_rfl) ?_
                        simp only [List.take_succ_cons, List.take_zero, List.drop_succ_cons, List.drop_zero]
                        repeat (first | ((with_reducible refine Sched.walk1_no ?_ ?_ (fun K hK => ?_)); (focus rfl); (focus rfl); simp only [Act.put, List.setIfInBounds_toArray, List.set_cons_zero, List.set_cons_succ]; refine hK _ ?_; clear hK K) | ((with_reducible refine Sched.walk1_gr ?_ ?_ ?_ (fun K hK => ?_)); (focus rfl); (focus rfl); (focus rfl); apply Exists.intro; refine ⟨fun w1 hw1 => ?_, ?_⟩; (focus (go_simp; (try go_ints); (try (simp only [IntWalk.iteOmega]; go_simp)); first | done | fail | (with_reducible rfl) | (with_reducible exact ⟨rfl, rfl⟩))); simp only [Act.put, List.setIfInBounds_toArray, List.set_cons_zero, List.set_cons_succ]; refine hK _ ?_; clear hK K) | ((with_reducible refine Sched.walk1_pure ?_ ?_ ?_ (fun K hK => ?_)); (focus rfl); (focus rfl); (focus rfl); apply Exists.intro; refine ⟨fun w1 => ?_, ?_⟩; (focus (go_simp; (try go_ints); (try (simp only [IntWalk.iteOmega]; go_simp)); first | done | (with_reducible rfl) | (with_reducible exact ⟨rfl, rfl⟩))); simp only [Act.put, List.setIfInBounds_toArray, List.set_cons_zero, List.set_cons_succ]; refine hK _ ?_; clear hK K) | (refine Sched.walk1_box rfl rfl ?_; apply Exists.intro; refine ⟨fun w1 hw1 => ?_, ?_⟩; (focus (go_simp; exact ⟨Gr.alloc _ _, rfl, by simp, heap_alloc_new _ _⟩))))
                        (with_reducible refine Sched.walk1_nil ?_)
                        intro wq hwq
                        clear y_0 y_1
                        have HWX := Lib.hid hwq
                        clear hwq
                        dsimp only [Sched.EndN, List.nil_append, List.cons_append, Act.put]
                        (try simp only [List.setIfInBounds_toArray, List.set_cons_zero, List.set_cons_succ])
                        repeat (first | (refine Sched.walk2_no rfl (fun K hK => ?_); simp only [Act.put, List.setIfInBounds_toArray, List.set_cons_zero, List.set_cons_succ]; refine hK _ ?_; clear hK K) | (refine Sched.walk2_go rfl (fun K hK => ?_); go_simp; (try go_ints); (try (simp only [IntWalk.iteOmega]; go_simp)); first | (refine hK _ _ ?_; clear hK K) | fail))
                        refine Sched.walk2_nil ?_
                        go_wp2_with fail
                        go_meet
                        exact ⟨rfl, HWX.out⟩
                      · by_cases hc1 : nm < ms + v0 + v1
                        · as_aux_lemma =>
                          have hE2 : E = true := by rw [HBET.out, decide_eq_true hc1]; rfl
                          subst hE2
                          have y_0 := Y0.out
                          have y_1 := Y1.out
                          refine Sched.wp_region_sched 43 [] [] (by as_aux_lemma => kernel_rfl) (by as_aux_lemma => kernel_rfl) ?_
                          simp only [List.take_succ_cons, List.take_zero, List.drop_succ_cons, List.drop_zero]
                          repeat (first | ((with_reducible refine Sched.walk1_no ?_ ?_ (fun K hK => ?_)); (focus rfl); (focus rfl); simp only [Act.put, List.setIfInBounds_toArray, List.set_cons_zero, List.set_cons_succ]; refine hK _ ?_; clear hK K) | ((with_reducible refine Sched.walk1_gr ?_ ?_ ?_ (fun K hK => ?_)); (focus rfl); (focus rfl); (focus rfl); apply Exists.intro; refine ⟨fun w1 hw1 => ?_, ?_⟩; (focus (go_simp; (try go_ints); (try (simp only [IntWalk.iteOmega]; go_simp)); first | done | fail | (with_reducible rfl) | (with_reducible exact ⟨rfl, rfl⟩))); simp only [Act.put, List.setIfInBounds_toArray, List.set_cons_zero, List.set_cons_succ]; refine hK _ ?_; clear hK K) | ((with_reducible refine Sched.walk1_pure ?_ ?_ ?_ (fun K hK => ?_)); (focus rfl); (focus rfl); (focus rfl); apply Exists.intro; refine ⟨fun w1 => ?_, ?_⟩; (focus (go_simp; (try go_ints); (try (simp only [IntWalk.iteOmega]; go_simp)); first | done | (with_reducible rfl) | (with_reducible exact ⟨rfl, rfl⟩))); simp only [Act.put, List.setIfInBounds_toArray, List.set_cons_zero, List.set_cons_succ]; refine hK _ ?_; clear hK K) | (refine Sched.walk1_box rfl rfl ?_; apply Exists.intro; refine ⟨fun w1 hw1 => ?_, ?_⟩; (focus (go_simp; exact ⟨Gr.alloc _ _, rfl, by simp, heap_alloc_new _ _⟩))))
                          (with_reducible refine Sched.walk1_nil ?_)
                          intro wq hwq
                          clear y_0 y_1
                          have HWX := Lib.hid hwq
                          clear hwq
                          dsimp only [Sched.EndN, List.nil_append, List.cons_append, Act.put]
                          (try simp only [List.setIfInBounds_toArray, List.set_cons_zero, List.set_cons_succ])
                          repeat (first | (refine Sched.walk2_no rfl (fun K hK => ?_); simp only [Act.put, List.setIfInBounds_toArray, List.set_cons_zero, List.set_cons_succ]; refine hK _ ?_; clear hK K) | (refine Sched.walk2_go rfl (fun K hK => ?_); go_simp; (try go_ints); (try (simp only [IntWalk.iteOmega]; go_simp)); first | (refine hK _ _ ?_; clear hK K) | fail))
                          refine Sched.walk2_nil ?_
                          go_wp2_with fail
                          go_meet
                          exact ⟨rfl, HWX.out⟩
                        · by_cases hc2 : ms + v0 + v1 = nm
                          · as_aux_lemma =>
                            obtain ⟨F, hF⟩ : ∃ F, lessL (tr L.reverse s ++ [0]) (tr L.reverse nf ++ [nb]) = F := ⟨_, rfl⟩
                            have hE2 : E = F := by rw [HBET.out, decide_eq_false hc1, hc2, hF]; simp
                            subst hE2
                            have hcb1 : decide (nm < ms + v0 + v1) = false := decide_eq_false hc1
                            have hcb2 : (ms + v0 + v1 == nm) = true := by simpa using hc2
                            have HF := Lib.hid hF
                            clear hc2
                            have hownr : OwnW (w.heap.size + 1) wr a3 (k + 1) c3 (L ++ [wz]) := World.ownsRow.kept HOWN3.out HGR.out (by
                              cases hv : (Value.slice a3 (k + 1) c3).ownBlock with
                              | none => exact .inl rfl
                              | some g => exact .inr (by have := HAP3.out g hv; simpa using this))
                            have HOWNR := Lib.hid (hownr.stay HG5.out)
                            have hLk2 : ∀ T ∈ L ++ [wz], WOK 1000000 T := by
                              intro X hX
                              rcases List.mem_append.1 hX with hX | hX
                              · exact HLOK.out X hX
                              · simp at hX; subst hX; exact wokz _ (by omega)
                            have HLK2 := Lib.hid hLk2
                            have HLT := Lib.hid (show ((L ++ [wz]).take k).reverse = L.reverse by rw [List.take_left' HLL.out])
                            have HNB2 := Lib.hid (show i64 nb by have := HINB.out; constructor <;> omega)
                            clear hF hownr hLk2
                            have y_0 := Y0.out
                            have y_1 := Y1.out
                            have y_2 := Y2.out
                            have y_3 := Y3.out
                            refine SchedD.wp_region_schedd 44 [] [24, 26, 27, 34, 39, 40] (SchedD.nsel [(24, NFull k (tr L.reverse s)), (26, NOne .i64 3 0), (27, NRd (k + 1) (tr L.reverse s ++ [0])), (34, NFull k (tr L.reverse nf)), (39, NOne .i64 3 nb), (40, NRd (k + 1) (tr L.reverse nf ++ [nb]))]) [(27, [(24, 132), (26, 134)]), (40, [(34, 142), (39, 147)]), (41, [(27, 135), (40, 148)])] (by as_aux_lemma => kernel_rfl) (by as_aux_lemma => kernel_rfl) ?_
                            simp only [List.take_succ_cons, List.take_zero, List.drop_succ_cons, List.drop_zero]
                            repeat (first | ((with_reducible refine SchedD.walk1_no ?_ ?_ ?_ (fun K hK => ?_)); (focus rfl); (focus rfl); (focus rfl); simp only [Act.put, List.setIfInBounds_toArray, List.set_cons_zero, List.set_cons_succ]; refine hK _ ?_; clear hK K) | ((with_reducible refine SchedD.walk1_gr ?_ ?_ ?_ ?_ (fun K hK => ?_)); (focus rfl); (focus rfl); (focus rfl); (focus rfl); apply Exists.intro; refine ⟨fun w1 hw1 => ?_, ?_⟩; (focus (go_simp; (try go_ints); (try (simp only [IntWalk.iteOmega]; go_simp)); first | done | fail | (with_reducible rfl) | (with_reducible exact ⟨rfl, rfl⟩))); simp only [Act.put, List.setIfInBounds_toArray, List.set_cons_zero, List.set_cons_succ]; refine hK _ ?_; clear hK K) | ((with_reducible refine SchedD.walk1_pure ?_ ?_ ?_ ?_ (fun K hK => ?_)); (focus rfl); (focus rfl); (focus rfl); (focus rfl); apply Exists.intro; refine ⟨fun w1 => ?_, ?_⟩; (focus (go_simp; (try go_ints); (try (simp only [IntWalk.iteOmega]; go_simp)); first | done | (with_reducible rfl) | (with_reducible exact ⟨rfl, rfl⟩))); simp only [Act.put, List.setIfInBounds_toArray, List.set_cons_zero, List.set_cons_succ]; refine hK _ ?_; clear hK K))
                            refine SchedD.walk1_new0 (NFull k (tr L.reverse s)) rfl rfl rfl rfl (NFull.stable _ _) (fun u hu => ?_) ?_
                            · go_simp
                              go_at_call 70
                              refine (trace_any a3 (k + 1) c3 (L ++ [wz]) k s 1000000 u (HOWNR.out.stay hu).seg (by simp [HLL.out]) HLK2.out (by omega) hs (by omega)).mono ?_
                              rw [HLT.out]
                              rintro e w8 ⟨g, rfl, _, hrd, hgr⟩
                              exact ⟨_, rfl, hgr, g, rfl, hrd⟩
                            repeat (first | ((with_reducible refine SchedD.walk1_no ?_ ?_ ?_ (fun K hK => ?_)); (focus rfl); (focus rfl); (focus rfl); simp only [Act.put, List.setIfInBounds_toArray, List.set_cons_zero, List.set_cons_succ]; refine hK _ ?_; clear hK K) | ((with_reducible refine SchedD.walk1_gr ?_ ?_ ?_ ?_ (fun K hK => ?_)); (focus rfl); (focus rfl); (focus rfl); (focus rfl); apply Exists.intro; refine ⟨fun w1 hw1 => ?_, ?_⟩; (focus (go_simp; (try go_ints); (try (simp only [IntWalk.iteOmega]; go_simp)); first | done | fail | (with_reducible rfl) | (with_reducible exact ⟨rfl, rfl⟩))); simp only [Act.put, List.setIfInBounds_toArray, List.set_cons_zero, List.set_cons_succ]; refine hK _ ?_; clear hK K) | ((with_reducible refine SchedD.walk1_pure ?_ ?_ ?_ ?_ (fun K hK => ?_)); (focus rfl); (focus rfl); (focus rfl); (focus rfl); apply Exists.intro; refine ⟨fun w1 => ?_, ?_⟩; (focus (go_simp; (try go_ints); (try (simp only [IntWalk.iteOmega]; go_simp)); first | done | (with_reducible rfl) | (with_reducible exact ⟨rfl, rfl⟩))); simp only [Act.put, List.setIfInBounds_toArray, List.set_cons_zero, List.set_cons_succ]; refine hK _ ?_; clear hK K))
                            refine SchedD.walk1_new0 (NOne .i64 3 0) rfl rfl rfl rfl (NRow1.stable _ _) (fun u hu => ?_) ?_
                            · go_simp
                              exact ⟨Gr.alloc _ _, rfl, by simp, heap_alloc_new _ _⟩
                            refine SchedD.walk1_new2 (NRd (k + 1) (tr L.reverse s ++ [0])) (NFull k (tr L.reverse s)) (NOne .i64 3 0) 24 132 26 134 rfl rfl rfl rfl rfl (NRd.stable _ _) (fun u hu lo1 hi1 u1 q1 lo2 hi2 u2 q2 => ?_) ?_
                            · obtain ⟨g, rfl, hr1⟩ := q1
                              obtain ⟨rfl, hr2⟩ := q2.rd (WalkArith.wf_i64 (by constructor <;> omega))
                              obtain ⟨g', c', w', hrun, hrd, hg⟩ := app_full u g k _ hr1 lo2 1 _ hr2 (by omega)
                              exact ⟨rfl, nq_app _ _ _ rfl rfl rfl hrun ⟨hg, _, _, rfl, hrd⟩⟩
                            repeat (first | ((with_reducible refine SchedD.walk1_no ?_ ?_ ?_ (fun K hK => ?_)); (focus rfl); (focus rfl); (focus rfl); simp only [Act.put, List.setIfInBounds_toArray, List.set_cons_zero, List.set_cons_succ]; refine hK _ ?_; clear hK K) | ((with_reducible refine SchedD.walk1_gr ?_ ?_ ?_ ?_ (fun K hK => ?_)); (focus rfl); (focus rfl); (focus rfl); (focus rfl); apply Exists.intro; refine ⟨fun w1 hw1 => ?_, ?_⟩; (focus (go_simp; (try go_ints); (try (simp only [IntWalk.iteOmega]; go_simp)); first | done | fail | (with_reducible rfl) | (with_reducible exact ⟨rfl, rfl⟩))); simp only [Act.put, List.setIfInBounds_toArray, List.set_cons_zero, List.set_cons_succ]; refine hK _ ?_; clear hK K) | ((with_reducible refine SchedD.walk1_pure ?_ ?_ ?_ ?_ (fun K hK => ?_)); (focus rfl); (focus rfl); (focus rfl); (focus rfl); apply Exists.intro; refine ⟨fun w1 => ?_, ?_⟩; (focus (go_simp; (try go_ints); (try (simp only [IntWalk.iteOmega]; go_simp)); first | done | (with_reducible rfl) | (with_reducible exact ⟨rfl, rfl⟩))); simp only [Act.put, List.setIfInBounds_toArray, List.set_cons_zero, List.set_cons_succ]; refine hK _ ?_; clear hK K))
                            refine SchedD.walk1_new0 (NFull k (tr L.reverse nf)) rfl rfl rfl rfl (NFull.stable _ _) (fun u hu => ?_) ?_
                            · go_simp
                              go_at_call 70
                              refine (trace_any a3 (k + 1) c3 (L ++ [wz]) k nf 1000000 u (HOWNR.out.stay hu).seg (by simp [HLL.out]) HLK2.out (by omega) hnf4 (by omega)).mono ?_
                              rw [HLT.out]
                              rintro e w8 ⟨g, rfl, _, hrd, hgr⟩
                              exact ⟨_, rfl, hgr, g, rfl, hrd⟩
                            repeat (first | ((with_reducible refine SchedD.walk1_no ?_ ?_ ?_ (fun K hK => ?_)); (focus rfl); (focus rfl); (focus rfl); simp only [Act.put, List.setIfInBounds_toArray, List.set_cons_zero, List.set_cons_succ]; refine hK _ ?_; clear hK K) | ((with_reducible refine SchedD.walk1_gr ?_ ?_ ?_ ?_ (fun K hK => ?_)); (focus rfl); (focus rfl); (focus rfl); (focus rfl); apply Exists.intro; refine ⟨fun w1 hw1 => ?_, ?_⟩; (focus (go_simp; (try go_ints); (try (simp only [IntWalk.iteOmega]; go_simp)); first | done | fail | (with_reducible rfl) | (with_reducible exact ⟨rfl, rfl⟩))); simp only [Act.put, List.setIfInBounds_toArray, List.set_cons_zero, List.set_cons_succ]; refine hK _ ?_; clear hK K) | ((with_reducible refine SchedD.walk1_pure ?_ ?_ ?_ ?_ (fun K hK => ?_)); (focus rfl); (focus rfl); (focus rfl); (focus rfl); apply Exists.intro; refine ⟨fun w1 => ?_, ?_⟩; (focus (go_simp; (try go_ints); (try (simp only [IntWalk.iteOmega]; go_simp)); first | done | (with_reducible rfl) | (with_reducible exact ⟨rfl, rfl⟩))); simp only [Act.put, List.setIfInBounds_toArray, List.set_cons_zero, List.set_cons_succ]; refine hK _ ?_; clear hK K))
                            refine SchedD.walk1_new0 (NOne .i64 3 nb) rfl rfl rfl rfl (NRow1.stable _ _) (fun u hu => ?_) ?_
                            · go_simp
                              exact ⟨Gr.alloc _ _, rfl, by simp, heap_alloc_new _ _⟩
                            refine SchedD.walk1_new2 (NRd (k + 1) (tr L.reverse nf ++ [nb])) (NFull k (tr L.reverse nf)) (NOne .i64 3 nb) 34 142 39 147 rfl rfl rfl rfl rfl (NRd.stable _ _) (fun u hu lo1 hi1 u1 q1 lo2 hi2 u2 q2 => ?_) ?_
                            · obtain ⟨g, rfl, hr1⟩ := q1
                              obtain ⟨rfl, hr2⟩ := q2.rd (WalkArith.wf_i64 HNB2.out)
                              obtain ⟨g', c', w', hrun, hrd, hg⟩ := app_full u g k _ hr1 lo2 1 _ hr2 (by omega)
                              exact ⟨rfl, nq_app _ _ _ rfl rfl rfl hrun ⟨hg, _, _, rfl, hrd⟩⟩
                            refine SchedD.walk1_dep2 (.bool E) (NRd (k + 1) (tr L.reverse s ++ [0])) (NRd (k + 1) (tr L.reverse nf ++ [nb])) 27 135 40 148 rfl rfl rfl rfl rfl (fun u hu lo1 hi1 u1 q1 lo2 hi2 u2 q2 => ?_) ?_
                            · obtain ⟨a8, c8, rfl, hr1⟩ := q1
                              obtain ⟨a9, c9, rfl, hr2⟩ := q2
                              refine ⟨rfl, ?_⟩
                              go_simp
                              go_at_call 69
                              (with_reducible exact less_is HF.out _ _ _ _ _ _ hr1 hr2)
                            simp only [Act.put, List.setIfInBounds_toArray, List.set_cons_zero, List.set_cons_succ]
                            repeat (first | ((with_reducible refine SchedD.walk1_no ?_ ?_ ?_ (fun K hK => ?_)); (focus rfl); (focus rfl); (focus rfl); simp only [Act.put, List.setIfInBounds_toArray, List.set_cons_zero, List.set_cons_succ]; refine hK _ ?_; clear hK K) | ((with_reducible refine SchedD.walk1_gr ?_ ?_ ?_ ?_ (fun K hK => ?_)); (focus rfl); (focus rfl); (focus rfl); (focus rfl); apply Exists.intro; refine ⟨fun w1 hw1 => ?_, ?_⟩; (focus (go_simp; (try go_ints); (try (simp only [IntWalk.iteOmega]; go_simp)); first | done | fail | (with_reducible rfl) | (with_reducible exact ⟨rfl, rfl⟩))); simp only [Act.put, List.setIfInBounds_toArray, List.set_cons_zero, List.set_cons_succ]; refine hK _ ?_; clear hK K) | ((with_reducible refine SchedD.walk1_pure ?_ ?_ ?_ ?_ (fun K hK => ?_)); (focus rfl); (focus rfl); (focus rfl); (focus rfl); apply Exists.intro; refine ⟨fun w1 => ?_, ?_⟩; (focus (go_simp; (try go_ints); (try (simp only [IntWalk.iteOmega]; go_simp)); first | done | (with_reducible rfl) | (with_reducible exact ⟨rfl, rfl⟩))); simp only [Act.put, List.setIfInBounds_toArray, List.set_cons_zero, List.set_cons_succ]; refine hK _ ?_; clear hK K))
                            (with_reducible refine SchedD.walk1_nil ?_)
                            intro wq hwq
                            have HWX := Lib.hid hwq
                            clear hwq
                            dsimp only [Sched.EndN, List.nil_append, List.cons_append, Act.put]
                            rintro lo1 hi1 u1 - - - - - lo2 hi2 u2 - - - - - lo3 hi3 u3 - - - - - lo4 hi4 u4 - - - - - lo5 hi5 u5 - - - - - lo6 hi6 u6 - - - - -
                            simp only [List.setIfInBounds_toArray, List.set_cons_zero, List.set_cons_succ]
                            refine Sched.walk2_nil ?_
                            go_wp2_with fail
                            go_meet
                            exact ⟨rfl, HWX.out⟩
                          · as_aux_lemma =>
                            have hE2 : E = false := by rw [HBET.out, decide_eq_false hc1, show (ms + v0 + v1 == nm) = false by simpa using hc2]; rfl
                            subst hE2
                            have hcb1 : decide (nm < ms + v0 + v1) = false := decide_eq_false hc1
                            have hcb2 : (ms + v0 + v1 == nm) = false := by simpa using hc2
                            have y_0 := Y0.out
                            have y_1 := Y1.out
                            refine Sched.wp_region_sched 43 [] [] (by as_aux_lemma => kernel_rfl) (by as_aux_lemma => kernel_rfl) ?_
                            simp only [List.take_succ_cons, List.take_zero, List.drop_succ_cons, List.drop_zero]
                            repeat (first | ((with_reducible refine Sched.walk1_no ?_ ?_ (fun K hK => ?_)); (focus rfl); (focus rfl); simp only [Act.put, List.setIfInBounds_toArray, List.set_cons_zero, List.set_cons_succ]; refine hK _ ?_; clear hK K) | ((with_reducible refine Sched.walk1_gr ?_ ?_ ?_ (fun K hK => ?_)); (focus rfl); (focus rfl); (focus rfl); apply Exists.intro; refine ⟨fun w1 hw1 => ?_, ?_⟩; (focus (go_simp; (try go_ints); (try (simp only [IntWalk.iteOmega]; go_simp)); first | done | fail | (with_reducible rfl) | (with_reducible exact ⟨rfl, rfl⟩))); simp only [Act.put, List.setIfInBounds_toArray, List.set_cons_zero, List.set_cons_succ]; refine hK _ ?_; clear hK K) | ((with_reducible refine Sched.walk1_pure ?_ ?_ ?_ (fun K hK => ?_)); (focus rfl); (focus rfl); (focus rfl); apply Exists.intro; refine ⟨fun w1 => ?_, ?_⟩; (focus (go_simp; (try go_ints); (try (simp only [IntWalk.iteOmega]; go_simp)); first | done | (with_reducible rfl) | (with_reducible exact ⟨rfl, rfl⟩))); simp only [Act.put, List.setIfInBounds_toArray, List.set_cons_zero, List.set_cons_succ]; refine hK _ ?_; clear hK K) | (refine Sched.walk1_box rfl rfl ?_; apply Exists.intro; refine ⟨fun w1 hw1 => ?_, ?_⟩; (focus (go_simp; exact ⟨Gr.alloc _ _, rfl, by simp, heap_alloc_new _ _⟩))))
                            (with_reducible refine Sched.walk1_nil ?_)
                            intro wq hwq
                            clear y_0 y_1
                            have HWX := Lib.hid hwq
                            clear hwq
                            dsimp only [Sched.EndN, List.nil_append, List.cons_append, Act.put]
                            (try simp only [List.setIfInBounds_toArray, List.set_cons_zero, List.set_cons_succ])
                            repeat (first | (refine Sched.walk2_no rfl (fun K hK => ?_); simp only [Act.put, List.setIfInBounds_toArray, List.set_cons_zero, List.set_cons_succ]; refine hK _ ?_; clear hK K) | (refine Sched.walk2_go rfl (fun K hK => ?_); go_simp; (try go_ints); (try (simp only [IntWalk.iteOmega]; go_simp)); first | (refine hK _ _ ?_; clear hK K) | fail))
                            refine Sched.walk2_nil ?_
                            go_wp2_with fail
                            go_meet
                            exact ⟨rfl, HWX.out⟩
                    case rest =>
                      as_aux_lemma =>
                      obtain ⟨rfl, hgc⟩ := hcut
                      have HGC := Lib.hid hgc
                      clear hgc
                      have hstp := Cod.step_try (x := 0) HSTEP.out HTH.out HSS.out (by omega) (fun r hr ht => ((HBEST.out.2 r hr).1 ht).1) (fun _ _ h => h.1.1) (fun _ _ => pair_next (x := 0) ⟨HSS.out, by omega⟩)
                      rw [HEE.out, HTT.out, HCAND.out] at hstp
                      have HSTP := Lib.hid hstp
                      clear hstp
                      cases E
                      · have HSTP2 := Lib.hid (show Step n ss L.reverse T N _ from HSTP.out)
                        go_wp2_with fail
                        go_roundw
                        case rel =>
                          exact ⟨1, N, by omega, (by first | rfl | go_num), HNOK.out, HSTP2.out, HNB5.out.kept HGC.out, grown_trans' HGR.out (grown_weak (HG5.out.trans HGC.out) _)⟩
                        case measure => (simp [intOf] <;> omega)
                      · have hbw : wc.heap[wq.heap.size]? = some (.cells #[.bool true, .int .i64 (ms + v0 + v1), .int .i64 s, .int .i64 0] 89 (0, 0)) := by
                          rw [HGC.out.block _ (heap_lt HB5.out) (by simp)]; exact HB5.out
                        have hnw := HNB5.out.kept HGC.out
                        have hnok2 := wok_set HNOK.out ht4 (x := ⟨true, ms + v0 + v1, s, 0⟩) HSS.out (by show (0 : Int) = 0 ∨ (0 : Int) = 1; omega) (by show -(254 * ((k : Int) + 1)) ≤ ms + v0 + v1; omega) (by show ms + v0 + v1 ≤ 254 * ((k : Int) + 1); omega)
                        have hnw2 : WBlk wo.heap.size (N.set (ia) ⟨true, ms + v0 + v1, s, 0⟩) (wc.setCells wo.heap.size ((ia) * 4) [.bool true, .int .i64 (ms + v0 + v1), .int .i64 s, .int .i64 0]) := by
                          have h := heap_setCells [.bool true, .int .i64 (ms + v0 + v1), .int .i64 s, .int .i64 0] ((ia) * 4) wc _ hnw
                          rw [show [Value.bool true, .int .i64 (ms + v0 + v1), .int .i64 s, .int .i64 0] = wcl ⟨true, ms + v0 + v1, s, 0⟩ from rfl, tcells_set HNOK.out.1 ht4] at h
                          exact h
                        have hthr : wc.there wo.heap.size ((ia) * 4) 4 := there_block hnw (by rw [List.size_toArray, tcells_len HNOK.out.1]; omega)
                        have HSTP2 := Lib.hid (show Step n ss L.reverse T (N.set (ia) ⟨true, ms + v0 + v1, s, 0⟩) _ from HSTP.out)
                        have HBW := Lib.hid hbw
                        have HNW := Lib.hid hnw
                        have HNOK2 := Lib.hid hnok2
                        have HNW2 := Lib.hid hnw2
                        have HTHR := Lib.hid hthr
                        have HGE := Lib.hid (grown_trans' HGR.out (grown_trans' (grown_weak (HG5.out.trans HGC.out) _) (grown_setCells wo.heap.size [.bool true, .int .i64 (ms + v0 + v1), .int .i64 s, .int .i64 0] ((ia) * 4) wc)))
                        clear hbw hnw hnok2 hnw2 hthr
                        go_wp2_with (first | (refine wpList_load_row rfl 89 _ rfl wq.heap.size rfl 89 _ _ _ HBW.out Tryd.underlying89 rfl (by as_aux_lemma => kernel_rfl) ?_) | (refine wpList_store_mid rfl 89 _ _ rfl wo.heap.size ((ia) * 4) #[.bool true, .int .i64 (ms + v0 + v1), .int .i64 s, .int .i64 0] rfl rfl HTHR.out (by as_aux_lemma => kernel_rfl) (all_oneCell_toArray (cs := [.bool true, .int .i64 (ms + v0 + v1), .int .i64 s, .int .i64 0]) (by intro v hv; simp only [List.mem_cons, List.not_mem_nil, or_false] at hv; rcases hv with rfl | rfl | rfl | rfl <;> rfl)) ?_))
                        go_roundw
                        case rel =>
                          exact ⟨1, _, by omega, (by first | rfl | go_num), HNOK2.out, HSTP2.out, HNW2.out, HGE.out⟩
                        case measure => (simp [intOf] <;> omega)
                  · rw [show ((1 : Nat) : Int) = 1 from rfl]
                    clear S0 S1 YM HR01
                    go_wp2_with fail
                    go_roundw
                    case rel => exact ⟨s + 1, N, by omega, by go_num, HNOK.out, step_same HSTEP.out (fun s x => pair_one hkn), HNB.out, HGR.out⟩
                    case measure => (simp [intOf] <;> omega)
        · obtain rfl : s = 4 := by omega
          have hbn := HBEST.out.next (N := N) (by simp [HLL.out, HL.out]; omega) (step_same HSTEP.out (fun s x => by rw [List.length_reverse, HLL.out]; exact pair_all))
          have hNok6 : WOK 1000000 N := ⟨HNOK.out.1, fun r hr => by
            obtain ⟨q1, q2, q3, q4⟩ := HNOK.out.2 r hr
            exact ⟨q1, q2, by omega, by omega⟩⟩
          have hown4 : OwnW (w.heap.size + 1) wr a3 (k + 1) c3 (L ++ [wz]) := World.ownsRow.kept HOWN3.out HGR.out (by
            cases hv : (Value.slice a3 (k + 1) c3).ownBlock with
            | none => exact .inl rfl
            | some g => exact .inr (by have := HAP3.out g hv; simpa using this))
          obtain ⟨ga, ea⟩ : ∃ ga, a3 = some ⟨ga, 0, none⟩ := by
            rcases hown4.2 with ⟨_, h0⟩ | ⟨g, cap', cur, hv, _⟩
            · omega
            · injection hv with e1 e2 e3
              exact ⟨g, e1⟩
          subst ea
          have hall4 : ∀ T ∈ L, T.length = 4 := fun T hT => (HLOK.out T hT).1
          have hcl := lcells_len hall4
          have hcl2 : (lcells (L ++ [wz])).length = k * 16 + 16 := by
            rw [show lcells (L ++ [wz]) = lcells L ++ tcells wz by simp [lcells], List.length_append, hcl, HLL.out]; rfl
          have hnl := tcells_len HNOK.out.1
          have hsz : (Tryd.prog.info? 90).map (·.size) = some (tcells N).toArray.size := by rw [List.size_toArray, hnl]; kernel_rfl
          have hthere : wr.there ga (k * 16) (tcells N).toArray.size := by rw [List.size_toArray]; exact there_own hown4 (by rw [hcl2, hnl]; exact Nat.le_refl _)
          have hown5 := own_setCells (tcells N) (k * 16) wr _ hown4
          have eset : setM (lcells (L ++ [wz])) (k * 16) (tcells N) = lcells (L ++ [N]) := by
            rw [show lcells (L ++ [wz]) = lcells L ++ tcells wz by simp [lcells], show lcells (L ++ [N]) = lcells L ++ tcells N by simp [lcells], show k * 16 = (lcells L).length by rw [hcl, HLL.out]]
            exact setM_last _ _ _ (by rw [hnl]; rfl)
          rw [eset] at hown5
          have hga := HAP3.out ga rfl
          have hgb := World.ownsRow.lt hown4 ga rfl
          obtain ⟨w5, hw5⟩ : ∃ y, y = wr.setCells ga (k * 16) (tcells N) := ⟨_, rfl⟩
          rw [← hw5] at hown5
          have hg35 : Gr w w5 := by
            have h1 : Gr w wr := grownBy_trans HGW3.out HGR.out (.inr (.inr ⟨_, rfl, HG.out.size⟩))
            rw [hw5]
            exact grown_setCells_new h1 (by omega) _ _
          have hnb5 : WBlk wo.heap.size N w5 := by rw [hw5]; exact blk_kept HNB.out (grown_setCells ga _ _ _) (by simp; omega)
          have hlast5 : WBlk w.heap.size T w5 := by
            rw [hw5]
            exact blk_kept (blk_kept HLAST3.out HGR.out (by have := HG.out.size; have := heap_lt HBLK.out; simp; omega)) (grown_setCells ga _ _ _) (by simp; omega)
          have h6 := heap_setCells (tcells N) 0 w5 _ hlast5
          rw [setM_whole _ _ (by rw [hnl, tcells_len HTOK.out.1])] at h6
          have hown6 := World.ownsRow.kept hown5 (grown_setCells w.heap.size (tcells N) 0 w5) (.inr (by simp [Value.ownBlock]; omega))
          have hg6 : Gr w (w5.setCells w.heap.size 0 (tcells N)) := grown_setCells_new hg35 (Nat.le_refl _) _ _
          have hnb5' := hnb5
          unfold WBlk at hnb5'
          have hnb' := HNB.out
          unfold WBlk at hnb'
          have hlast5' := hlast5
          unfold WBlk at hlast5'
          have HTH := Lib.hid hthere
          have HTH6 := Lib.hid (show w5.there w.heap.size 0 (tcells N).toArray.size from there_block hlast5' (by rw [List.size_toArray, List.size_toArray, hnl, tcells_len HTOK.out.1]; omega))
          have HW5 := Lib.hid hw5
          have HNB5 := Lib.hid hnb5'
          have HNBr := Lib.hid hnb'
          have HB6 := Lib.hid h6
          have HOWN6 := Lib.hid hown6
          have HG6 := Lib.hid hg6
          have HBN := Lib.hid hbn
          have HNOK6 := Lib.hid hNok6
          have HSZ := Lib.hid hsz
          have HONE := Lib.hid (all_oneCell_toArray (cs := tcells N) (by
            intro v hv
            simp only [tcells, List.mem_flatMap] at hv
            obtain ⟨x, -, hx⟩ := hv
            simp only [wcl, List.mem_cons, List.not_mem_nil, or_false] at hx
            rcases hx with rfl | rfl | rfl | rfl <;> rfl))
          clear hbn hNok6 hown4 hall4 hcl hcl2 hnl hsz hthere hown5 eset hga hgb hw5 hg35 hnb5 hlast5 h6 hown6 hg6 hnb5' hnb' hlast5'
          go_upto_region 26 with (first | (refine wpList_load_row rfl 90 _ rfl wo.heap.size rfl 90 _ _ _ HNBr.out Tryd.underlying90 rfl HSZ.out ?_) | (refine wpList_store_mid rfl 90 _ _ rfl ga (k * 16) (tcells N).toArray rfl rfl HTH.out HSZ.out HONE.out ?_; rw [← HW5.out]))
          go_wp2_with (first | (refine wpList_load_row rfl 90 _ rfl wo.heap.size rfl 90 _ _ _ HNB5.out Tryd.underlying90 rfl HSZ.out ?_) | (refine wpList_store_mid rfl 90 _ _ rfl w.heap.size 0 (tcells N).toArray rfl rfl HTH6.out HSZ.out HONE.out ?_))
          go_roundw
          case rel =>
            refine ⟨_, c3, k + 1, L ++ [N], N, by omega, rfl, by go_num, by simp [HLL.out], HOWN6.out, fun X hX => ?_, ?_, by rw [List.reverse_append]; exact HBN.out, HB6.out, HG6.out⟩
            · rcases List.mem_append.1 hX with hX | hX
              · exact HLOK.out X hX
              · simp at hX; subst hX; exact HNOK6.out
            · have := HNOK.out; push_cast; exact this
          case measure => (simp [intOf] <;> omega)
    · obtain rfl : k = n + 2 := by omega
      have hln : (L.take (n + 2)).reverse = L.reverse := by rw [List.take_of_length_le (by rw [HLL.out]; exact Nat.le_refl _)]
      have HLN := Lib.hid hln
      have hres := ref_dec HBEST.out (by simp [HLL.out]) HL.out HS.out (by omega)
      have HRES := Lib.hid hres
      have hdk : decide (((n + 2 : Nat) : Int) < (n : Int) + 2) = false := by rw [decide_eq_false_iff_not]; omega
      clear hln hres
      go_wp2_with fail
      refine (trace_is (n := n + 2) (s := 0) (by push_cast; rfl) rfl ay (n + 2) cy L 1000000 wr HOWN.out.seg HLL.out HLOK.out (Nat.le_refl _) (by omega) (by omega)).mono ?_
      rintro e w9 ⟨g, rfl, hg9, hrd, hgr9⟩
      rw [HLN.out] at hrd
      have hrd2 := hrd.take n (by omega)
      rw [show (tr L.reverse ((0 : Nat) : Int)).take n = dec n ss 0 from HRES.out.2] at hrd2
      have HRD := Lib.hid hrd2
      have HG9 := Lib.hid (HG.out.trans hgr9)
      clear hrd hrd2 hgr9
      go_wp2_with fail
      go_ret2
      exact ⟨_, _, rfl, HRD.out, HG9.out⟩
end Go.Proofs.YtcleegibdcphiaaDoor
