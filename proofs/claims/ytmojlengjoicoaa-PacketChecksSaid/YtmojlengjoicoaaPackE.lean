/- Layer 05 (packet): Build of the program and of the reference. -/
import Derived.Test.YtmojlengjoicoaaPackD
namespace Go.Proofs.Ytmojlengjoicoaa
open Go.ChangeShapes Go.WideShapes Go.ChangeAt Go.RowKit

theorem OwnI.le_cap {B : Nat} {e : TypeId} {k : IntKind} {w : World} {a : Option Addr} {n cap : Nat} {xs : List Int} (h : OwnI B e k w a n cap xs) : n ≤ cap := by
  rcases h.row.2 with ⟨hv, h0⟩ | ⟨g, cap', cur, hv, _, _, hn, _⟩
  · omega
  · injection hv with _ _ e3; omega
/-- Owned bytes behind a growth. -/
def BytI (w0 : World) (a : Option Addr) (n cap : Nat) (xs : List Int) (wn : World) : Prop := OwnI w0.heap.size 5 .u8 wn a n cap xs ∧ Gr w0 wn
theorem BytI.turn {w0 wn w' : World} {a a' : Option Addr} {n n' cap cap' : Nat} {xs ys : List Int} (hI : BytI w0 a n cap xs wn) (ho : OwnI w0.heap.size 5 .u8 w' a' n' cap' ys) (hg : wn.grownBy w' (Value.slice a n cap).ownBlock) : BytI w0 a' n' cap' ys w' :=
  ⟨ho, grown_own hI.2 hI.1 (Nat.le_refl _) hg⟩
theorem BytI.gr {w0 wn w' : World} {a : Option Addr} {n cap : Nat} {xs : List Int} (hI : BytI w0 a n cap xs wn) (hg : Gr wn w') : BytI w0 a n cap xs w' := ⟨hI.1.stay hg, hI.2.trans hg⟩
theorem BytI.app {w0 wn : World} {a : Option Addr} {n cap : Nat} {xs : List Int} (hI : BytI w0 a n cap xs wn) (b : Option Addr) (m c : Nat) (ys : List Int) (N : Nat) (hN : N = n + m) (hr : Rd .u8 wn b m ys) (hm : n + m ≤ 140737488355328) :
    ∃ a' cap' w', (Builtin.append_ #[52, 52] 52 #[.slice a n cap, .slice b m c]).run Try.prog wn = .ok (.slice a' N cap') w' ∧ BytI w0 a' N cap' (xs ++ ys) w' := by
  subst hN
  obtain ⟨a', cap', w', h1, h2, h3, _⟩ := app_u8 _ wn a n cap xs hI.1 b m c ys hr hm hI.2.size
  exact ⟨a', cap', w', h1, hI.turn h2 h3⟩
theorem BytI.put {w0 wn : World} {g n cap : Nat} {xs : List Int} (hI : BytI w0 (some ⟨g, 0, none⟩) n cap xs wn) (o k : Nat) (O K x : Int) (hO : O = o) (hK : K = k) (h1 : o + k ≤ n) (h3 : n ≤ 100000) (hx : i64 x) :
    Calls Try.prog 67 #[.slice (some ⟨g, 0, none⟩) n cap, .int .i64 O, .int .i64 K, .int .i64 x] wn fun e w' => e = .returned (.tuple #[]) ∧ BytI w0 (some ⟨g, 0, none⟩) n cap (setM xs o (putR x k)) w' := by
  refine (pput_at _ g n cap xs n cap o k O K x wn hO hK hI.1 h1 (Nat.le_refl _) h3 hx).mono ?_
  rintro e w' ⟨rfl, ho, hg⟩
  exact ⟨rfl, hI.turn ho hg⟩
theorem set_any (B g N C : Nat) (xs : List Int) (o : Nat) (O v : Int) (w : World) (hO : O = o) (hown : OwnI B 5 .u8 w (some ⟨g, 0, none⟩) N C xs) (h1 : o + 2 ≤ N) (h3 : N ≤ 100000) (h0 : 0 ≤ v) (hv : v ≤ 65535) :
    Calls Try.prog 66 #[.slice (some ⟨g, 0, none⟩) N C, .int .i64 O, .int .i64 v] w fun e w' => e = .returned (.tuple #[]) ∧ OwnI B 5 .u8 w' (some ⟨g, 0, none⟩) N C (setM xs o (putR v 2)) ∧ w.grownBy w' (some g) := by
  subst hO
  obtain ⟨c1, f1⟩ := hown.at o (by omega)
  have hs := hown.set o (v / 256) (WalkArith.wf_u8 (by omega))
  obtain ⟨c2, f2⟩ := hs.at (o + 1) (by omega)
  have hs2 := hs.set (o + 1) (v % 256) (WalkArith.wf_u8 (by omega))
  have e : setM xs o (putR v 2) = (xs.set o (v / 256)).set (o + 1) (v % 256) := by
    rw [putR2, show v / 256 % 256 = v / 256 by omega]; rfl
  rw [← e] at hs2
  have HS := Lib.hid hs2
  have HG := Lib.hid (grown_trans' (grown_setAt w g o (.int .u8 (v / 256))) (grown_setAt (w.setCell ⟨g, o, none⟩ (.int .u8 (v / 256))) g (o + 1) (.int .u8 (v % 256))))
  clear hs hs2 e hown
  go_enter Try.func66, Try.ntmps66
  go_wp2_with fail
  first | go_end0 | (go_show; fail)
  exact ⟨rfl, HS.out, HG.out⟩
theorem BytI.set {w0 wn : World} {g n cap : Nat} {xs : List Int} (hI : BytI w0 (some ⟨g, 0, none⟩) n cap xs wn) (o : Nat) (O x : Int) (hO : O = o) (h1 : o + 2 ≤ n) (h3 : n ≤ 100000) (h0 : 0 ≤ x) (hx : x ≤ 65535) :
    Calls Try.prog 66 #[.slice (some ⟨g, 0, none⟩) n cap, .int .i64 O, .int .i64 x] wn fun e w' => e = .returned (.tuple #[]) ∧ BytI w0 (some ⟨g, 0, none⟩) n cap (setM xs o (putR x 2)) w' := by
  refine (set_any _ g n cap xs o O x wn hO hI.1 h1 h3 h0 hx).mono ?_
  rintro e w' ⟨rfl, ho, hg⟩
  exact ⟨rfl, hI.turn ho hg⟩
theorem head_no (h : Hdr) (w : World) (hv : validH h = false) (ho : HOk h) : Calls Try.prog 50 #[HVal h] w fun e w' => e = .returned (.slice none 0 0) ∧ Gr w w' := by
  have HV := Lib.hid hv
  have HO := Lib.hid ho
  clear hv ho
  go_enter Try.func50, Try.ntmps50
  go_upto_region 1 with (fail)
  obtain ⟨w1, hw1⟩ : ∃ y, y = w.alloc (.cells (HCells h).toArray 29) := ⟨_, rfl⟩
  have hb1 : HBlk w.heap.size h w1 := by rw [hw1]; exact heap_alloc_new _ _
  have hg1 : Gr w w1 := by rw [hw1]; exact Gr.alloc _ _
  simp only [HCells] at hw1
  rw [← hw1]
  have hb1' := hb1
  unfold HBlk at hb1'
  have HB1' := Lib.hid hb1'
  have HG1 := Lib.hid hg1
  clear hw1 hb1 hb1' hg1
  go_wp2_with (first | (refine wpList_load_row rfl 29 _ rfl w.heap.size rfl 29 _ _ _ HB1'.out Try.underlying29 rfl (by kernel_rfl) ?_))
  refine (pvalid_is HV.out w1 HO.out).mono ?_
  rintro e w2 ⟨rfl, hg2⟩
  have HG2 := Lib.hid (HG1.out.trans hg2)
  clear hg2 HB1' HG1
  go_wp2_with fail
  go_ret
  exact ⟨rfl, HG2.out⟩
theorem rhead_no (h : Hdr) (w : World) (hv : validH h = false) : Calls Try.prog 51 #[HVal h] w fun e w' => e = .returned (.slice none 0 0) ∧ Gr w w' := by
  have HV := Lib.hid hv
  clear hv
  go_enter Try.func51, Try.ntmps51
  go_upto_region 1 with (fail)
  obtain ⟨w1, hw1⟩ : ∃ y, y = w.alloc (.cells (HCells h).toArray 29) := ⟨_, rfl⟩
  have hb1 : HBlk w.heap.size h w1 := by rw [hw1]; exact heap_alloc_new _ _
  have hg1 : Gr w w1 := by rw [hw1]; exact Gr.alloc _ _
  simp only [HCells] at hw1
  rw [← hw1]
  have hb1' := hb1
  unfold HBlk at hb1'
  have HB1' := Lib.hid hb1'
  have HG1 := Lib.hid hg1
  clear hw1 hb1 hb1' hg1
  go_wp2_with (first | (refine wpList_load_row rfl 29 _ rfl w.heap.size rfl 29 _ _ _ HB1'.out Try.underlying29 rfl (by kernel_rfl) ?_))
  refine (rvalid_is HV.out w1).mono ?_
  rintro e w2 ⟨rfl, hg2⟩
  have HG2 := Lib.hid (HG1.out.trans hg2)
  clear hg2 HB1' HG1
  go_wp2_with fail
  go_ret
  exact ⟨rfl, HG2.out⟩
def BuildPost (R : Int × List Int) (w : World) (e : Ending) (w' : World) : Prop :=
  ∃ a n cap, e = .returned (.tuple #[.slice a n cap, .int .i64 R.1]) ∧ n = R.2.length ∧ BytI w a n cap R.2 w'
theorem buildF_no {h : Hdr} (hv : validH h = false) (ys : List Int) : buildF h ys = (1, []) := by rw [buildF, hv]; rfl
theorem buildF_big {h : Hdr} (hv : validH h = true) {ys : List Int} (hl : 1500 < (headL h ++ ys).length) : buildF h ys = (2, []) := by
  rw [buildF, if_pos hv, if_pos hl]
theorem BytI.nil (w0 wn : World) (hg : Gr w0 wn) : BytI w0 none 0 0 [] wn := ⟨OwnI.nil _ _ _ _, hg⟩
set_option maxRecDepth 100000 in
set_option maxHeartbeats 2000000 in
theorem build_any (h : Hdr) (a : Option Addr) (m c : Nat) (ys : List Int) (w : World) (ho : HOk h) (hr : Rd .u8 w a m ys) (hm : m ≤ 140737488351232) : Calls Try.prog 46 #[HVal h, .slice a m c] w (BuildPost (buildF h ys) w) := by
  obtain ⟨R, hR⟩ : ∃ R, buildF h ys = R := ⟨_, rfl⟩
  have HRF := Lib.hid hR
  rw [hR]
  have HO := Lib.hid ho
  have HR := Lib.hid hr
  have HL := Lib.hid hr.len
  obtain ⟨V, hV⟩ : ∃ V, validH h = V := ⟨_, rfl⟩
  have HV := Lib.hid hV
  clear hR ho hr hV
  go_enter Try.func46, Try.ntmps46
  go_upto_region 1 with (fail)
  obtain ⟨w1, hw1⟩ : ∃ y, y = w.alloc (.cells (HCells h).toArray 29) := ⟨_, rfl⟩
  have hb1 : HBlk w.heap.size h w1 := by rw [hw1]; exact heap_alloc_new _ _
  have hg1 : Gr w w1 := by rw [hw1]; exact Gr.alloc _ _
  simp only [HCells] at hw1
  rw [← hw1]
  have hb1' := hb1
  unfold HBlk at hb1'
  have HB1' := Lib.hid hb1'
  have HG1 := Lib.hid hg1
  clear hw1 hb1 hb1' hg1
  go_wp2_with (first | (refine wpList_load_row rfl 29 _ rfl w.heap.size rfl 29 _ _ _ HB1'.out Try.underlying29 rfl (by kernel_rfl) ?_))
  cases V
  · refine (head_no h w1 HV.out HO.out).mono ?_
    rintro e w2 ⟨rfl, hg2⟩
    have HG2 := Lib.hid (HG1.out.trans hg2)
    have hnil : ∀ u : World, (binOp .eql 52 (.slice none 0 0) (.slice none 0 0)).run Try.prog u = .ok (.bool true) u := fun u => Lib.run_eql_slice_nil u _ _ _ _ _ _ _ Try.underlying52
    clear hg2 HB1' HG1
    go_wp2_with fail
    go_ret2
    have e := HRF.out
    rw [buildF_no HV.out] at e
    subst e
    exact ⟨none, 0, 0, rfl, rfl, BytI.nil _ _ HG2.out⟩
  · refine (head_yes h w1 HV.out HO.out).mono ?_
    rintro e w2 ⟨g, n, rfl, hn, ho2, hg2⟩
    have HN := Lib.hid hn
    have hn28 : n = 28 ∨ n = 40 := by rw [hn, headL_len]; split <;> omega
    have hnb : 28 ≤ n ∧ n ≤ 40 := by omega
    obtain ⟨n1, n2⟩ := hnb
    have H2 := Lib.hid (show BytI w (some ⟨g, 0, none⟩) n 40 (headL h) w2 from ⟨ho2.weak HG1.out.size, HG1.out.trans hg2⟩)
    have hnil : ∀ u : World, (binOp .eql 52 (.slice (some ⟨g, 0, none⟩) n 40) (.slice none 0 0)).run Try.prog u = .ok (.bool false) u := fun u => Lib.run_eql_slice_nil u _ _ _ _ _ _ _ Try.underlying52
    clear ho2 hg2 HB1' HG1 hn hn28
    by_cases hbig : 1500 < n + m
    · have hB : 1500 - (n : Int) < (m : Int) := by omega
      go_wp2_with fail
      go_ret2
      have e := HRF.out
      rw [buildF_big HV.out (by rw [List.length_append, ← HN.out, HL.out]; exact hbig)] at e
      subst e
      exact ⟨none, 0, 0, rfl, rfl, BytI.nil _ _ H2.out.2⟩
    · obtain ⟨N, hN⟩ : ∃ N, N = n + m := ⟨_, rfl⟩
      obtain ⟨a3, cap3, w3, hrun, hb3⟩ := H2.out.app a m c ys N hN (HR.out.kept H2.out.2) (by omega)
      obtain ⟨g3, hg3, _⟩ := hb3.1.some (by omega)
      subst hg3
      have hcap : N ≤ cap3 := hb3.1.le_cap
      have H3 := Lib.hid hb3
      have HRUN := Lib.hid hrun
      have HNN := Lib.hid hN
      have hN1 : 28 ≤ N := by omega
      have hN2 : N ≤ 1500 := by omega
      have hNB : (m : Int) ≤ 1500 - (n : Int) := by omega
      have hXL := Lib.hid (show (headL h ++ ys).length = N by rw [List.length_append, ← HN.out, HL.out, hN])
      clear hb3 hrun hN
      go_upto_region 7 with (at_builtin; refine wpList_app rfl _ _ _ rfl rfl rfl HRUN.out ?_)
      clear HRUN H2 hbig hNB hnil
      go_wp2_with fail
      refine (H3.out.put 2 2 2 2 _ rfl rfl (by omega) (by omega) (by constructor <;> omega)).mono ?_
      rintro e w4 ⟨rfl, hb4⟩
      have H4 := Lib.hid hb4
      clear hb4 H3
      go_wp2_with fail
      refine (H4.out.put 24 2 24 2 _ rfl rfl (by omega) (by omega) (by constructor <;> omega)).mono ?_
      rintro e w5 ⟨rfl, hb5⟩
      have H5 := Lib.hid (show BytI w (some ⟨g3, 0, none⟩) N cap3 (put2 (headL h ++ ys)) w5 by unfold put2; rw [hXL.out]; exact hb5)
      clear hb5 H4
      go_wp2_with fail
      have hcut := (H5.out.1.cut 20 (by omega)).rd
      refine (sum_any _ 20 cap3 _ w5 hcut (by omega)).mono ?_
      rintro e w' ⟨rfl, rfl⟩
      have hfr := foldS_rng (foldS 0 + words ((put2 (headL h ++ ys)).take 20))
      have hsr : 0 ≤ addS 0 ((put2 (headL h ++ ys)).take 20) ∧ addS 0 ((put2 (headL h ++ ys)).take 20) ≤ 65535 := hfr
      obtain ⟨s, hs⟩ : ∃ s, addS 0 ((put2 (headL h ++ ys)).take 20) = s := ⟨_, rfl⟩
      rw [hs] at hsr ⊢
      obtain ⟨s1, s2⟩ := hsr
      have HS := Lib.hid hs
      clear hs hfr hcut
      go_wp2_with fail
      refine (H5.out.put 10 2 10 2 _ rfl rfl (by omega) (by omega) (by constructor <;> omega)).mono ?_
      rintro e w6 ⟨rfl, hb6⟩
      have H6 := Lib.hid (show BytI w (some ⟨g3, 0, none⟩) N cap3 (bldL (headL h ++ ys)) w6 by unfold bldL; rw [HS.out]; exact hb6)
      clear hb6 H5
      go_wp2_with fail
      go_ret2
      have e := HRF.out
      rw [buildF_yes HV.out (by rw [hXL.out]; exact hN2)] at e
      subst e
      exact ⟨_, N, cap3, rfl, by show N = (bldL _).length; rw [bldL_len, hXL.out], H6.out⟩
set_option maxRecDepth 100000 in
set_option maxHeartbeats 2000000 in
theorem rbuild_any (h : Hdr) (a : Option Addr) (m c : Nat) (ys : List Int) (w : World) (hr : Rd .u8 w a m ys) (hm : m ≤ 140737488351232) : Calls Try.prog 43 #[HVal h, .slice a m c] w (BuildPost (buildF h ys) w) := by
  obtain ⟨R, hR⟩ : ∃ R, buildF h ys = R := ⟨_, rfl⟩
  have HRF := Lib.hid hR
  rw [hR]
  have HR := Lib.hid hr
  have HL := Lib.hid hr.len
  obtain ⟨V, hV⟩ : ∃ V, validH h = V := ⟨_, rfl⟩
  have HV := Lib.hid hV
  clear hR hr hV
  go_enter Try.func43, Try.ntmps43
  go_upto_region 1 with (fail)
  obtain ⟨w1, hw1⟩ : ∃ y, y = w.alloc (.cells (HCells h).toArray 29) := ⟨_, rfl⟩
  have hb1 : HBlk w.heap.size h w1 := by rw [hw1]; exact heap_alloc_new _ _
  have hg1 : Gr w w1 := by rw [hw1]; exact Gr.alloc _ _
  simp only [HCells] at hw1
  rw [← hw1]
  have hb1' := hb1
  unfold HBlk at hb1'
  have HB1' := Lib.hid hb1'
  have HB1 := Lib.hid hb1
  have HG1 := Lib.hid hg1
  clear hw1 hb1 hb1' hg1
  go_wp2_with (first | (refine wpList_load_row rfl 29 _ rfl w.heap.size rfl 29 _ _ _ HB1'.out Try.underlying29 rfl (by kernel_rfl) ?_))
  refine (rvalid_is HV.out w1).mono ?_
  rintro e wv ⟨rfl, hgv⟩
  have hbv := HB1.out.kept hgv
  unfold HBlk at hbv
  have HBV := Lib.hid hbv
  have HGV := Lib.hid (HG1.out.trans hgv)
  clear hgv hbv HB1 HB1' HG1
  cases V
  · go_wp2_with fail
    go_ret2
    have e := HRF.out
    rw [buildF_no HV.out] at e
    subst e
    exact ⟨none, 0, 0, rfl, rfl, BytI.nil _ _ HGV.out⟩
  · go_wp2_with (first | (refine wpList_load_row rfl 29 _ rfl w.heap.size rfl 29 _ _ _ HBV.out Try.underlying29 rfl (by kernel_rfl) ?_))
    refine (rhead_yes h wv HV.out).mono ?_
    rintro e w2 ⟨a2, n, cap2, rfl, hn, ho2, hg2⟩
    have HN := Lib.hid hn
    have hn28 : n = 28 ∨ n = 40 := by rw [hn, headL_len]; split <;> omega
    have hnb : 28 ≤ n ∧ n ≤ 40 := by omega
    obtain ⟨n1, n2⟩ := hnb
    have H2 := Lib.hid (show BytI w a2 n cap2 (headL h) w2 from ⟨ho2.weak HGV.out.size, HGV.out.trans hg2⟩)
    clear ho2 hg2 HGV HBV hn hn28
    obtain ⟨N, hN⟩ : ∃ N, N = n + m := ⟨_, rfl⟩
    obtain ⟨a3, cap3, w3, hrun, hb3⟩ := H2.out.app a m c ys N hN (HR.out.kept H2.out.2) (by omega)
    obtain ⟨g3, hg3, _⟩ := hb3.1.some (by omega)
    subst hg3
    have hcap : N ≤ cap3 := hb3.1.le_cap
    have H3 := Lib.hid hb3
    have HRUN := Lib.hid hrun
    have HNN := Lib.hid hN
    have hN1 : 28 ≤ N := by omega
    have hN0 : N ≤ 140737488355328 := by omega
    have hXL := Lib.hid (show (headL h ++ ys).length = N by rw [List.length_append, ← HN.out, HL.out, hN])
    clear hb3 hrun hN
    by_cases hbig : 1500 < N
    · go_wp2_with (at_builtin; refine wpList_app rfl _ _ _ rfl rfl rfl HRUN.out ?_)
      go_ret2
      have e := HRF.out
      rw [buildF_big HV.out (by rw [hXL.out]; exact hbig)] at e
      subst e
      exact ⟨none, 0, 0, rfl, rfl, BytI.nil _ _ H3.out.2⟩
    · have hN2 : N ≤ 1500 := by omega
      go_wp2_with (at_builtin; refine wpList_app rfl _ _ _ rfl rfl rfl HRUN.out ?_)
      clear HRUN H2 hbig
      refine (H3.out.set 2 2 _ rfl (by omega) (by omega) (by omega) (by omega)).mono ?_
      rintro e w4 ⟨rfl, hb4⟩
      have H4 := Lib.hid hb4
      clear hb4 H3
      go_wp2_with fail
      refine (H4.out.set 24 24 _ rfl (by omega) (by omega) (by omega) (by omega)).mono ?_
      rintro e w5 ⟨rfl, hb5⟩
      have H5 := Lib.hid (show BytI w (some ⟨g3, 0, none⟩) N cap3 (put2 (headL h ++ ys)) w5 by unfold put2; rw [hXL.out]; exact hb5)
      clear hb5 H4
      go_wp2_with fail
      have hcut := (H5.out.1.cut 20 (by omega)).rd
      refine (rsum_any _ 20 cap3 _ w5 hcut (by omega)).mono ?_
      rintro e w' ⟨rfl, rfl⟩
      have hfr := foldS_rng (foldS 0 + words ((put2 (headL h ++ ys)).take 20))
      have hsr : 0 ≤ addS 0 ((put2 (headL h ++ ys)).take 20) ∧ addS 0 ((put2 (headL h ++ ys)).take 20) ≤ 65535 := hfr
      obtain ⟨s, hs⟩ : ∃ s, addS 0 ((put2 (headL h ++ ys)).take 20) = s := ⟨_, rfl⟩
      rw [hs] at hsr ⊢
      obtain ⟨s1, s2⟩ := hsr
      have HS := Lib.hid hs
      clear hs hfr hcut
      go_wp2_with fail
      refine (H5.out.set 10 10 _ rfl (by omega) (by omega) (by omega) (by omega)).mono ?_
      rintro e w6 ⟨rfl, hb6⟩
      have H6 := Lib.hid (show BytI w (some ⟨g3, 0, none⟩) N cap3 (bldL (headL h ++ ys)) w6 by unfold bldL; rw [HS.out]; exact hb6)
      clear hb6 H5
      go_wp2_with fail
      go_ret2
      have e := HRF.out
      rw [buildF_yes HV.out (by rw [hXL.out]; exact hN2)] at e
      subst e
      exact ⟨_, N, cap3, rfl, by show N = (bldL _).length; rw [bldL_len, hXL.out], H6.out⟩
end Go.Proofs.Ytmojlengjoicoaa
