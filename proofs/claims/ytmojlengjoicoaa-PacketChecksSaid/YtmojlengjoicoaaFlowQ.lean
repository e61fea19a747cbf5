/- Layer 06 (flow): Predict, of the program and of the reference. -/
import Derived.Test.YtmojlengjoicoaaFlowP
import Derived.Test.YtmojlengjoicoaaMemC
namespace Go.Proofs.Ytmojlengjoicoaa
open Go.ChangeShapes Go.WideShapes Go.ChangeAt Go.RowKit

def zeroH : Hdr := ⟨0, 0, 0, 0, 0, 0, 0, 0, 0, 0, 0, 0, 0, 0, 0⟩
def updU (a : Hdr) (i : Int) : Hdr := ⟨a.kind, a.tos, i, a.fixed, a.ttl, a.frm, a.to, a.fport, a.tport, 0, 0, a.type, a.seq, a.time, a.source⟩
def updR (a : Hdr) (q t i : Int) : Hdr := ⟨a.kind, a.tos, i, a.fixed, a.ttl, a.frm, a.to, a.fport, a.tport, 0, 0, a.type, q, t, a.source⟩
def stepH (a : Hdr) (n : Int) : Int := signedS 16 (numH a) n
def predH (s f : Int) (a : Hdr) (n : Int) : Hdr :=
  if validH a && dynB s f then
    if a.kind = 1 then updU a (lowS 16 n)
    else updR a (lowS 16 n) (lowS 32 (a.time + s * stepH a n)) (lowS 16 (a.id + f * stepH a n))
  else zeroH
abbrev HCells (h : Hdr) : List Value := [.int .i64 h.kind, .int .i64 h.tos, .int .i64 h.id, .int .i64 h.fixed, .int .i64 h.ttl, .int .i64 h.frm, .int .i64 h.to, .int .i64 h.fport, .int .i64 h.tport, .int .i64 h.check, .int .i64 h.marker, .int .i64 h.type, .int .i64 h.seq, .int .i64 h.time, .int .i64 h.source]
theorem HBlk.there {g : Nat} {h : Hdr} {w : World} (hb : HBlk g h w) : w.there g 0 15 := there_block hb (by simp)
theorem hcells_one (k : Hdr) : (HCells k).toArray.all (·.oneCell') = true := all_oneCell_toArray (by
  intro v hv
  simp only [List.mem_cons, List.not_mem_nil, or_false] at hv
  rcases hv with rfl | rfl | rfl | rfl | rfl | rfl | rfl | rfl | rfl | rfl | rfl | rfl | rfl | rfl | rfl <;> rfl)
theorem HBlk.put {g : Nat} {h : Hdr} {w : World} (hb : HBlk g h w) (k : Hdr) : HBlk g k (w.setCells g 0 (HCells k)) := heap_setCells (HCells k) 0 w (HCells h) hb
theorem pvalid_is {h : Hdr} {V : Bool} (hv : validH h = V) (w : World) (ho : HOk h) : Calls Try.prog 49 #[HVal h] w fun e w' => e = .returned (.bool V) ∧ Gr w w' := hv ▸ pvalid_any h w ho
theorem dyn_is {s f : Int} {V : Bool} (hv : dynB s f = V) (w : World) : Calls Try.prog 56 #[DVal s f] w fun e w' => e = .returned (.bool V) ∧ Gr w w' := hv ▸ dyn_any s f w
theorem rvalid_is {h : Hdr} {V : Bool} (hv : validH h = V) (w : World) : Calls Try.prog 23 #[HVal h] w fun e w' => e = .returned (.bool V) ∧ Gr w w' := hv ▸ rvalid_any h w
theorem rdyn_is {s f : Int} {V : Bool} (hv : dynB s f = V) (w : World) : Calls Try.prog 38 #[DVal s f] w fun e w' => e = .returned (.bool V) ∧ Gr w w' := hv ▸ rdyn_any s f w
theorem num_is {h : Hdr} {n : Int} (hv : numH h = n) (w : World) : Calls Try.prog 21 #[HVal h] w fun e w' => e = .returned (.int .i64 n) ∧ Gr w w' := hv ▸ num_any h w
theorem low_is {n x y r : Int} (hx : x = y) (hv : lowS n y = r) (w : World) : Calls Try.prog 55 #[.int .i64 n, .int .i64 x] w fun e w' => e = .returned (.int .i64 r) ∧ w = w' := by
  subst hx; exact hv ▸ slow n x w
theorem signed_is {n a b r : Int} (hv : signedS n a b = r) (w : World) : Calls Try.prog 57 #[.int .i64 n, .int .i64 a, .int .i64 b] w fun e w' => e = .returned (.int .i64 r) ∧ w = w' := hv ▸ ssigned n a b w
theorem dyn_yes {s f : Int} (h : dynB s f = true) : 0 ≤ s ∧ s ≤ 65535 ∧ (f = 0 ∨ f = 1) := by simpa [dynB] using h
theorem inB_yes {n m : Int} (h : inB n m = true) : 0 ≤ n ∧ n ≤ m := by simpa [inB] using h
theorem valid_rng {a : Hdr} (h : validH a = true) : 0 ≤ a.id ∧ a.id ≤ 65535 ∧ 0 ≤ a.time ∧ a.time ≤ 4294967295 := by
  simp only [validH, commonB, Bool.and_eq_true] at h
  obtain ⟨_, ⟨⟨⟨⟨⟨⟨⟨⟨_, _⟩, h3⟩, _⟩, _⟩, _⟩, _⟩, _⟩, _⟩, h4⟩ := h
  have h5 := inB_yes h3
  unfold restB at h4
  split at h4
  · simp only [Bool.and_eq_true, beq_iff_eq] at h4
    omega
  · simp only [Bool.and_eq_true] at h4
    have := inB_yes h4.1.2
    omega
theorem mul_rng {s t : Int} (h1 : 0 ≤ s) (h2 : s ≤ 65535) (h3 : -4294967296 ≤ t) (h4 : t ≤ 4294967296) : -2 ^ 48 ≤ s * t ∧ s * t ≤ 2 ^ 48 := by
  have a1 : s * t ≤ s * 4294967296 := Int.mul_le_mul_of_nonneg_left h4 h1
  have a2 : s * -4294967296 ≤ s * t := Int.mul_le_mul_of_nonneg_left h3 h1
  omega
theorem blocks3 (w : World) (a b c : Obj) : (((w.alloc a).alloc b).alloc c).heap[w.heap.size]? = some a ∧ (((w.alloc a).alloc b).alloc c).heap[w.heap.size + 1]? = some b ∧ (((w.alloc a).alloc b).alloc c).heap[w.heap.size + 1 + 1]? = some c := by
  refine ⟨?_, ?_, ?_⟩
  · rw [(Gr.alloc _ _).block _ (by simp; omega) (by simp), (Gr.alloc _ _).block _ (by simp) (by simp)]; exact heap_alloc_new _ _
  · rw [(Gr.alloc _ _).block _ (by simp) (by simp)]; exact heap_two _ _ _
  · have := heap_two (w.alloc a) b c
    simpa using this
-- the world gets a name: a header in a new block over w4
set_option maxRecDepth 100000 in
set_option maxHeartbeats 4000000 in
theorem predict_any (s f : Int) (a : Hdr) (n : Int) (w : World) (ho : HOk a) : Calls Try.prog 22 #[DVal s f, HVal a, .int .i64 n] w fun e w' => e = .returned (HVal (predH s f a n)) ∧ Gr w w' := by
  have HO := Lib.hid ho
  clear ho
  go_enter Try.func22, Try.ntmps22
  go_upto_region 1 with (fail)
  obtain ⟨w1, hw1⟩ : ∃ y, y = ((w.alloc (.cells #[.int .i64 s, .int .i64 f] 33)).alloc (.cells (HCells a).toArray 29)).alloc (.cells (HCells zeroH).toArray 29) := ⟨_, rfl⟩
  obtain ⟨hd1, ha1, hz1⟩ : w1.heap[w.heap.size]? = some (.cells #[.int .i64 s, .int .i64 f] 33 (0, 0)) ∧ HBlk (w.heap.size + 1) a w1 ∧ HBlk (w.heap.size + 1 + 1) zeroH w1 := by rw [hw1]; exact blocks3 _ _ _ _
  have hg1 : Gr w w1 := by rw [hw1]; exact (Gr.alloc _ _).trans ((Gr.alloc _ _).trans (Gr.alloc _ _))
  simp only [HCells, zeroH] at hw1
  rw [← hw1]
  have HD1 := Lib.hid hd1
  have HA1 := Lib.hid ha1
  have HZ1 := Lib.hid hz1
  have HG1 := Lib.hid hg1
  clear hw1 hd1 ha1 hz1 hg1
  have ha1' := HA1.out
  unfold HBlk at ha1'
  have HA1' := Lib.hid ha1'
  clear ha1'
  obtain ⟨V, hV⟩ : ∃ V, validH a = V := ⟨_, rfl⟩
  have HV := Lib.hid hV
  clear hV
  go_wp2_with (first | (refine wpList_load_row rfl 29 _ rfl (w.heap.size + 1) rfl 29 _ _ _ HA1'.out Try.underlying29 rfl (by kernel_rfl) ?_))
  refine (pvalid_is HV.out w1 HO.out).mono ?_
  rintro e w2 ⟨rfl, hg2⟩
  have HD2 := Lib.hid (show w2.heap[w.heap.size]? = some (.cells #[.int .i64 s, .int .i64 f] 33 (0, 0)) by rw [hg2.block _ (heap_lt HD1.out) (by simp)]; exact HD1.out)
  have HA2 := Lib.hid (HA1.out.kept hg2)
  have HZ2 := Lib.hid (HZ1.out.kept hg2)
  have HG2 := Lib.hid (HG1.out.trans hg2)
  clear hg2 HD1 HA1 HA1' HZ1 HG1
  cases V
  · have HRES := Lib.hid (show Ending.returned (HVal zeroH) = .returned (HVal (predH s f a n)) by unfold predH; rw [HV.out]; rfl)
    have hbe := ((HZ2.out).kept (Gr.refl _)).put (zeroH)
    have hthr := (HZ2.out).there
    have hge := grown_setCells_new (HG2.out) (g := w.heap.size + 1 + 1) (by omega) (HCells (zeroH)) 0
    obtain ⟨w9, hw9⟩ : ∃ y, y = (w2).setCells (w.heap.size + 1 + 1) 0 (HCells (zeroH)).toArray.toList := ⟨_, rfl⟩
    have HBE := Lib.hid (show HBlk (w.heap.size + 1 + 1) (zeroH) w9 by rw [hw9]; exact hbe)
    have HTH := Lib.hid hthr
    have HGE := Lib.hid (show Gr w w9 by rw [hw9]; exact hge)
    have HW9 := Lib.hid hw9
    clear hbe hthr hge hw9
    go_wp2_with (first | (refine wpList_store_mid rfl 29 _ _ rfl (w.heap.size + 1 + 1) 0 (HCells (zeroH)).toArray rfl rfl HTH.out (by kernel_rfl) (hcells_one _) ?_; rw [← HW9.out]))
    exact bodyPost_ret (v := HVal (zeroH)) (results_cell_row Try.results22 _ _ (w.heap.size + 1 + 1) _ _ _ _ rfl HBE.out Try.underlying29 rfl (by kernel_rfl)) rfl ⟨HRES.out, HGE.out⟩
  · obtain ⟨V, hV⟩ : ∃ V, dynB s f = V := ⟨_, rfl⟩
    have HW := Lib.hid hV
    clear hV
    have x0 : w2.cell? ⟨w.heap.size, 0, none⟩ = some (.int .i64 s) := by rw [cell_of_block HD2.out]; rfl
    have x1 : w2.cell? ⟨w.heap.size, 1, none⟩ = some (.int .i64 f) := by rw [cell_of_block HD2.out]; rfl
    go_wp2_with fail
    refine (dyn_is HW.out w2).mono ?_
    rintro e w3 ⟨rfl, hg3⟩
    have HD3 := Lib.hid (show w3.heap[w.heap.size]? = some (.cells #[.int .i64 s, .int .i64 f] 33 (0, 0)) by rw [hg3.block _ (heap_lt HD2.out) (by simp)]; exact HD2.out)
    have HA3 := Lib.hid (HA2.out.kept hg3)
    have HZ3 := Lib.hid (HZ2.out.kept hg3)
    have HG3 := Lib.hid (HG2.out.trans hg3)
    clear hg3 HD2 HA2 HZ2 HG2 x0 x1
    cases V
    · have HRES := Lib.hid (show Ending.returned (HVal zeroH) = .returned (HVal (predH s f a n)) by unfold predH; rw [HW.out, Bool.and_false]; rfl)
      have hbe := ((HZ3.out).kept (Gr.refl _)).put (zeroH)
      have hthr := (HZ3.out).there
      have hge := grown_setCells_new (HG3.out) (g := w.heap.size + 1 + 1) (by omega) (HCells (zeroH)) 0
      obtain ⟨w9, hw9⟩ : ∃ y, y = (w3).setCells (w.heap.size + 1 + 1) 0 (HCells (zeroH)).toArray.toList := ⟨_, rfl⟩
      have HBE := Lib.hid (show HBlk (w.heap.size + 1 + 1) (zeroH) w9 by rw [hw9]; exact hbe)
      have HTH := Lib.hid hthr
      have HGE := Lib.hid (show Gr w w9 by rw [hw9]; exact hge)
      have HW9 := Lib.hid hw9
      clear hbe hthr hge hw9
      go_wp2_with (first | (refine wpList_store_mid rfl 29 _ _ rfl (w.heap.size + 1 + 1) 0 (HCells (zeroH)).toArray rfl rfl HTH.out (by kernel_rfl) (hcells_one _) ?_; rw [← HW9.out]))
      exact bodyPost_ret (v := HVal (zeroH)) (results_cell_row Try.results22 _ _ (w.heap.size + 1 + 1) _ _ _ _ rfl HBE.out Try.underlying29 rfl (by kernel_rfl)) rfl ⟨HRES.out, HGE.out⟩
    · have ha3' := HA3.out
      unfold HBlk at ha3'
      have HA3' := Lib.hid ha3'
      obtain ⟨N, hN⟩ : ∃ N, numH a = N := ⟨_, rfl⟩
      obtain ⟨st, hst⟩ : ∃ t, signedS 16 N n = t := ⟨_, rfl⟩
      have HN := Lib.hid hN
      have HST := Lib.hid hst
      clear ha3' hN hst
      go_wp2_with (first | (refine wpList_load_row rfl 29 _ rfl (w.heap.size + 1) rfl 29 _ _ _ HA3'.out Try.underlying29 rfl (by kernel_rfl) ?_))
      refine (num_is HN.out w3).mono ?_
      rintro e w4 ⟨rfl, hg4⟩
      have HD4 := Lib.hid (show w4.heap[w.heap.size]? = some (.cells #[.int .i64 s, .int .i64 f] 33 (0, 0)) by rw [hg4.block _ (heap_lt HD3.out) (by simp)]; exact HD3.out)
      have HA4 := Lib.hid (HA3.out.kept hg4)
      have HZ4 := Lib.hid (HZ3.out.kept hg4)
      have HG4 := Lib.hid (HG3.out.trans hg4)
      have ha4' := HA4.out
      unfold HBlk at ha4'
      have HA4' := Lib.hid ha4'
      clear hg4 HD3 HA3 HA3' HZ3 HG3 ha4'
      go_upto_region 6 with (first | (refine wpList_load_row rfl 29 _ rfl (w.heap.size + 1) rfl 29 _ _ _ HA4'.out Try.underlying29 rfl (by kernel_rfl) ?_) | (go_at_call 57; ((with_reducible refine (signed_is HST.out _).mono ?_)); rintro e w' ⟨rfl, rfl⟩))
      by_cases hk : a.kind = 1
      · have hkb : (a.kind == 1) = true := by simpa using hk
        obtain ⟨L1, hL1⟩ : ∃ t, lowS 16 n = t := ⟨_, rfl⟩
        have HL1 := Lib.hid hL1
        have HRES := Lib.hid (show Ending.returned (HVal (updU a L1)) = .returned (HVal (predH s f a n)) by
          unfold predH; rw [HV.out, HW.out, Bool.and_self, if_pos rfl, if_pos hk, HL1.out])
        clear hk hL1
        go_upto_region 8 with (go_at_call 55; ((with_reducible refine (low_is rfl HL1.out _).mono ?_)); rintro e w' ⟨rfl, rfl⟩)
        obtain ⟨w5, hw5⟩ : ∃ y, y = w4.alloc (.cells (HCells ((updU a L1))).toArray 29) := ⟨_, rfl⟩
        have hr5 : HBlk w4.heap.size ((updU a L1)) w5 := by rw [hw5]; exact heap_alloc_new _ _
        have hg5 : Gr w4 w5 := by rw [hw5]; exact Gr.alloc _ _
        simp only [HCells, updU] at hw5
        rw [← hw5]
        have hr5' := hr5
        unfold HBlk at hr5'
        have HR5' := Lib.hid hr5'
        have HZ5 := Lib.hid (HZ4.out.kept hg5)
        have HG5 := Lib.hid (HG4.out.trans hg5)
        clear hw5 hr5 hg5 hr5'
        have hbe := ((HZ5.out).kept (Gr.refl _)).put ((updU a L1))
        have hthr := (HZ5.out).there
        have hge := grown_setCells_new (HG5.out) (g := w.heap.size + 1 + 1) (by omega) (HCells ((updU a L1))) 0
        obtain ⟨w9, hw9⟩ : ∃ y, y = (w5).setCells (w.heap.size + 1 + 1) 0 (HCells ((updU a L1))).toArray.toList := ⟨_, rfl⟩
        have HBE := Lib.hid (show HBlk (w.heap.size + 1 + 1) ((updU a L1)) w9 by rw [hw9]; exact hbe)
        have HTH := Lib.hid hthr
        have HGE := Lib.hid (show Gr w w9 by rw [hw9]; exact hge)
        have HW9 := Lib.hid hw9
        clear hbe hthr hge hw9
        go_wp2_with (first | (refine wpList_load_row rfl 29 _ rfl w4.heap.size rfl 29 _ _ _ HR5'.out Try.underlying29 rfl (by kernel_rfl) ?_) | (refine wpList_store_mid rfl 29 _ _ rfl (w.heap.size + 1 + 1) 0 (HCells ((updU a L1))).toArray rfl rfl HTH.out (by kernel_rfl) (hcells_one _) ?_; rw [← HW9.out]))
        exact bodyPost_ret (v := HVal ((updU a L1))) (results_cell_row Try.results22 _ _ (w.heap.size + 1 + 1) _ _ _ _ rfl HBE.out Try.underlying29 rfl (by kernel_rfl)) rfl ⟨HRES.out, HGE.out⟩
      · have hkb : (a.kind == 1) = false := by simpa using hk
        obtain ⟨d1, d2, d3⟩ := dyn_yes HW.out
        have hsr := signed_rng 16 N n
        rw [HST.out] at hsr
        obtain ⟨t1, t2⟩ := hsr
        obtain ⟨m1, m2⟩ := mul_rng d1 d2 t1 t2
        obtain ⟨p, hp⟩ : ∃ p, s * st = p := ⟨_, rfl⟩
        rw [hp] at m1 m2
        obtain ⟨q, hq⟩ : ∃ q, f * st = q := ⟨_, rfl⟩
        have hq1 : -4294967296 ≤ q ∧ q ≤ 4294967296 := by rcases d3 with rfl | rfl <;> omega
        obtain ⟨q1, q2⟩ := hq1
        have hvr := valid_rng HV.out
        obtain ⟨v1, v2, v3, v4⟩ := hvr
        obtain ⟨L1, hL1⟩ : ∃ t, lowS 16 n = t := ⟨_, rfl⟩
        obtain ⟨L2, hL2⟩ : ∃ t, lowS 32 (a.time + p) = t := ⟨_, rfl⟩
        obtain ⟨L3, hL3⟩ : ∃ t, lowS 16 (a.id + q) = t := ⟨_, rfl⟩
        have HL1 := Lib.hid hL1
        have HL2 := Lib.hid hL2
        have HL3 := Lib.hid hL3
        have HRES := Lib.hid (show Ending.returned (HVal (updR a L1 L2 L3)) = .returned (HVal (predH s f a n)) by
          unfold predH stepH; rw [HV.out, HW.out, Bool.and_self, if_pos rfl, if_neg hk, HN.out, HST.out, hp, hq, HL1.out, HL2.out, HL3.out])
        have hmm1 : ∀ u : World, u = u := fun _ => rfl
        clear hk hL1 hL2 hL3 d3 hmm1
        have x0 : ∀ o, (w4.alloc o).cell? ⟨w.heap.size, 0, none⟩ = some (.int .i64 s) := fun o => (Gr.alloc w4 o).cell (by rw [cell_of_block HD4.out]; rfl)
        have x1 : ∀ o, (w4.alloc o).cell? ⟨w.heap.size, 1, none⟩ = some (.int .i64 f) := fun o => (Gr.alloc w4 o).cell (by rw [cell_of_block HD4.out]; rfl)
        have y2 : ∀ o, (w4.alloc o).cell? ⟨w.heap.size + 1, 2, none⟩ = some (.int .i64 a.id) := fun o => (Gr.alloc w4 o).cell (HA4.out.at 2 rfl)
        have y13 : ∀ o, (w4.alloc o).cell? ⟨w.heap.size + 1, 13, none⟩ = some (.int .i64 a.time) := fun o => (Gr.alloc w4 o).cell (HA4.out.at 13 rfl)
        go_upto_region 12 with (first | (go_at_call 55; ((with_reducible refine (low_is rfl HL1.out _).mono ?_)); rintro e w' ⟨rfl, rfl⟩) | (go_at_call 55; ((with_reducible refine (low_is rfl HL2.out _).mono ?_)); rintro e w' ⟨rfl, rfl⟩) | (go_at_call 55; ((with_reducible refine (low_is rfl HL3.out _).mono ?_)); rintro e w' ⟨rfl, rfl⟩))
        clear x0 x1 y2 y13
        obtain ⟨w5, hw5⟩ : ∃ y, y = w4.alloc (.cells (HCells ((updR a L1 L2 L3))).toArray 29) := ⟨_, rfl⟩
        have hr5 : HBlk w4.heap.size ((updR a L1 L2 L3)) w5 := by rw [hw5]; exact heap_alloc_new _ _
        have hg5 : Gr w4 w5 := by rw [hw5]; exact Gr.alloc _ _
        simp only [HCells, updR] at hw5
        rw [← hw5]
        have hr5' := hr5
        unfold HBlk at hr5'
        have HR5' := Lib.hid hr5'
        have HZ5 := Lib.hid (HZ4.out.kept hg5)
        have HG5 := Lib.hid (HG4.out.trans hg5)
        clear hw5 hr5 hg5 hr5'
        have hbe := ((HZ5.out).kept (Gr.refl _)).put ((updR a L1 L2 L3))
        have hthr := (HZ5.out).there
        have hge := grown_setCells_new (HG5.out) (g := w.heap.size + 1 + 1) (by omega) (HCells ((updR a L1 L2 L3))) 0
        obtain ⟨w9, hw9⟩ : ∃ y, y = (w5).setCells (w.heap.size + 1 + 1) 0 (HCells ((updR a L1 L2 L3))).toArray.toList := ⟨_, rfl⟩
        have HBE := Lib.hid (show HBlk (w.heap.size + 1 + 1) ((updR a L1 L2 L3)) w9 by rw [hw9]; exact hbe)
        have HTH := Lib.hid hthr
        have HGE := Lib.hid (show Gr w w9 by rw [hw9]; exact hge)
        have HW9 := Lib.hid hw9
        clear hbe hthr hge hw9
        go_wp2_with (first | (refine wpList_load_row rfl 29 _ rfl w4.heap.size rfl 29 _ _ _ HR5'.out Try.underlying29 rfl (by kernel_rfl) ?_) | (refine wpList_store_mid rfl 29 _ _ rfl (w.heap.size + 1 + 1) 0 (HCells ((updR a L1 L2 L3))).toArray rfl rfl HTH.out (by kernel_rfl) (hcells_one _) ?_; rw [← HW9.out]))
        exact bodyPost_ret (v := HVal ((updR a L1 L2 L3))) (results_cell_row Try.results22 _ _ (w.heap.size + 1 + 1) _ _ _ _ rfl HBE.out Try.underlying29 rfl (by kernel_rfl)) rfl ⟨HRES.out, HGE.out⟩
end Go.Proofs.Ytmojlengjoicoaa
