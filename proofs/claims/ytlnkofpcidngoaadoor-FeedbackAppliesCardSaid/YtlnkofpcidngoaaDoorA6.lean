/- Several texts in one. -/
import Derived.Test.YtlnkofpcidngoaaDoorA0
import Derived.Test.YtlnkofpcidngoaaDoorA5
import Derived.Test.YtlnkofpcidngoaaDoorA1
/- Layer 06 (flow): Predict, of the program and of the reference. -/
namespace Go.Proofs.YtlnkofpcidngoaaDoor
open Go.ChangeShapes Go.WideShapes Go.ChangeAt Go.RowKit
def zeroH : Hdr := ⟨0, 0, 0, 0, 0, 0, 0, 0, 0, 0, 0, 0, 0, 0, 0⟩
def updU (a : Hdr) (i : Int) : Hdr := ⟨a.kind, a.tos, i, a.fixed, a.ttl, a.frm, a.to, a.fport, a.tport, 0, 0, a.type, a.seq, a.time, a.source⟩
def updR (a : Hdr) (q t i : Int) : Hdr := ⟨a.kind, a.tos, i, a.fixed, a.ttl, a.frm, a.to, a.fport, a.tport, 0, 0, a.type, q, t, a.source⟩
def stepH (a : Hdr) (n : Int) : Int := signedS 16 (numH a) n
def predH (s f : Int) (a : Hdr) (n : Int) : Hdr :=
 if validH a && dynB s f then
  if a.kind = 1 then updU a (lowS 16 n)
  else updR a (lowS 16 n) (lowS 32 (a.time + s * stepH a n)) (lowS 16 (a.id + f * stepH a n))
 else zeroH
abbrev HCells (h : Hdr) : List Value := [.int .i64 h.kind, .int .i64 h.tos, .int .i64 h.id, .int .i64 h.fixed, .int .i64 h.ttl, .int .i64 h.frm, .int .i64 h.to, .int .i64 h.fport, .int .i64 h.tport, .int .i64 h.check, .int .i64 h.marker, .int .i64 h.type, .int .i64 h.seq, .int .i64 h.time, .int .i64 h.source]
theorem HBlk.there {g : Nat} {h : Hdr} {w : World} (hb : HBlk g h w) : w.there g 0 15 := there_block hb (by simp)
theorem hcells_one (k : Hdr) : (HCells k).toArray.all (·.oneCell') = true := all_oneCell_toArray (by
 intro v hv
 simp only [List.mem_cons, List.not_mem_nil, or_false] at hv
 rcases hv with rfl | rfl | rfl | rfl | rfl | rfl | rfl | rfl | rfl | rfl | rfl | rfl | rfl | rfl | rfl <;> rfl)
theorem HBlk.put {g : Nat} {h : Hdr} {w : World} (hb : HBlk g h w) (k : Hdr) : HBlk g k (w.setCells g 0 (HCells k)) := heap_setCells (HCells k) 0 w (HCells h) hb
theorem pvalid_is {h : Hdr} {V : Bool} (hv : validH h = V) (w : World) (ho : HOk h) : Calls Tryd.prog 94 #[HVal h] w fun e w' => e = .returned (.bool V) ∧ Gr w w' := hv ▸ pvalid_any h w ho
theorem dyn_is {s f : Int} {V : Bool} (hv : dynB s f = V) (w : World) : Calls Tryd.prog 95 #[DVal s f] w fun e w' => e = .returned (.bool V) ∧ Gr w w' := hv ▸ dyn_any s f w
theorem rvalid_is {h : Hdr} {V : Bool} (hv : validH h = V) (w : World) : Calls Tryd.prog 60 #[HVal h] w fun e w' => e = .returned (.bool V) ∧ Gr w w' := hv ▸ rvalid_any h w
theorem rdyn_is {s f : Int} {V : Bool} (hv : dynB s f = V) (w : World) : Calls Tryd.prog 76 #[DVal s f] w fun e w' => e = .returned (.bool V) ∧ Gr w w' := hv ▸ rdyn_any s f w
theorem num_is {h : Hdr} {n : Int} (hv : numH h = n) (w : World) : Calls Tryd.prog 75 #[HVal h] w fun e w' => e = .returned (.int .i64 n) ∧ Gr w w' := hv ▸ num_any h w
theorem dyn_yes {s f : Int} (h : dynB s f = true) : 0 ≤ s ∧ s ≤ 65535 ∧ (f = 0 ∨ f = 1) := by simpa [dynB] using h
theorem inB_yes {n m : Int} (h : inB n m = true) : 0 ≤ n ∧ n ≤ m := by simpa [inB] using h
theorem valid_rng {a : Hdr} (h : validH a = true) : 0 ≤ a.id ∧ a.id ≤ 65535 ∧ 0 ≤ a.time ∧ a.time ≤ 4294967295 := by
 simp only [validH, commonB, Bool.and_eq_true] at h
 obtain ⟨_, ⟨⟨⟨⟨⟨⟨⟨⟨_, _⟩, h3⟩, _⟩, _⟩, _⟩, _⟩, _⟩, _⟩, h4⟩ := h
 have h5 := inB_yes h3
 unfold restB at h4
 split at h4
 ·simp only [Bool.and_eq_true, beq_iff_eq] at h4
  omega
 ·simp only [Bool.and_eq_true] at h4
  have := inB_yes h4.1.2
  omega
theorem mul_rng {s t : Int} (h1 : 0 ≤ s) (h2 : s ≤ 65535) (h3 : -4294967296 ≤ t) (h4 : t ≤ 4294967296) : -2 ^ 48 ≤ s * t ∧ s * t ≤ 2 ^ 48 := by
 have a1 : s * t ≤ s * 4294967296 := Int.mul_le_mul_of_nonneg_left h4 h1
 have a2 : s * -4294967296 ≤ s * t := Int.mul_le_mul_of_nonneg_left h3 h1
 omega
theorem blocks3 (w : World) (a b c : Obj) : (((w.alloc a).alloc b).alloc c).heap[w.heap.size]? = some a ∧ (((w.alloc a).alloc b).alloc c).heap[w.heap.size + 1]? = some b ∧ (((w.alloc a).alloc b).alloc c).heap[w.heap.size + 1 + 1]? = some c := by
 refine ⟨?_, ?_, ?_⟩
 ·rw [(Gr.alloc _ _).block _ (by simp; omega) (by simp), (Gr.alloc _ _).block _ (by simp) (by simp)]; exact heap_alloc_new _ _
 ·rw [(Gr.alloc _ _).block _ (by simp) (by simp)]; exact heap_two _ _ _
 ·have := heap_two (w.alloc a) b c
  simpa using this
-- the world gets a name: a header in a new block over w4
end Go.Proofs.YtlnkofpcidngoaaDoor
/- Layer 06 (flow): Predict of the reference. -/
namespace Go.Proofs.YtlnkofpcidngoaaDoor
open Go.ChangeShapes Go.WideShapes Go.ChangeAt Go.RowKit
def rpredH (s f : Int) (a : Hdr) (n : Int) : Hdr :=
 if validH a && dynB s f then
  if a.kind = 2 then updR a (lowS 16 n) (lowS 32 (a.time + s * signedS 16 (numH a) (lowS 16 n))) (if f = 1 then lowS 16 (a.id + signedS 16 (numH a) (lowS 16 n)) else a.id)
  else updU a (lowS 16 n)
 else zeroH
theorem signed_low (a n : Int) : signedS 16 a (lowS 16 n) = signedS 16 a n := by
 have e : distS 16 a (lowS 16 n) = distS 16 a n := by
  unfold distS lowS
  rw [if_pos (by decide), if_pos (by decide), if_pos (by decide)]
  exact Int.emod_sub_emod n _ a
 unfold signedS
 rw [e]
theorem low_id {x : Int} (h0 : 0 ≤ x) (h1 : x ≤ 65535) : lowS 16 x = x := by
 unfold lowS
 rw [if_pos (by decide), show ((2 : Int) ^ (16 : Int).toNat) = 65536 by decide]
 omega
theorem hkind_of {a : Hdr} (h : validH a = true) : a.kind = 1 ∨ a.kind = 2 := by
 simp only [validH, kindB, Bool.and_eq_true, Bool.or_eq_true, beq_iff_eq] at h
 exact h.1
theorem rpred_eq (s f : Int) (a : Hdr) (n : Int) : rpredH s f a n = predH s f a n := by
 unfold rpredH predH
 cases hv : validH a
 ·rfl
 ·cases hd : dynB s f
  ·rfl
  ·rw [Bool.and_self, if_pos rfl, if_pos rfl, signed_low]
   obtain ⟨d1, d2, d3⟩ := dyn_yes hd
   obtain ⟨v1, v2, _, _⟩ := valid_rng hv
   rcases hkind_of hv with hk | hk
   ·have h2 : ¬ a.kind = 2 := by omega
    rw [if_neg h2, if_pos hk]
   ·have h1 : ¬ a.kind = 1 := by omega
    rw [if_pos hk, if_neg h1]
    unfold stepH
    rcases d3 with rfl | rfl
    ·rw [if_neg (show ¬ (0 : Int) = 1 by decide), Int.zero_mul, Int.add_zero, low_id v1 v2]
    ·rw [if_pos (show (1 : Int) = 1 from rfl), Int.one_mul]
theorem HBlk.set {g : Nat} {h : Hdr} {w : World} (hb : HBlk g h w) (i : Nat) (v : Value) {k : Hdr} (hk : (HCells h).set i v = HCells k) : HBlk g k (w.setCell ⟨g, i, none⟩ v) := by
 unfold HBlk
 rw [heap_setCell_eq hb i v, List.setIfInBounds_toArray]
 rw [show ([Value.int .i64 h.kind, .int .i64 h.tos, .int .i64 h.id, .int .i64 h.fixed, .int .i64 h.ttl, .int .i64 h.frm, .int .i64 h.to, .int .i64 h.fport, .int .i64 h.tport, .int .i64 h.check, .int .i64 h.marker, .int .i64 h.type, .int .i64 h.seq, .int .i64 h.time, .int .i64 h.source] : List Value).set i v = HCells k from hk]
theorem HBlk.other {g p : Nat} {h : Hdr} {w : World} (hb : HBlk g h w) (i : Nat) (v : Value) (hne : g ≠ p) : HBlk g h (w.setCell ⟨p, i, none⟩ v) := by
 unfold HBlk
 rw [heap_setCell_ne _ _ _ _ hne]; exact hb
theorem HBlk.fz {g : Nat} {h : Hdr} {w : World} (hb : HBlk g h w) (i : Nat) : w.frozen? ⟨g, i, none⟩ = false := frozen_of_block hb i
theorem rnum_is {h : Hdr} {n : Int} (hv : numH h = n) (w : World) : Calls Tryd.prog 15 #[HVal h] w fun e w' => e = .returned (.int .i64 n) ∧ Gr w w' := hv ▸ rnum_any h w
theorem rlow_is {n x y r : Int} (hx : x = y) (hv : lowS n y = r) (w : World) : Calls Tryd.prog 43 #[.int .i64 n, .int .i64 x] w fun e w' => e = .returned (.int .i64 r) ∧ w = w' := by
 subst hx; exact hv ▸ rlow n x w
theorem rsigned_is {n a b r : Int} (hv : signedS n a b = r) (w : World) : Calls Tryd.prog 36 #[.int .i64 n, .int .i64 a, .int .i64 b] w fun e w' => e = .returned (.int .i64 r) ∧ w = w' := hv ▸ rsigned n a b w
-- one field of the header at gh is written; the world gets a name
set_option maxRecDepth 100000 in
set_option maxHeartbeats 4000000 in
theorem rpredict_any (s f : Int) (a : Hdr) (n : Int) (w : World) : Calls Tryd.prog 62 #[DVal s f, HVal a, .int .i64 n] w fun e w' => e = .returned (HVal (predH s f a n)) ∧ Gr w w' := by
 go_enter Tryd.func62, Tryd.ntmps62
 go_upto_region 1 with (fail)
 obtain ⟨w1, hw1⟩ : ∃ y, y = ((w.alloc (.cells #[.int .i64 s, .int .i64 f] 43)).alloc (.cells (HCells a).toArray 49)).alloc (.cells (HCells zeroH).toArray 49) := ⟨_, rfl⟩
 obtain ⟨hd1, ha1, hz1⟩ : w1.heap[w.heap.size]? = some (.cells #[.int .i64 s, .int .i64 f] 43 (0, 0)) ∧ HBlk (w.heap.size + 1) a w1 ∧ HBlk (w.heap.size + 1 + 1) zeroH w1 := by rw [hw1]; exact blocks3 _ _ _ _
 have hg1 : Gr w w1 := by rw [hw1]; exact (Gr.alloc _ _).trans ((Gr.alloc _ _).trans (Gr.alloc _ _))
 simp only [HCells, zeroH] at hw1
 rw [← hw1]
 have HD1 := zqd hd1
 have HA1 := zqd ha1
 have HZ1 := zqd hz1
 have HG1 := zqd hg1
 clear hw1 hd1 ha1 hz1 hg1
 have ha1' := HA1.out
 unfold HBlk at ha1'
 have HA1' := zqd ha1'
 clear ha1'
 obtain ⟨V, hV⟩ : ∃ V, validH a = V := ⟨_, rfl⟩
 have HV := zqd hV
 clear hV
 go_wp2_with (first | (refine wpList_load_row rfl 49 _ rfl (w.heap.size + 1) rfl 49 _ _ _ HA1'.out Tryd.underlying49 rfl (by kernel_rfl) ?_))
 refine (rvalid_is HV.out w1).mono ?_
 rintro e w2 ⟨rfl, hg2⟩
 have HD2 := zqd (show w2.heap[w.heap.size]? = some (.cells #[.int .i64 s, .int .i64 f] 43 (0, 0)) by rw [hg2.block _ (heap_lt HD1.out) (by simp)]; exact HD1.out)
 have HA2 := zqd (HA1.out.kept hg2)
 have HZ2 := zqd (HZ1.out.kept hg2)
 have HG2 := zqd (HG1.out.trans hg2)
 clear hg2 HD1 HA1 HA1' HZ1 HG1
 cases V
 ·have HRES := zqd (show Ending.returned (HVal zeroH) = .returned (HVal (predH s f a n)) by unfold predH; rw [HV.out]; rfl)
  have hbe := ((HZ2.out).kept (Gr.refl _)).put (zeroH)
  have hthr := (HZ2.out).there
  have hge := grown_setCells_new (HG2.out) (g := w.heap.size + 1 + 1) (by omega) (HCells (zeroH)) 0
  obtain ⟨w9, hw9⟩ : ∃ y, y = (w2).setCells (w.heap.size + 1 + 1) 0 (HCells (zeroH)).toArray.toList := ⟨_, rfl⟩
  have HBE := zqd (show HBlk (w.heap.size + 1 + 1) (zeroH) w9 by rw [hw9]; exact hbe)
  have HTH := zqd hthr
  have HGE := zqd (show Gr w w9 by rw [hw9]; exact hge)
  have HW9 := zqd hw9
  clear hbe hthr hge hw9
  go_wp2_with (first | (refine wpList_store_mid rfl 49 _ _ rfl (w.heap.size + 1 + 1) 0 (HCells (zeroH)).toArray rfl rfl HTH.out (by kernel_rfl) (hcells_one _) ?_; rw [← HW9.out]))
  exact bodyPost_ret (v := HVal (zeroH)) (results_cell_row Tryd.results62 _ _ (w.heap.size + 1 + 1) _ _ _ _ rfl HBE.out Tryd.underlying49 rfl (by kernel_rfl)) rfl ⟨HRES.out, HGE.out⟩
 ·obtain ⟨V, hV⟩ : ∃ V, dynB s f = V := ⟨_, rfl⟩
  have HW := zqd hV
  clear hV
  have x0 : w2.cell? ⟨w.heap.size, 0, none⟩ = some (.int .i64 s) := by rw [cell_of_block HD2.out]; rfl
  have x1 : w2.cell? ⟨w.heap.size, 1, none⟩ = some (.int .i64 f) := by rw [cell_of_block HD2.out]; rfl
  go_wp2_with fail
  refine (rdyn_is HW.out w2).mono ?_
  rintro e w3 ⟨rfl, hg3⟩
  have HD3 := zqd (show w3.heap[w.heap.size]? = some (.cells #[.int .i64 s, .int .i64 f] 43 (0, 0)) by rw [hg3.block _ (heap_lt HD2.out) (by simp)]; exact HD2.out)
  have HA3 := zqd (HA2.out.kept hg3)
  have HZ3 := zqd (HZ2.out.kept hg3)
  have HG3 := zqd (HG2.out.trans hg3)
  clear hg3 HD2 HA2 HZ2 HG2 x0 x1
  cases V
  ·have HRES := zqd (show Ending.returned (HVal zeroH) = .returned (HVal (predH s f a n)) by unfold predH; rw [HW.out, Bool.and_false]; rfl)
   have hbe := ((HZ3.out).kept (Gr.refl _)).put (zeroH)
   have hthr := (HZ3.out).there
   have hge := grown_setCells_new (HG3.out) (g := w.heap.size + 1 + 1) (by omega) (HCells (zeroH)) 0
   obtain ⟨w9, hw9⟩ : ∃ y, y = (w3).setCells (w.heap.size + 1 + 1) 0 (HCells (zeroH)).toArray.toList := ⟨_, rfl⟩
   have HBE := zqd (show HBlk (w.heap.size + 1 + 1) (zeroH) w9 by rw [hw9]; exact hbe)
   have HTH := zqd hthr
   have HGE := zqd (show Gr w w9 by rw [hw9]; exact hge)
   have HW9 := zqd hw9
   clear hbe hthr hge hw9
   go_wp2_with (first | (refine wpList_store_mid rfl 49 _ _ rfl (w.heap.size + 1 + 1) 0 (HCells (zeroH)).toArray rfl rfl HTH.out (by kernel_rfl) (hcells_one _) ?_; rw [← HW9.out]))
   exact bodyPost_ret (v := HVal (zeroH)) (results_cell_row Tryd.results62 _ _ (w.heap.size + 1 + 1) _ _ _ _ rfl HBE.out Tryd.underlying49 rfl (by kernel_rfl)) rfl ⟨HRES.out, HGE.out⟩
  ·have ha3' := HA3.out
   unfold HBlk at ha3'
   have HA3' := zqd ha3'
   obtain ⟨L1, hL1⟩ : ∃ t, lowS 16 n = t := ⟨_, rfl⟩
   have HL1 := zqd hL1
   clear ha3' hL1
   go_upto_region 6 with (first | (refine wpList_load_row rfl 49 _ rfl (w.heap.size + 1) rfl 49 _ _ _ HA3'.out Tryd.underlying49 rfl (by kernel_rfl) ?_) | (go_at_call 43; ((with_reducible refine (rlow_is rfl HL1.out _).mono ?_)); rintro e w' ⟨rfl, rfl⟩))
   obtain ⟨w4, hw4⟩ : ∃ y, y = w3.alloc (.cells (HCells (updU a a.id)).toArray 49) := ⟨_, rfl⟩
   have hr4 : HBlk w3.heap.size (updU a a.id) w4 := by rw [hw4]; exact heap_alloc_new _ _
   have hg4 : Gr w3 w4 := by rw [hw4]; exact Gr.alloc _ _
   simp only [HCells, updU] at hw4
   rw [← hw4]
   have HR4 := zqd hr4
   have HA4 := zqd (HA3.out.kept hg4)
   have HZ4 := zqd (HZ3.out.kept hg4)
   have HG4 := zqd (HG3.out.trans hg4)
   have HD4 := zqd (show w4.heap[w.heap.size]? = some (.cells #[.int .i64 s, .int .i64 f] 43 (0, 0)) by rw [hg4.block _ (heap_lt HD3.out) (by simp)]; exact HD3.out)
   have k0 : w4.cell? ⟨w3.heap.size, 0, none⟩ = some (.int .i64 a.kind) := HR4.out.at 0 rfl
   clear hw4 hr4 hg4
   by_cases hk : a.kind = 2
   ·have hkb : (a.kind != 2) = false := by simpa using hk
    have ha4' := HA4.out
    unfold HBlk at ha4'
    have HA4' := zqd ha4'
    clear ha4'
    obtain ⟨N, hN⟩ : ∃ N, numH a = N := ⟨_, rfl⟩
    obtain ⟨st, hst⟩ : ∃ t, signedS 16 N L1 = t := ⟨_, rfl⟩
    have HN := zqd hN
    have HST := zqd hst
    obtain ⟨d1, d2, d3⟩ := dyn_yes HW.out
    have hsr := signed_rng 16 N L1
    rw [hst] at hsr
    obtain ⟨t1, t2⟩ := hsr
    obtain ⟨m1, m2⟩ := mul_rng d1 d2 t1 t2
    obtain ⟨p, hp⟩ : ∃ p, s * st = p := ⟨_, rfl⟩
    rw [hp] at m1 m2
    obtain ⟨v1, v2, v3, v4⟩ := valid_rng HV.out
    obtain ⟨L2, hL2⟩ : ∃ t, lowS 32 (a.time + p) = t := ⟨_, rfl⟩
    have HL2 := zqd hL2
    have HP := zqd hp
    have HD3' := zqd d3
    have HKK := zqd hk
    clear hN hst hL2 hk d3 hp
    go_wp2_with (first | (refine wpList_load_row rfl 49 _ rfl (w.heap.size + 1) rfl 49 _ _ _ HA4'.out Tryd.underlying49 rfl (by kernel_rfl) ?_))
    refine (rnum_is HN.out w4).mono ?_
    rintro e w5 ⟨rfl, hg5⟩
    have HR5 := zqd (HR4.out.kept hg5)
    have HA5 := zqd (HA4.out.kept hg5)
    have HZ5 := zqd (HZ4.out.kept hg5)
    have HG5 := zqd (HG4.out.trans hg5)
    have HD5 := zqd (show w5.heap[w.heap.size]? = some (.cells #[.int .i64 s, .int .i64 f] 43 (0, 0)) by rw [hg5.block _ (heap_lt HD4.out) (by simp)]; exact HD4.out)
    clear hg5 k0
    have k12 := HR5.out.at 12 rfl
    have f12 := HR5.out.fz 12
    go_upto_region 11 with (go_at_call 36; ((with_reducible refine (rsigned_is HST.out _).mono ?_)); rintro e w' ⟨rfl, rfl⟩)
    clear k12 f12
    obtain ⟨w6, hwb⟩ : ∃ y, y = (w5).setCell ⟨w3.heap.size, 12, none⟩ (.int .i64 L1) := ⟨_, rfl⟩
    rw [← hwb]
    have HR6 := zqd (show HBlk w3.heap.size (updR a L1 a.time a.id) w6 by rw [hwb]; exact (HR5).out.set 12 _ rfl)
    have HZ6 := zqd (show HBlk (w.heap.size + 1 + 1) zeroH w6 by rw [hwb]; exact (HZ5).out.other _ _ (by have := heap_lt HZ3.out; omega))
    have hgb : Gr w w6 := by rw [hwb]; exact grown_set (HG5).out (a := ⟨w3.heap.size, 12, none⟩) HG3.out.size _
    have HG6 := zqd hgb
    have HW6 := zqd hwb
    clear hwb hgb
    have HA6 := zqd (show HBlk (w.heap.size + 1) a w6 by rw [HW6.out]; exact HA5.out.other _ _ (by have := heap_lt HA3.out; omega))
    have HD6 := zqd (show w6.heap[w.heap.size]? = some (.cells #[.int .i64 s, .int .i64 f] 43 (0, 0)) by rw [HW6.out, heap_setCell_ne _ _ _ _ (by have := heap_lt HD3.out; show w.heap.size ≠ w3.heap.size; omega)]; exact HD5.out)
    clear HW6 HR5 HA5 HZ5 HG5 HD5 HR4 HA4 HZ4 HG4 HD4
    have x0 : w6.cell? ⟨w.heap.size, 0, none⟩ = some (.int .i64 s) := by rw [cell_of_block HD6.out]; rfl
    have y13 : w6.cell? ⟨w.heap.size + 1, 13, none⟩ = some (.int .i64 a.time) := HA6.out.at 13 rfl
    have k13 : w6.cell? ⟨w3.heap.size, 13, none⟩ = some (.int .i64 a.time) := HR6.out.at 13 rfl
    have f13 := HR6.out.fz 13
    have hpp := HP.out
    go_upto_region 12 with (go_at_call 43; ((with_reducible refine (rlow_is rfl HL2.out _).mono ?_)); rintro e w' ⟨rfl, rfl⟩)
    clear x0 y13 k13 f13 hpp
    obtain ⟨w7, hwb⟩ : ∃ y, y = (w6).setCell ⟨w3.heap.size, 13, none⟩ (.int .i64 L2) := ⟨_, rfl⟩
    rw [← hwb]
    have HR7 := zqd (show HBlk w3.heap.size (updR a L1 L2 a.id) w7 by rw [hwb]; exact (HR6).out.set 13 _ rfl)
    have HZ7 := zqd (show HBlk (w.heap.size + 1 + 1) zeroH w7 by rw [hwb]; exact (HZ6).out.other _ _ (by have := heap_lt HZ3.out; omega))
    have hgb : Gr w w7 := by rw [hwb]; exact grown_set (HG6).out (a := ⟨w3.heap.size, 13, none⟩) HG3.out.size _
    have HG7 := zqd hgb
    have HW7 := zqd hwb
    clear hwb hgb
    have HA7 := zqd (show HBlk (w.heap.size + 1) a w7 by rw [HW7.out]; exact HA6.out.other _ _ (by have := heap_lt HA3.out; omega))
    have HD7 := zqd (show w7.heap[w.heap.size]? = some (.cells #[.int .i64 s, .int .i64 f] 43 (0, 0)) by rw [HW7.out, heap_setCell_ne _ _ _ _ (by have := heap_lt HD3.out; show w.heap.size ≠ w3.heap.size; omega)]; exact HD6.out)
    clear HW7 HR6 HA6 HZ6 HG6 HD6
    have x1 : w7.cell? ⟨w.heap.size, 1, none⟩ = some (.int .i64 f) := by rw [cell_of_block HD7.out]; rfl
    by_cases hf : f = 1
    ·subst hf
     obtain ⟨L3, hL3⟩ : ∃ t, lowS 16 (a.id + st) = t := ⟨_, rfl⟩
     have HL3 := zqd hL3
     clear hL3
     have HRES := zqd (show Ending.returned (HVal (updR a L1 L2 L3)) = .returned (HVal (predH s 1 a n)) by
      rw [← rpred_eq]; unfold rpredH; rw [HV.out, HW.out, Bool.and_self, if_pos rfl, if_pos HKK.out, HL1.out, HN.out, HST.out, HP.out, HL2.out, if_pos rfl, HL3.out])
     have y2 : w7.cell? ⟨w.heap.size + 1, 2, none⟩ = some (.int .i64 a.id) := HA7.out.at 2 rfl
     have k2 : w7.cell? ⟨w3.heap.size, 2, none⟩ = some (.int .i64 a.id) := HR7.out.at 2 rfl
     have f2 := HR7.out.fz 2
     go_upto_region 14 with (go_at_call 43; ((with_reducible refine (rlow_is rfl HL3.out _).mono ?_)); rintro e w' ⟨rfl, rfl⟩)
     clear x1 y2 k2 f2
     obtain ⟨w8, hwb⟩ : ∃ y, y = (w7).setCell ⟨w3.heap.size, 2, none⟩ (.int .i64 L3) := ⟨_, rfl⟩
     rw [← hwb]
     have HR8 := zqd (show HBlk w3.heap.size (updR a L1 L2 L3) w8 by rw [hwb]; exact (HR7).out.set 2 _ rfl)
     have HZ8 := zqd (show HBlk (w.heap.size + 1 + 1) zeroH w8 by rw [hwb]; exact (HZ7).out.other _ _ (by have := heap_lt HZ3.out; omega))
     have hgb : Gr w w8 := by rw [hwb]; exact grown_set (HG7).out (a := ⟨w3.heap.size, 2, none⟩) HG3.out.size _
     have HG8 := zqd hgb
     have HW8 := zqd hwb
     clear hwb hgb
     have hr8' := HR8.out
     unfold HBlk at hr8'
     have HR8' := zqd hr8'
     clear hr8'
     have hbe := ((HZ8.out).kept (Gr.refl _)).put (updR a L1 L2 L3)
     have hthr := (HZ8.out).there
     have hge := grown_setCells_new (HG8.out) (g := w.heap.size + 1 + 1) (by omega) (HCells (updR a L1 L2 L3)) 0
     obtain ⟨w9, hw9⟩ : ∃ y, y = (w8).setCells (w.heap.size + 1 + 1) 0 (HCells (updR a L1 L2 L3)).toArray.toList := ⟨_, rfl⟩
     have HBE := zqd (show HBlk (w.heap.size + 1 + 1) (updR a L1 L2 L3) w9 by rw [hw9]; exact hbe)
     have HTH := zqd hthr
     have HGE := zqd (show Gr w w9 by rw [hw9]; exact hge)
     have HW9 := zqd hw9
     clear hbe hthr hge hw9
     go_wp2_with (first | (refine wpList_load_row rfl 49 _ rfl (w3.heap.size) rfl 49 _ _ _ HR8'.out Tryd.underlying49 rfl (by kernel_rfl) ?_) | (refine wpList_store_mid rfl 49 _ _ rfl (w.heap.size + 1 + 1) 0 (HCells (updR a L1 L2 L3)).toArray rfl rfl HTH.out (by kernel_rfl) (hcells_one _) ?_; rw [← HW9.out]))
     exact bodyPost_ret (v := HVal (updR a L1 L2 L3)) (results_cell_row Tryd.results62 _ _ (w.heap.size + 1 + 1) _ _ _ _ rfl HBE.out Tryd.underlying49 rfl (by kernel_rfl)) rfl ⟨HRES.out, HGE.out⟩
    ·have hfb : (f == 1) = false := by simpa using hf
     have HRES := zqd (show Ending.returned (HVal (updR a L1 L2 a.id)) = .returned (HVal (predH s f a n)) by
      rw [← rpred_eq]; unfold rpredH; rw [HV.out, HW.out, Bool.and_self, if_pos rfl, if_pos HKK.out, HL1.out, HN.out, HST.out, HP.out, HL2.out, if_neg hf])
     clear hf
     have hr7' := HR7.out
     unfold HBlk at hr7'
     have HR7' := zqd hr7'
     clear hr7'
     have hbe := ((HZ7.out).kept (Gr.refl _)).put (updR a L1 L2 a.id)
     have hthr := (HZ7.out).there
     have hge := grown_setCells_new (HG7.out) (g := w.heap.size + 1 + 1) (by omega) (HCells (updR a L1 L2 a.id)) 0
     obtain ⟨w9, hw9⟩ : ∃ y, y = (w7).setCells (w.heap.size + 1 + 1) 0 (HCells (updR a L1 L2 a.id)).toArray.toList := ⟨_, rfl⟩
     have HBE := zqd (show HBlk (w.heap.size + 1 + 1) (updR a L1 L2 a.id) w9 by rw [hw9]; exact hbe)
     have HTH := zqd hthr
     have HGE := zqd (show Gr w w9 by rw [hw9]; exact hge)
     have HW9 := zqd hw9
     clear hbe hthr hge hw9
     go_wp2_with (first | (refine wpList_load_row rfl 49 _ rfl (w3.heap.size) rfl 49 _ _ _ HR7'.out Tryd.underlying49 rfl (by kernel_rfl) ?_) | (refine wpList_store_mid rfl 49 _ _ rfl (w.heap.size + 1 + 1) 0 (HCells (updR a L1 L2 a.id)).toArray rfl rfl HTH.out (by kernel_rfl) (hcells_one _) ?_; rw [← HW9.out]))
     exact bodyPost_ret (v := HVal (updR a L1 L2 a.id)) (results_cell_row Tryd.results62 _ _ (w.heap.size + 1 + 1) _ _ _ _ rfl HBE.out Tryd.underlying49 rfl (by kernel_rfl)) rfl ⟨HRES.out, HGE.out⟩
   ·have hkb : (a.kind != 2) = true := by simpa using hk
    have HRES := zqd (show Ending.returned (HVal (updU a L1)) = .returned (HVal (predH s f a n)) by
     rw [← rpred_eq]; unfold rpredH; rw [HV.out, HW.out, Bool.and_self, if_pos rfl, if_neg hk, HL1.out])
    clear hk
    have k2 := HR4.out.at 2 rfl
    have f2 := HR4.out.fz 2
    go_upto_region 8 with (fail)
    clear k0 k2 f2
    obtain ⟨w5, hwb⟩ : ∃ y, y = (w4).setCell ⟨w3.heap.size, 2, none⟩ (.int .i64 L1) := ⟨_, rfl⟩
    rw [← hwb]
    have HR5 := zqd (show HBlk w3.heap.size (updU a L1) w5 by rw [hwb]; exact (HR4).out.set 2 _ rfl)
    have HZ5 := zqd (show HBlk (w.heap.size + 1 + 1) zeroH w5 by rw [hwb]; exact (HZ4).out.other _ _ (by have := heap_lt HZ3.out; omega))
    have hgb : Gr w w5 := by rw [hwb]; exact grown_set (HG4).out (a := ⟨w3.heap.size, 2, none⟩) HG3.out.size _
    have HG5 := zqd hgb
    have HW5 := zqd hwb
    clear hwb hgb
    have hr5' := HR5.out
    unfold HBlk at hr5'
    have HR5' := zqd hr5'
    clear hr5'
    have hbe := ((HZ5.out).kept (Gr.refl _)).put (updU a L1)
    have hthr := (HZ5.out).there
    have hge := grown_setCells_new (HG5.out) (g := w.heap.size + 1 + 1) (by omega) (HCells (updU a L1)) 0
    obtain ⟨w9, hw9⟩ : ∃ y, y = (w5).setCells (w.heap.size + 1 + 1) 0 (HCells (updU a L1)).toArray.toList := ⟨_, rfl⟩
    have HBE := zqd (show HBlk (w.heap.size + 1 + 1) (updU a L1) w9 by rw [hw9]; exact hbe)
    have HTH := zqd hthr
    have HGE := zqd (show Gr w w9 by rw [hw9]; exact hge)
    have HW9 := zqd hw9
    clear hbe hthr hge hw9
    go_wp2_with (first | (refine wpList_load_row rfl 49 _ rfl (w3.heap.size) rfl 49 _ _ _ HR5'.out Tryd.underlying49 rfl (by kernel_rfl) ?_) | (refine wpList_store_mid rfl 49 _ _ rfl (w.heap.size + 1 + 1) 0 (HCells (updU a L1)).toArray rfl rfl HTH.out (by kernel_rfl) (hcells_one _) ?_; rw [← HW9.out]))
    exact bodyPost_ret (v := HVal (updU a L1)) (results_cell_row Tryd.results62 _ _ (w.heap.size + 1 + 1) _ _ _ _ rfl HBE.out Tryd.underlying49 rfl (by kernel_rfl)) rfl ⟨HRES.out, HGE.out⟩
end Go.Proofs.YtlnkofpcidngoaaDoor
