/- Several texts in one. -/
import Derived.Test.YtlnkofpcidngoaaDoorA0
import Derived.Test.YtlnkofpcidngoaaDoorA14
import Derived.Test.YtlnkofpcidngoaaDoorA15
import Derived.Test.YtlnkofpcidngoaaDoorA11
import Derived.Test.YtlnkofpcidngoaaDoorA26
/- Layer 11 (feedback): Encode of both sides. -/
namespace Go.Proofs.YtlnkofpcidngoaaDoor
open Go.ChangeShapes Go.WideShapes Go.ChangeAt Go.RowKit
open Crc
theorem sum_is {kind v e0 : Int} {xs : List Int} (hv : sumV kind xs = v) (he : sumE kind = e0) (a : Option Addr) (len cap : Nat) (w : World) (hl : LaidIn w) (hk : i64 kind) (hr : Rd .u8 w a len xs) :
  Calls Tryd.prog 53 #[.int .i64 kind, .slice a len cap] w fun e w' => e = .returned (.tuple #[.int .i64 v, .int .i64 e0]) ∧ Gr w w' := by
 subst hv he; exact csum_any kind a len cap xs w hl hk hr
theorem rsum_is {kind v e0 : Int} {xs : List Int} (hv : sumV kind xs = v) (he : sumE kind = e0) (a : Option Addr) (len cap : Nat) (w : World) (hr : Rd .u8 w a len xs) :
  Calls Tryd.prog 52 #[.int .i64 kind, .slice a len cap] w fun e w' => e = .returned (.tuple #[.int .i64 v, .int .i64 e0]) ∧ Gr w w' := by
 subst hv he; exact rcsum_any kind a len cap xs w hr
theorem laid_gr {w w' : World} (h : LaidIn w) (hg : Gr w w') : LaidIn w' := by
 obtain ⟨bm, h1, h2⟩ := h
 exact ⟨bm, hg.cell h1, fun u hu => h2 u (hg.trans hu)⟩
theorem crc_rng {kind : Int} (hk : isKind kind) (xs : List Int) : 0 ≤ sumV kind xs ∧ sumV kind xs < 2 ^ kind.toNat := by
 have e : sumV kind xs = (regN kind (Crc.top kind) xs : Nat) := by unfold sumV; rw [if_pos hk]
 have h : regN kind (Crc.top kind) xs < 2 ^ kind.toNat := feed_lt (kind_of hk).lt (bitsI xs) (Crc.top kind) (by rcases hk with rfl | rfl | rfl | rfl | rfl <;> decide)
 rw [e]
 exact ⟨Int.natCast_nonneg _, by exact_mod_cast h⟩
theorem sum8_rng (xs : List Int) : 0 ≤ sumV 8 xs ∧ sumV 8 xs ≤ 255 := by
 have := crc_rng (kind := 8) (by decide) xs
 have h : (2 : Int) ^ (8 : Int).toNat = 256 := by decide
 omega
def encL (c k n : Int) : List Int := (if 0 < c then [224 + c] else []) ++ [240 + k, n / 256, n % 256]
def encF (c k n : Int) : List Int × Int := if fbB c k n then (encL c k n ++ [sumV 8 (encL c k n)], 0) else ([], 1)
def EncPost (F : List Int × Int) (w : World) (e : Ending) (w' : World) : Prop :=
 ∃ (a : Option Addr) (n cap : Nat), e = .returned (.tuple #[.slice a n cap, .int .i64 F.2]) ∧ OwnI w.heap.size 5 .u8 w' a n cap F.1 ∧ Gr w w'
theorem or224 : ∀ n : Fin 16, bits .or .i64 224 (n.val : Int) = 224 + (n.val : Int) := by decide +kernel
theorem or240 : ∀ n : Fin 3, bits .or .i64 240 (n.val : Int) = 240 + (n.val : Int) := by decide +kernel
theorem or_224 {c : Int} (h0 : 0 ≤ c) (h1 : c < 16) : bits .or .i64 224 c = 224 + c := by
 obtain ⟨m, rfl⟩ : ∃ m : Nat, c = m := ⟨c.toNat, by omega⟩
 exact or224 ⟨m, by omega⟩
theorem or_240 {c : Int} (h0 : 0 ≤ c) (h1 : c ≤ 2) : bits .or .i64 240 c = 240 + c := by
 obtain ⟨m, rfl⟩ : ∃ m : Nat, c = m := ⟨c.toNat, by omega⟩
 exact or240 ⟨m, by omega⟩
set_option maxRecDepth 100000 in
set_option maxHeartbeats 1000000 in
theorem encode_any (c k n : Int) (w : World) (hl : LaidIn w) : Calls Tryd.prog 23 #[FVal c k n] w (EncPost (encF c k n) w) := by
 obtain ⟨F, hF⟩ : ∃ F, encF c k n = F := ⟨_, rfl⟩
 rw [hF]
 obtain ⟨V, hV⟩ : ∃ V, fbB c k n = V := ⟨_, rfl⟩
 have HF := zqd hF
 have HV := zqd hV
 have HLA := zqd hl
 clear hF hV hl
 go_enter Tryd.func23, Tryd.ntmps23
 go_upto_region 1 with (fail)
 obtain ⟨w1, hw1⟩ : ∃ y, y = w.alloc (.cells #[.int .i64 c, .int .i64 k, .int .i64 n] 26) := ⟨_, rfl⟩
 have HB1 := zqd (show CBlk w.heap.size 26 [.int .i64 c, .int .i64 k, .int .i64 n] w1 by rw [hw1]; exact CBlk.new _ _ _)
 have HG1 := zqd (show Gr w w1 by rw [hw1]; exact Gr.alloc _ _)
 rw [← hw1]
 clear hw1
 have hb1 := HB1.out
 unfold CBlk at hb1
 have HB1' := zqd hb1
 clear hb1
 go_wp2_with (first | (refine wpList_load_row rfl 26 _ rfl w.heap.size rfl 26 _ _ _ HB1'.out Tryd.underlying26 rfl (by kernel_rfl) ?_))
 refine (fbvalid_is HV.out w1).mono ?_
 rintro e w2 ⟨rfl, hg2⟩
 have HB2 := zqd (HB1.out.kept hg2)
 have HG2 := zqd (HG1.out.trans hg2)
 clear hg2 HB1 HB1' HG1
 cases V
 ·go_wp2_with fail
  go_ret2
  rw [← HF.out, encF, HV.out, if_neg (by decide)]
  exact ⟨none, 0, 0, rfl, OwnI.nil _ _ _ _, HG2.out⟩
 ·obtain ⟨c1, c2, k1, k2, n1, n2⟩ := fb_yes HV.out
  have x0 : w2.cell? ⟨w.heap.size, 0, none⟩ = some (.int .i64 c) := HB2.out.at 0 rfl
  by_cases hc : 0 < c
  ·have hor := or_224 c1 c2
   obtain ⟨a3, c3, w3, hrun3, ho3, hg3⟩ := lit8 (Gr.refl w2) (OwnI.nil w2.heap.size 5 .u8 w2) [224 + c] 1 rfl (by intro z hz; simp only [List.mem_singleton] at hz; subst hz; omega) (by omega) (by omega)
   (try simp only [List.map_cons, List.map_nil, List.nil_append] at hrun3 ho3)
   have HR3 := zqd hrun3
   have HO3 := zqd ho3
   have HG3 := zqd hg3
   have HB3 := zqd (show CBlk w.heap.size 26 [.int .i64 c, .int .i64 k, .int .i64 n] w3 from HB2.out.kept hg3)
   clear hrun3 ho3 hg3
   go_upto_region 6 with (at_builtin; refine wpList_app rfl _ _ _ rfl rfl rfl HR3.out ?_)
   clear x0
   have y1 : w3.cell? ⟨w.heap.size, 1, none⟩ = some (.int .i64 k) := HB3.out.at 1 rfl
   have y2 : w3.cell? ⟨w.heap.size, 2, none⟩ = some (.int .i64 n) := HB3.out.at 2 rfl
   obtain ⟨a4, c4, w4, hrun4, ho4, hg4⟩ := lit8 HG3.out HO3.out [240 + k, n / 256, n % 256] 3 rfl (by intro z hz; simp only [List.mem_cons, List.not_mem_nil, or_false] at hz; rcases hz with rfl | rfl | rfl <;> omega) (by omega) (by omega)
   (try simp only [List.map_cons, List.map_nil, Nat.zero_add] at hrun4)
   have HR4 := zqd hrun4
   have hxs : ([224 + c]) ++ [240 + k, n / 256, n % 256] = encL c k n := by unfold encL; rw [if_pos hc]
   rw [hxs] at ho4
   have HO4 := zqd ho4
   have HG4 := zqd hg4
   have hor2 := or_240 k1 k2
   clear hrun4 ho4 hg4 hxs
   go_upto_region 7 with (at_builtin; refine wpList_app rfl _ _ _ rfl rfl rfl HR4.out ?_)
   obtain ⟨S, hS⟩ : ∃ S, sumV 8 (encL c k n) = S := ⟨_, rfl⟩
   have hsr := sum8_rng (encL c k n)
   rw [hS] at hsr
   obtain ⟨s1, s2⟩ := hsr
   have HS := zqd hS
   have hem : S % 256 = S := by omega
   clear hS
   go_wp2_with fail
   refine (sum_is HS.out (show sumE 8 = 0 by decide) _ _ _ w4 (laid_gr HLA.out (HG2.out.trans HG4.out)) (by constructor <;> omega) HO4.out.rd).mono ?_
   rintro e w5 ⟨rfl, hg5⟩
   obtain ⟨a6, c6, w6, hrun6, ho6, hg6⟩ := lit8 (HG4.out.trans hg5) (HO4.out.stay hg5) [S] 1 rfl (by intro z hz; simp only [List.mem_singleton] at hz; subst hz; omega) (by omega) (by omega)
   simp only [List.map_cons, List.map_nil] at hrun6
   have HR6 := zqd hrun6
   have HO6 := zqd ho6
   have HG6 := zqd hg6
   clear hrun6 ho6 hg6 hg5
   go_wp2_with (at_builtin; refine wpList_app rfl _ _ _ rfl rfl rfl HR6.out ?_)
   go_ret2
   rw [← HF.out, encF, HV.out, if_pos rfl, HS.out]
   exact ⟨a6, _, c6, rfl, HO6.out.weak HG2.out.size, HG2.out.trans HG6.out⟩
  ·have y1 : w2.cell? ⟨w.heap.size, 1, none⟩ = some (.int .i64 k) := HB2.out.at 1 rfl
   have y2 : w2.cell? ⟨w.heap.size, 2, none⟩ = some (.int .i64 n) := HB2.out.at 2 rfl
   obtain ⟨a4, c4, w4, hrun4, ho4, hg4⟩ := lit8 (Gr.refl w2) (OwnI.nil w2.heap.size 5 .u8 w2) [240 + k, n / 256, n % 256] 3 rfl (by intro z hz; simp only [List.mem_cons, List.not_mem_nil, or_false] at hz; rcases hz with rfl | rfl | rfl <;> omega) (by omega) (by omega)
   (try simp only [List.map_cons, List.map_nil, Nat.zero_add] at hrun4)
   have HR4 := zqd hrun4
   have hxs : ([] : List Int) ++ [240 + k, n / 256, n % 256] = encL c k n := by unfold encL; rw [if_neg hc]
   rw [hxs] at ho4
   have HO4 := zqd ho4
   have HG4 := zqd hg4
   have hor2 := or_240 k1 k2
   clear hrun4 ho4 hg4 hxs
   go_upto_region 7 with (at_builtin; refine wpList_app rfl _ _ _ rfl rfl rfl HR4.out ?_)
   obtain ⟨S, hS⟩ : ∃ S, sumV 8 (encL c k n) = S := ⟨_, rfl⟩
   have hsr := sum8_rng (encL c k n)
   rw [hS] at hsr
   obtain ⟨s1, s2⟩ := hsr
   have HS := zqd hS
   have hem : S % 256 = S := by omega
   clear hS
   go_wp2_with fail
   refine (sum_is HS.out (show sumE 8 = 0 by decide) _ _ _ w4 (laid_gr HLA.out (HG2.out.trans HG4.out)) (by constructor <;> omega) HO4.out.rd).mono ?_
   rintro e w5 ⟨rfl, hg5⟩
   obtain ⟨a6, c6, w6, hrun6, ho6, hg6⟩ := lit8 (HG4.out.trans hg5) (HO4.out.stay hg5) [S] 1 rfl (by intro z hz; simp only [List.mem_singleton] at hz; subst hz; omega) (by omega) (by omega)
   simp only [List.map_cons, List.map_nil] at hrun6
   have HR6 := zqd hrun6
   have HO6 := zqd ho6
   have HG6 := zqd hg6
   clear hrun6 ho6 hg6 hg5
   go_wp2_with (at_builtin; refine wpList_app rfl _ _ _ rfl rfl rfl HR6.out ?_)
   go_ret2
   rw [← HF.out, encF, HV.out, if_pos rfl, HS.out]
   exact ⟨a6, _, c6, rfl, HO6.out.weak HG2.out.size, HG2.out.trans HG6.out⟩
end Go.Proofs.YtlnkofpcidngoaaDoor
/- Layer 9 (compressor), the reference: Size, Value. -/
namespace Go.Proofs.YtlnkofpcidngoaaDoor
open Go.ChangeShapes Go.WideShapes Go.ChangeAt Go.RowKit
open Crc
def sizeF (f : Int) : Int := if f = 1 then 3 else if f = 2 then 7 else 8
set_option maxRecDepth 20000 in
set_option maxHeartbeats 2000000 in
theorem size_any (f : Int) (w : World) : Calls Tryd.prog 90 #[.int .i64 f] w fun e w' => e = .returned (.int .i64 (sizeF f)) ∧ w = w' := by
 by_cases h1 : f = 1
 ·subst h1
  go_enter Tryd.func90, Tryd.ntmps90
  go_wp2
  all_goals (go_ret; exact ⟨rfl, rfl⟩)
 ·by_cases h2 : f = 2
  ·subst h2
   go_enter Tryd.func90, Tryd.ntmps90
   go_wp2
   all_goals (go_ret; exact ⟨rfl, rfl⟩)
  ·have e : sizeF f = 8 := by rw [sizeF, if_neg h1, if_neg h2]
   rw [e]
   have hb1 : (f == 1) = false := by simpa using h1
   have hb2 : (f == 2) = false := by simpa using h2
   clear h1 h2
   go_enter Tryd.func90, Tryd.ntmps90
   go_wp2
   all_goals (go_ret; exact ⟨rfl, rfl⟩)
theorem size_is {f z : Int} (h : sizeF f = z) (w : World) : Calls Tryd.prog 90 #[.int .i64 f] w fun e w' => e = .returned (.int .i64 z) ∧ w = w' := h ▸ size_any f w
theorem size_kind (f : Int) : isKind (sizeF f) ∧ sumE (sizeF f) = 0 ∧ i64 (sizeF f) := by
 unfold sizeF
 split
 ·exact ⟨by decide, by decide, by constructor <;> omega⟩
 ·split
  ·exact ⟨by decide, by decide, by constructor <;> omega⟩
  ·exact ⟨by decide, by decide, by constructor <;> omega⟩
theorem value_rng (f : Int) (xs : List Int) : inB (sumV (sizeF f) xs) (if f = 1 then 7 else if f = 2 then 127 else 255) = true := by
 have h := crc_rng (size_kind f).1 xs
 obtain ⟨h0, h1⟩ := h
 generalize sumV (sizeF f) xs = v at *
 unfold sizeF at h1
 unfold inB
 rw [Bool.and_eq_true, decide_eq_true_eq, decide_eq_true_eq]
 refine ⟨h0, ?_⟩
 split at h1
 ·rw [if_pos ‹_›]
  have e : (2 : Int) ^ (3 : Int).toNat = 8 := by decide
  omega
 ·rw [if_neg ‹_›]
  split at h1
  ·rw [if_pos ‹_›]
   have e : (2 : Int) ^ (7 : Int).toNat = 128 := by decide
   omega
  ·rw [if_neg ‹_›]
   have e : (2 : Int) ^ (8 : Int).toNat = 256 := by decide
   omega
set_option maxHeartbeats 2000000 in
set_option maxRecDepth 100000 in
theorem value_yes (h : Hdr) (f : Int) (w : World) (hv : validH h = true) : Calls Tryd.prog 67 #[HVal h, .int .i64 f] w fun e w' => e = .returned (.int .i64 (sumV (sizeF f) (headL h))) ∧ Gr w w' := by
 obtain ⟨Z, hZ⟩ : ∃ Z, sizeF f = Z := ⟨_, rfl⟩
 obtain ⟨V, hV⟩ : ∃ V, sumV Z (headL h) = V := ⟨_, rfl⟩
 obtain ⟨-, hse, hsi⟩ := size_kind f
 rw [hZ] at hse hsi ⊢
 rw [hV]
 have HV := zqd hv
 have HZZ := zqd hZ
 have HVV := zqd hV
 have HSE := zqd hse
 have HSI := zqd hsi
 clear hv hZ hV hse hsi
 go_enter Tryd.func67, Tryd.ntmps67
 go_upto_region 1 with (fail)
 obtain ⟨w1, hw1⟩ : ∃ y, y = w.alloc (.cells (HCells h).toArray 49) := ⟨_, rfl⟩
 have hb1 : HBlk w.heap.size h w1 := by rw [hw1]; exact heap_alloc_new _ _
 have HG1 := zqd (show Gr w w1 by rw [hw1]; exact Gr.alloc _ _)
 simp only [HCells] at hw1
 rw [← hw1]
 clear hw1
 have HAK := zqd (fun u (hu : Gr w1 u) => hb1.kept hu)
 clear hb1
 refine SchedD.wp_region_schedd 8 [7] [3] (SchedD.nsel [(3, NBy (headL h))]) [(4, [(3, 11)])] (by kernel_rfl) (by kernel_rfl) ?_
 simp only [List.take_succ_cons, List.take_zero, List.drop_succ_cons, List.drop_zero]
 repeat (first | ((first | ((with_reducible refine SchedD.walk1_no ?_ ?_ ?_ (fun K hK => ?_)); (focus rfl); (focus rfl); (focus rfl)) | ((with_reducible refine SchedD.walk1_gr ?_ ?_ ?_ ?_ (fun K hK => ?_)); (focus rfl); (focus rfl); (focus rfl); (focus rfl); apply Exists.intro; refine ⟨fun w1 hw1 => ?_, ?_⟩; (focus (go_simp; (try go_ints); (try (simp only [IntWalk.iteOmega]; go_simp)); first | done | (go_at_call 90; (with_reducible exact gr_same (size_is HZZ.out _))) | (with_reducible rfl) | (with_reducible exact ⟨rfl, rfl⟩)))) | ((with_reducible refine SchedD.walk1_pure ?_ ?_ ?_ ?_ (fun K hK => ?_)); (focus rfl); (focus rfl); (focus rfl); (focus rfl); apply Exists.intro; refine ⟨fun w1 => ?_, ?_⟩; (focus (go_simp; (try go_ints); (try (simp only [IntWalk.iteOmega]; go_simp)); first | done | (with_reducible rfl) | (with_reducible exact ⟨rfl, rfl⟩))))); simp only [Act.put, zqa, zqb, zqc]; refine hK _ ?_; clear hK K))
 (with_reducible refine SchedD.walk1_gr ?_ ?_ ?_ ?_ (fun K hK => ?_)); (focus rfl); (focus rfl); (focus rfl); (focus rfl)
 refine ⟨HVal h, fun w1 hw1 => (HAK.out w1 hw1).load _ rfl rfl, ?_⟩
 simp only [Act.put, zqa, zqb, zqc]
 refine hK _ ?_
 clear hK K
 refine SchedD.walk1_new0 (NBy (headL h)) rfl rfl rfl rfl (NBy.stable _) (fun u hu => ?_) ?_
 ·go_simp
  go_at_call 82
  refine (rhead_yes h u HV.out).mono ?_
  rintro e w8 ⟨a8, n8, c8, rfl, -, hr8, hgr⟩
  exact ⟨_, rfl, hgr, a8, n8, c8, rfl, hr8.rd⟩
 refine SchedD.walk1_dep1 (.tuple #[.int .i64 V, .int .i64 0]) (NBy (headL h)) 3 11 rfl rfl rfl rfl (fun u hu lo1 hi1 u1 q1 => ?_) ?_
 ·obtain ⟨a8, n8, c8, rfl, hr1⟩ := q1
  refine ⟨rfl, ?_⟩
  go_simp
  go_at_call 52
  exact rsum_is HVV.out HSE.out _ _ _ u hr1
 repeat (first | ((first | ((with_reducible refine SchedD.walk1_no ?_ ?_ ?_ (fun K hK => ?_)); (focus rfl); (focus rfl); (focus rfl)) | ((with_reducible refine SchedD.walk1_gr ?_ ?_ ?_ ?_ (fun K hK => ?_)); (focus rfl); (focus rfl); (focus rfl); (focus rfl); apply Exists.intro; refine ⟨fun w1 hw1 => ?_, ?_⟩; (focus (go_simp; (try go_ints); (try (simp only [IntWalk.iteOmega]; go_simp)); first | done | (with_reducible rfl) | (with_reducible exact ⟨rfl, rfl⟩)))) | ((with_reducible refine SchedD.walk1_pure ?_ ?_ ?_ ?_ (fun K hK => ?_)); (focus rfl); (focus rfl); (focus rfl); (focus rfl); apply Exists.intro; refine ⟨fun w1 => ?_, ?_⟩; (focus (go_simp; (try go_ints); (try (simp only [IntWalk.iteOmega]; go_simp)); first | done | (with_reducible rfl) | (with_reducible exact ⟨rfl, rfl⟩))))); simp only [Act.put, zqa, zqb, zqc]; refine hK _ ?_; clear hK K))
 (with_reducible refine SchedD.walk1_nil ?_)
 intro wq hwq
 dsimp only [Sched.EndN, List.nil_append, List.cons_append, Act.put]
 rintro - - v1 ⟨a8, n8, c8, rfl, -⟩ - - - -
 (try simp only [zqa, zqb, zqc])
 repeat (first | (refine Sched.walk2_no rfl (fun K hK => ?_); simp only [Act.put, zqa, zqb, zqc]; refine hK _ ?_; clear hK K) | (refine Sched.walk2_go rfl (fun K hK => ?_); go_simp; (try go_ints); (try (simp only [IntWalk.iteOmega]; go_simp)); (refine hK _ _ ?_; clear hK K)))
 refine Sched.walk2_nil ?_
 have HQ := zqd (HG1.out.trans hwq)
 clear hwq HAK
 go_wp2_with fail
 go_ret
 exact ⟨rfl, HQ.out⟩
end Go.Proofs.YtlnkofpcidngoaaDoor
