/- Several texts in one. -/
import Derived.Test.YtlnkofpcidngoaaDoorB0
import Derived.Test.YtlnkofpcidngoaaDoorB4
import Derived.Test.YtlnkofpcidngoaaDoorB12
import Derived.Test.YtlnkofpcidngoaaDoorB11
import Derived.Test.YtlnkofpcidngoaaDoorB1
import Derived.Laws.BytesArg
import Derived.Laws.Strings
import Derived.WideShapes
namespace Go.Proofs.YtlnkofpcidngoaaDoor
open Go.ChangeShapes Go.WideShapes Go.ChangeAt Go.RowKit
open Crc
theorem sum_is {kind v e0 : Int} {xs : List Int} (hv : sumV kind xs = v) (he : sumE kind = e0) (a : Option Addr) (len cap : Nat) (w : World) (hl : LaidIn w) (hk : i64 kind) (hr : Rd .u8 w a len xs) :
   Calls Tryd.prog 53 #[.int .i64 kind, .slice a len cap] w fun e w' => e = .returned (.tuple #[.int .i64 v, .int .i64 e0]) ∧ Gr w w' := by
 subst hv he; exact csum_any kind a len cap xs w hl hk hr
theorem rsum_is {kind v e0 : Int} {xs : List Int} (hv : sumV kind xs = v) (he : sumE kind = e0) (a : Option Addr) (len cap : Nat) (w : World) (hr : Rd .u8 w a len xs) :
   Calls Tryd.prog 52 #[.int .i64 kind, .slice a len cap] w fun e w' => e = .returned (.tuple #[.int .i64 v, .int .i64 e0]) ∧ Gr w w' := by
 subst hv he; exact rcsum_any kind a len cap xs w hr
theorem laid_gr {w w' : World} (h : LaidIn w) (hg : Gr w w') : LaidIn w' := by
 obtain ⟨bm, h1, h2⟩ := h
 exact ⟨bm, hg.cell h1, fun u hu => h2 u (hg.trans hu)⟩
theorem crc_rng {kind : Int} (hk : isKind kind) (xs : List Int) : 0 ≤ sumV kind xs ∧ sumV kind xs < 2 ^ kind.toNat := by
 have e : sumV kind xs = (regN kind (Crc.top kind) xs : Nat) := by unfold sumV; rw [if_pos hk]
 have h : regN kind (Crc.top kind) xs < 2 ^ kind.toNat := feed_lt (kind_of hk).lt (bitsI xs) (Crc.top kind) (by rcases hk with rfl | rfl | rfl | rfl | rfl <;> decide)
 rw [e]
 exact ⟨Int.natCast_nonneg _, by exact_mod_cast h⟩
theorem sum8_rng (xs : List Int) : 0 ≤ sumV 8 xs ∧ sumV 8 xs ≤ 255 := by
 have := crc_rng (kind := 8) (by decide) xs
 have h : (2 : Int) ^ (8 : Int).toNat = 256 := by decide
 omega
def encL (c k n : Int) : List Int := (if 0 < c then [224 + c] else []) ++ [240 + k, n / 256, n % 256]
def encF (c k n : Int) : List Int × Int := if fbB c k n then (encL c k n ++ [sumV 8 (encL c k n)], 0) else ([], 1)
theorem encL_len (c k n : Int) : (encL c k n).length ≤ 4 := by unfold encL; split <;> simp
def EncPost (F : List Int × Int) (w : World) (e : Ending) (w' : World) : Prop :=
 ∃ (a : Option Addr) (n cap : Nat), e = .returned (.tuple #[.slice a n cap, .int .i64 F.2]) ∧ OwnI w.heap.size 5 .u8 w' a n cap F.1 ∧ Gr w w'
theorem or224 : ∀ n : Fin 16, bits .or .i64 224 (n.val : Int) = 224 + (n.val : Int) := by decide +kernel
theorem or240 : ∀ n : Fin 3, bits .or .i64 240 (n.val : Int) = 240 + (n.val : Int) := by decide +kernel
theorem or_224 {c : Int} (h0 : 0 ≤ c) (h1 : c < 16) : bits .or .i64 224 c = 224 + c := by
 obtain ⟨m, rfl⟩ : ∃ m : Nat, c = m := ⟨c.toNat, by omega⟩
 exact or224 ⟨m, by omega⟩
theorem or_240 {c : Int} (h0 : 0 ≤ c) (h1 : c ≤ 2) : bits .or .i64 240 c = 240 + c := by
 obtain ⟨m, rfl⟩ : ∃ m : Nat, c = m := ⟨c.toNat, by omega⟩
 exact or240 ⟨m, by omega⟩
set_option maxRecDepth 100000 in
set_option maxHeartbeats 1000000 in
theorem encode_any (c k n : Int) (w : World) (hl : LaidIn w) : Calls Tryd.prog 23 #[FVal c k n] w (EncPost (encF c k n) w) := by
 obtain ⟨F, hF⟩ : ∃ F, encF c k n = F := ⟨_, rfl⟩
 rw [hF]
 obtain ⟨V, hV⟩ : ∃ V, fbB c k n = V := ⟨_, rfl⟩
 have HF := zqd hF
 have HV := zqd hV
 have HLA := zqd hl
 clear hF hV hl
 go_enter Tryd.func23, Tryd.ntmps23
 go_upto_region 1 with (fail)
 obtain ⟨w1, hw1⟩ : ∃ y, y = w.alloc (.cells #[.int .i64 c, .int .i64 k, .int .i64 n] 26) := ⟨_, rfl⟩
 have HB1 := zqd (show CBlk w.heap.size 26 [.int .i64 c, .int .i64 k, .int .i64 n] w1 by rw [hw1]; exact CBlk.new _ _ _)
 have HG1 := zqd (show Gr w w1 by rw [hw1]; exact Gr.alloc _ _)
 rw [← hw1]
 clear hw1
 have hb1 := HB1.out
 unfold CBlk at hb1
 have HB1' := zqd hb1
 clear hb1
 go_wp2_with (first | (refine wpList_load_row rfl 26 _ rfl w.heap.size rfl 26 _ _ _ HB1'.out Tryd.underlying26 rfl (by kernel_rfl) ?_))
 refine (fbvalid_is HV.out w1).mono ?_
 rintro e w2 ⟨rfl, hg2⟩
 have HB2 := zqd (HB1.out.kept hg2)
 have HG2 := zqd (HG1.out.trans hg2)
 clear hg2 HB1 HB1' HG1
 cases V
 · go_wp2_with fail
   go_ret2
   rw [← HF.out, encF, HV.out, if_neg (by decide)]
   exact ⟨none, 0, 0, rfl, OwnI.nil _ _ _ _, HG2.out⟩
 · obtain ⟨c1, c2, k1, k2, n1, n2⟩ := fb_yes HV.out
   have x0 : w2.cell? ⟨w.heap.size, 0, none⟩ = some (.int .i64 c) := HB2.out.at 0 rfl
   by_cases hc : 0 < c
   · have hor := or_224 c1 c2
     obtain ⟨a3, c3, w3, hrun3, ho3, hg3⟩ := lit8 (Gr.refl w2) (OwnI.nil w2.heap.size 5 .u8 w2) [224 + c] 1 rfl (by intro z hz; simp only [List.mem_singleton] at hz; subst hz; omega) (by omega) (by omega)
     (try simp only [List.map_cons, List.map_nil, List.nil_append] at hrun3 ho3)
     have HR3 := zqd hrun3
     have HO3 := zqd ho3
     have HG3 := zqd hg3
     have HB3 := zqd (show CBlk w.heap.size 26 [.int .i64 c, .int .i64 k, .int .i64 n] w3 from HB2.out.kept hg3)
     clear hrun3 ho3 hg3
     go_upto_region 6 with (at_builtin; refine wpList_app rfl _ _ _ rfl rfl rfl HR3.out ?_)
     clear x0
     have y1 : w3.cell? ⟨w.heap.size, 1, none⟩ = some (.int .i64 k) := HB3.out.at 1 rfl
     have y2 : w3.cell? ⟨w.heap.size, 2, none⟩ = some (.int .i64 n) := HB3.out.at 2 rfl
     obtain ⟨a4, c4, w4, hrun4, ho4, hg4⟩ := lit8 HG3.out HO3.out [240 + k, n / 256, n % 256] 3 rfl (by intro z hz; simp only [List.mem_cons, List.not_mem_nil, or_false] at hz; rcases hz with rfl | rfl | rfl <;> omega) (by omega) (by omega)
     (try simp only [List.map_cons, List.map_nil, Nat.zero_add] at hrun4)
     have HR4 := zqd hrun4
     have hxs : ([224 + c]) ++ [240 + k, n / 256, n % 256] = encL c k n := by unfold encL; rw [if_pos hc]
     rw [hxs] at ho4
     have HO4 := zqd ho4
     have HG4 := zqd hg4
     have hor2 := or_240 k1 k2
     clear hrun4 ho4 hg4 hxs
     go_upto_region 7 with (at_builtin; refine wpList_app rfl _ _ _ rfl rfl rfl HR4.out ?_)
     obtain ⟨S, hS⟩ : ∃ S, sumV 8 (encL c k n) = S := ⟨_, rfl⟩
     have hsr := sum8_rng (encL c k n)
     rw [hS] at hsr
     obtain ⟨s1, s2⟩ := hsr
     have HS := zqd hS
     have hem : S % 256 = S := by omega
     clear hS
     go_wp2_with fail
     refine (sum_is HS.out (show sumE 8 = 0 by decide) _ _ _ w4 (laid_gr HLA.out (HG2.out.trans HG4.out)) (by constructor <;> omega) HO4.out.rd).mono ?_
     rintro e w5 ⟨rfl, hg5⟩
     obtain ⟨a6, c6, w6, hrun6, ho6, hg6⟩ := lit8 (HG4.out.trans hg5) (HO4.out.stay hg5) [S] 1 rfl (by intro z hz; simp only [List.mem_singleton] at hz; subst hz; omega) (by omega) (by omega)
     simp only [List.map_cons, List.map_nil] at hrun6
     have HR6 := zqd hrun6
     have HO6 := zqd ho6
     have HG6 := zqd hg6
     clear hrun6 ho6 hg6 hg5
     go_wp2_with (at_builtin; refine wpList_app rfl _ _ _ rfl rfl rfl HR6.out ?_)
     go_ret2
     rw [← HF.out, encF, HV.out, if_pos rfl, HS.out]
     exact ⟨a6, _, c6, rfl, HO6.out.weak HG2.out.size, HG2.out.trans HG6.out⟩
   · have y1 : w2.cell? ⟨w.heap.size, 1, none⟩ = some (.int .i64 k) := HB2.out.at 1 rfl
     have y2 : w2.cell? ⟨w.heap.size, 2, none⟩ = some (.int .i64 n) := HB2.out.at 2 rfl
     obtain ⟨a4, c4, w4, hrun4, ho4, hg4⟩ := lit8 (Gr.refl w2) (OwnI.nil w2.heap.size 5 .u8 w2) [240 + k, n / 256, n % 256] 3 rfl (by intro z hz; simp only [List.mem_cons, List.not_mem_nil, or_false] at hz; rcases hz with rfl | rfl | rfl <;> omega) (by omega) (by omega)
     (try simp only [List.map_cons, List.map_nil, Nat.zero_add] at hrun4)
     have HR4 := zqd hrun4
     have hxs : ([] : List Int) ++ [240 + k, n / 256, n % 256] = encL c k n := by unfold encL; rw [if_neg hc]
     rw [hxs] at ho4
     have HO4 := zqd ho4
     have HG4 := zqd hg4
     have hor2 := or_240 k1 k2
     clear hrun4 ho4 hg4 hxs
     go_upto_region 7 with (at_builtin; refine wpList_app rfl _ _ _ rfl rfl rfl HR4.out ?_)
     obtain ⟨S, hS⟩ : ∃ S, sumV 8 (encL c k n) = S := ⟨_, rfl⟩
     have hsr := sum8_rng (encL c k n)
     rw [hS] at hsr
     obtain ⟨s1, s2⟩ := hsr
     have HS := zqd hS
     have hem : S % 256 = S := by omega
     clear hS
     go_wp2_with fail
     refine (sum_is HS.out (show sumE 8 = 0 by decide) _ _ _ w4 (laid_gr HLA.out (HG2.out.trans HG4.out)) (by constructor <;> omega) HO4.out.rd).mono ?_
     rintro e w5 ⟨rfl, hg5⟩
     obtain ⟨a6, c6, w6, hrun6, ho6, hg6⟩ := lit8 (HG4.out.trans hg5) (HO4.out.stay hg5) [S] 1 rfl (by intro z hz; simp only [List.mem_singleton] at hz; subst hz; omega) (by omega) (by omega)
     simp only [List.map_cons, List.map_nil] at hrun6
     have HR6 := zqd hrun6
     have HO6 := zqd ho6
     have HG6 := zqd hg6
     clear hrun6 ho6 hg6 hg5
     go_wp2_with (at_builtin; refine wpList_app rfl _ _ _ rfl rfl rfl HR6.out ?_)
     go_ret2
     rw [← HF.out, encF, HV.out, if_pos rfl, HS.out]
     exact ⟨a6, _, c6, rfl, HO6.out.weak HG2.out.size, HG2.out.trans HG6.out⟩
theorem putR_two (n : Int) (h0 : 0 ≤ n) (h1 : n ≤ 65535) : putR n 2 = [n / 256, n % 256] := by
 simp only [putR]
 have e1 : n / 2 ^ (8 * 1) % 256 = n / 256 := by
   rw [show (2 : Int) ^ (8 * 1) = 256 by decide]; omega
 have e0 : n / 2 ^ (8 * 0) % 256 = n % 256 := by
   rw [show (2 : Int) ^ (8 * 0) = 1 by decide, Int.ediv_one]
 rw [e1, e0]
set_option maxRecDepth 100000 in
set_option maxHeartbeats 1000000 in
theorem rencode_any (c k n : Int) (w : World) : Calls Tryd.prog 21 #[FVal c k n] w (EncPost (encF c k n) w) := by
 obtain ⟨F, hF⟩ : ∃ F, encF c k n = F := ⟨_, rfl⟩
 rw [hF]
 obtain ⟨V, hV⟩ : ∃ V, fbB c k n = V := ⟨_, rfl⟩
 have HF := zqd hF
 have HV := zqd hV
 clear hF hV
 go_enter Tryd.func21, Tryd.ntmps21
 go_upto_region 1 with (fail)
 obtain ⟨w1, hw1⟩ : ∃ y, y = w.alloc (.cells #[.int .i64 c, .int .i64 k, .int .i64 n] 26) := ⟨_, rfl⟩
 have HB1 := zqd (show CBlk w.heap.size 26 [.int .i64 c, .int .i64 k, .int .i64 n] w1 by rw [hw1]; exact CBlk.new _ _ _)
 have HG1 := zqd (show Gr w w1 by rw [hw1]; exact Gr.alloc _ _)
 rw [← hw1]
 clear hw1
 have hb1 := HB1.out
 unfold CBlk at hb1
 have HB1' := zqd hb1
 clear hb1
 go_wp2_with (first | (refine wpList_load_row rfl 26 _ rfl w.heap.size rfl 26 _ _ _ HB1'.out Tryd.underlying26 rfl (by kernel_rfl) ?_))
 refine (rfbvalid_is HV.out w1).mono ?_
 rintro e w2 ⟨rfl, hg2⟩
 have HB2 := zqd (HB1.out.kept hg2)
 have HG2 := zqd (HG1.out.trans hg2)
 clear hg2 HB1 HB1' HG1
 cases V
 · go_wp2_with fail
   go_ret2
   rw [← HF.out, encF, HV.out, if_neg (by decide)]
   exact ⟨none, 0, 0, rfl, OwnI.nil _ _ _ _, HG2.out⟩
 · obtain ⟨c1, c2, k1, k2, n1, n2⟩ := fb_yes HV.out
   have x0 : w2.cell? ⟨w.heap.size, 0, none⟩ = some (.int .i64 c) := HB2.out.at 0 rfl
   have HBF2 := zqd (BufC.start HB2.out HG2.out)
   by_cases hc : 0 < c
   · obtain ⟨a3, c3, w3, hrun3, hb3⟩ := HBF2.out.lit [224 + c] 1 1 rfl rfl (by intro z hz; simp only [List.mem_singleton] at hz; subst hz; omega) (by omega) (by omega)
     simp only [List.map_cons, List.map_nil, List.nil_append] at hrun3 hb3
     have HR3 := zqd hrun3
     have HBF3 := zqd hb3
     clear hrun3 hb3
     go_upto_region 6 with (at_builtin; refine wpList_app rfl _ _ _ rfl rfl rfl HR3.out ?_)
     clear x0 HR3
     have y1 : ∀ u, Gr w3 u → u.cell? ⟨w.heap.size, 1, none⟩ = some (.int .i64 k) := fun u hu => (HBF3.out.gr hu).1.at 1 rfl
     have hI : ∀ u, Gr w3 u → u.cell? ⟨w.heap.size, 2, none⟩ = some (.int .i64 n) := fun u hu => (HBF3.out.gr hu).1.at 2 rfl
     have hem2 : (240 + k) % 256 = 240 + k := by omega
     refine Sched2.wp_region_sched (fun u => u.cell? ⟨w.heap.size, 2, none⟩ = some (.int .i64 n)) [7, 8] [5] [6, 9, 10] true hI (by kernel_rfl) (by kernel_rfl) ?_
     repeat (first | (refine Sched2.walk1_ord rfl ?_) | (refine Sched2.walk1_no rfl rfl rfl (fun K hK => ?_); simp only [Act.put, zqa, zqb, zqc]; refine hK _ ?_; clear hK K) | (refine Sched2.walk1_gr rfl rfl rfl rfl (fun K hK => ?_); apply Exists.intro; refine ⟨fun w1 hw1 => ?_, ?_⟩; (focus (go_simp; (try go_ints); (try (simp only [IntWalk.iteOmega]; go_simp)); first | done | fail | (with_reducible rfl) | (with_reducible exact ⟨rfl, rfl⟩))); simp only [Act.put, zqa, zqb, zqc]; refine hK _ ?_; clear hK K) | (refine Sched2.walk1_late rfl rfl rfl rfl (fun K hK => ?_); apply Exists.intro; refine ⟨fun w1 hw1 => ?_, ?_⟩; (focus (go_simp; (try go_ints); (try (simp only [IntWalk.iteOmega]; go_simp)); first | done | fail | (with_reducible rfl) | (with_reducible exact ⟨rfl, rfl⟩))); simp only [Act.put, zqa, zqb, zqc]; refine hK _ ?_; clear hK K) | (refine Sched2.walk1_box rfl rfl rfl ?_; apply Exists.intro; refine ⟨fun w1 hw1 => ?_, ?_⟩; (focus (go_simp; exact ⟨Gr.alloc _ _, rfl, by simp, heap_alloc_new _ _⟩))))
     refine Sched2.walk1_new (NRow1 (fun lo => .slice (some ⟨lo, 0, none⟩) 1 1) (.cells #[.int .u8 (240 + k)] 5)) rfl rfl rfl (NRow1.stable _ _) (fun u hu => ?_) ?_
     · go_simp
       (try go_ints)
       (try simp only [hem2])
       exact ⟨Gr.alloc _ _, rfl, by simp, heap_alloc_new _ _⟩
     repeat (first | (refine Sched2.walk1_ord rfl ?_) | (refine Sched2.walk1_no rfl rfl rfl (fun K hK => ?_); simp only [Act.put, zqa, zqb, zqc]; refine hK _ ?_; clear hK K) | (refine Sched2.walk1_gr rfl rfl rfl rfl (fun K hK => ?_); apply Exists.intro; refine ⟨fun w1 hw1 => ?_, ?_⟩; (focus (go_simp; (try go_ints); (try (simp only [IntWalk.iteOmega]; go_simp)); first | done | fail | (with_reducible rfl) | (with_reducible exact ⟨rfl, rfl⟩))); simp only [Act.put, zqa, zqb, zqc]; refine hK _ ?_; clear hK K) | (refine Sched2.walk1_late rfl rfl rfl rfl (fun K hK => ?_); apply Exists.intro; refine ⟨fun w1 hw1 => ?_, ?_⟩; (focus (go_simp; (try go_ints); (try (simp only [IntWalk.iteOmega]; go_simp)); first | done | fail | (with_reducible rfl) | (with_reducible exact ⟨rfl, rfl⟩))); simp only [Act.put, zqa, zqb, zqc]; refine hK _ ?_; clear hK K) | (refine Sched2.walk1_box rfl rfl rfl ?_; apply Exists.intro; refine ⟨fun w1 hw1 => ?_, ?_⟩; (focus (go_simp; exact ⟨Gr.alloc _ _, rfl, by simp, heap_alloc_new _ _⟩))))
     refine Sched2.walk1_nil ?_
     intro wq hwq
     dsimp only [Sched.EndN, List.nil_append, List.cons_append, Act.put]
     rintro lo hi v ⟨rfl, hlt, hblk⟩ hlo - - -
     have hrd : Rd .u8 wq (some ⟨lo, 0, none⟩) 1 [240 + k] := ⟨rfl, by intro z hz; simp at hz; subst hz; exact WalkArith.wf_u8 (by omega), by simp [maxLen], .inr ⟨lo, 0, rfl, heap_lt hblk, fun i hi => by
       rw [cell_of_block hblk]
       obtain rfl : i = 0 := by omega
       rfl⟩⟩
     obtain ⟨a8, cap8, w8, hrun, hb8⟩ := (HBF3.out.gr hwq).app _ 1 1 _ 2 rfl hrd (by omega)
     have H8 := zqd hb8
     have hi8 : w8.cell? ⟨w.heap.size, 2, none⟩ = some (.int .i64 n) := hb8.1.at 2 rfl
     clear hb8 hrd hblk hlt hlo hwq hI y1
     (try simp only [zqa, zqb, zqc])
     simp only [Sched2.lasts, List.filterMap_cons, List.filterMap_nil, List.getElem?_toArray, List.getElem?_cons_succ, List.getElem?_cons_zero]
     refine Sched2.walk2_app rfl _ _ _ rfl rfl rfl hrun ?_ ?_
     · exact .inr hi8
     clear hrun
     dsimp only [Act.put]
     (try simp only [zqa, zqb, zqc])
     repeat (first | (refine Sched2.walk2_no rfl (fun K hK => ?_); simp only [Act.put, zqa, zqb, zqc]; refine hK _ ?_; clear hK K) | (refine Sched2.walk2_go rfl (fun K hK => ?_); go_simp; (try go_ints); (try (simp only [IntWalk.iteOmega]; go_simp)); first | (refine hK _ _ (by first | exact .inl ⟨rfl, rfl⟩ | exact .inr ((by assumption))) ?_; clear hK K) | (go_at_call 51; ((with_reducible refine (H8.out.put 2 2 4 _ rfl rfl (by omega) (by omega)).mono ?_)); rintro e w9 ⟨a9, cap9, rfl, hrm⟩; have H9 := zqd hrm; have hi9 : w9.cell? ⟨w.heap.size, 2, none⟩ = some (.int .i64 n) := hrm.1.at 2 rfl; clear hrm hi8; refine ⟨_, rfl, ?_⟩; refine hK _ _ (.inr hi9) ?_; clear hK K hi9)))
     refine Sched2.walk2_nil ?_
     clear H8
     have hxs : [224 + c] ++ [240 + k] ++ putR n 2 = encL c k n := by rw [putR_two n n1 n2]; unfold encL; rw [if_pos hc]; simp
     have h9 := H9.out
     rw [hxs] at h9
     have HB9 := zqd h9
     clear h9 hxs H9
     obtain ⟨S, hS⟩ : ∃ S, sumV 8 (encL c k n) = S := ⟨_, rfl⟩
     have hsr := sum8_rng (encL c k n)
     rw [hS] at hsr
     obtain ⟨s1, s2⟩ := hsr
     have HS := zqd hS
     have hem : S % 256 = S := by omega
     clear hS hem2
     go_wp2_with fail
     refine (rsum_is HS.out (show sumE 8 = 0 by decide) _ _ _ w9 HB9.out.2.1.rd).mono ?_
     rintro e w10 ⟨rfl, hg10⟩
     obtain ⟨a11, c11, w11, hrun11, hb11⟩ := (HB9.out.gr hg10).lit [S] 1 5 rfl rfl (by intro z hz; simp only [List.mem_singleton] at hz; subst hz; omega) (by omega) (by omega)
     simp only [List.map_cons, List.map_nil] at hrun11
     have HR11 := zqd hrun11
     have HB11 := zqd hb11
     clear hrun11 hb11 hg10
     go_wp2_with (at_builtin; refine wpList_app rfl _ _ _ rfl rfl rfl HR11.out ?_)
     go_ret2
     rw [← HF.out, encF, HV.out, if_pos rfl, HS.out]
     exact ⟨a11, _, c11, rfl, HB11.out.done, HB11.out.2.2⟩
   · go_upto_region 6 with (fail)
     clear x0
     have y1 : ∀ u, Gr w2 u → u.cell? ⟨w.heap.size, 1, none⟩ = some (.int .i64 k) := fun u hu => (HBF2.out.gr hu).1.at 1 rfl
     have hI : ∀ u, Gr w2 u → u.cell? ⟨w.heap.size, 2, none⟩ = some (.int .i64 n) := fun u hu => (HBF2.out.gr hu).1.at 2 rfl
     have hem2 : (240 + k) % 256 = 240 + k := by omega
     refine Sched2.wp_region_sched (fun u => u.cell? ⟨w.heap.size, 2, none⟩ = some (.int .i64 n)) [7, 8] [5] [6, 9, 10] true hI (by kernel_rfl) (by kernel_rfl) ?_
     repeat (first | (refine Sched2.walk1_ord rfl ?_) | (refine Sched2.walk1_no rfl rfl rfl (fun K hK => ?_); simp only [Act.put, zqa, zqb, zqc]; refine hK _ ?_; clear hK K) | (refine Sched2.walk1_gr rfl rfl rfl rfl (fun K hK => ?_); apply Exists.intro; refine ⟨fun w1 hw1 => ?_, ?_⟩; (focus (go_simp; (try go_ints); (try (simp only [IntWalk.iteOmega]; go_simp)); first | done | fail | (with_reducible rfl) | (with_reducible exact ⟨rfl, rfl⟩))); simp only [Act.put, zqa, zqb, zqc]; refine hK _ ?_; clear hK K) | (refine Sched2.walk1_late rfl rfl rfl rfl (fun K hK => ?_); apply Exists.intro; refine ⟨fun w1 hw1 => ?_, ?_⟩; (focus (go_simp; (try go_ints); (try (simp only [IntWalk.iteOmega]; go_simp)); first | done | fail | (with_reducible rfl) | (with_reducible exact ⟨rfl, rfl⟩))); simp only [Act.put, zqa, zqb, zqc]; refine hK _ ?_; clear hK K) | (refine Sched2.walk1_box rfl rfl rfl ?_; apply Exists.intro; refine ⟨fun w1 hw1 => ?_, ?_⟩; (focus (go_simp; exact ⟨Gr.alloc _ _, rfl, by simp, heap_alloc_new _ _⟩))))
     refine Sched2.walk1_new (NRow1 (fun lo => .slice (some ⟨lo, 0, none⟩) 1 1) (.cells #[.int .u8 (240 + k)] 5)) rfl rfl rfl (NRow1.stable _ _) (fun u hu => ?_) ?_
     · go_simp
       (try go_ints)
       (try simp only [hem2])
       exact ⟨Gr.alloc _ _, rfl, by simp, heap_alloc_new _ _⟩
     repeat (first | (refine Sched2.walk1_ord rfl ?_) | (refine Sched2.walk1_no rfl rfl rfl (fun K hK => ?_); simp only [Act.put, zqa, zqb, zqc]; refine hK _ ?_; clear hK K) | (refine Sched2.walk1_gr rfl rfl rfl rfl (fun K hK => ?_); apply Exists.intro; refine ⟨fun w1 hw1 => ?_, ?_⟩; (focus (go_simp; (try go_ints); (try (simp only [IntWalk.iteOmega]; go_simp)); first | done | fail | (with_reducible rfl) | (with_reducible exact ⟨rfl, rfl⟩))); simp only [Act.put, zqa, zqb, zqc]; refine hK _ ?_; clear hK K) | (refine Sched2.walk1_late rfl rfl rfl rfl (fun K hK => ?_); apply Exists.intro; refine ⟨fun w1 hw1 => ?_, ?_⟩; (focus (go_simp; (try go_ints); (try (simp only [IntWalk.iteOmega]; go_simp)); first | done | fail | (with_reducible rfl) | (with_reducible exact ⟨rfl, rfl⟩))); simp only [Act.put, zqa, zqb, zqc]; refine hK _ ?_; clear hK K) | (refine Sched2.walk1_box rfl rfl rfl ?_; apply Exists.intro; refine ⟨fun w1 hw1 => ?_, ?_⟩; (focus (go_simp; exact ⟨Gr.alloc _ _, rfl, by simp, heap_alloc_new _ _⟩))))
     refine Sched2.walk1_nil ?_
     intro wq hwq
     dsimp only [Sched.EndN, List.nil_append, List.cons_append, Act.put]
     rintro lo hi v ⟨rfl, hlt, hblk⟩ hlo - - -
     have hrd : Rd .u8 wq (some ⟨lo, 0, none⟩) 1 [240 + k] := ⟨rfl, by intro z hz; simp at hz; subst hz; exact WalkArith.wf_u8 (by omega), by simp [maxLen], .inr ⟨lo, 0, rfl, heap_lt hblk, fun i hi => by
       rw [cell_of_block hblk]
       obtain rfl : i = 0 := by omega
       rfl⟩⟩
     obtain ⟨a8, cap8, w8, hrun, hb8⟩ := (HBF2.out.gr hwq).app _ 1 1 _ 1 rfl hrd (by omega)
     have H8 := zqd hb8
     have hi8 : w8.cell? ⟨w.heap.size, 2, none⟩ = some (.int .i64 n) := hb8.1.at 2 rfl
     clear hb8 hrd hblk hlt hlo hwq hI y1
     (try simp only [zqa, zqb, zqc])
     simp only [Sched2.lasts, List.filterMap_cons, List.filterMap_nil, List.getElem?_toArray, List.getElem?_cons_succ, List.getElem?_cons_zero]
     refine Sched2.walk2_app rfl _ _ _ rfl rfl rfl hrun ?_ ?_
     · exact .inr hi8
     clear hrun
     dsimp only [Act.put]
     (try simp only [zqa, zqb, zqc])
     repeat (first | (refine Sched2.walk2_no rfl (fun K hK => ?_); simp only [Act.put, zqa, zqb, zqc]; refine hK _ ?_; clear hK K) | (refine Sched2.walk2_go rfl (fun K hK => ?_); go_simp; (try go_ints); (try (simp only [IntWalk.iteOmega]; go_simp)); first | (refine hK _ _ (by first | exact .inl ⟨rfl, rfl⟩ | exact .inr ((by assumption))) ?_; clear hK K) | (go_at_call 51; ((with_reducible refine (H8.out.put 2 2 3 _ rfl rfl (by omega) (by omega)).mono ?_)); rintro e w9 ⟨a9, cap9, rfl, hrm⟩; have H9 := zqd hrm; have hi9 : w9.cell? ⟨w.heap.size, 2, none⟩ = some (.int .i64 n) := hrm.1.at 2 rfl; clear hrm hi8; refine ⟨_, rfl, ?_⟩; refine hK _ _ (.inr hi9) ?_; clear hK K hi9)))
     refine Sched2.walk2_nil ?_
     clear H8
     have hxs : ([] : List Int) ++ [240 + k] ++ putR n 2 = encL c k n := by rw [putR_two n n1 n2]; unfold encL; rw [if_neg (show ¬ 0 < c by omega)]; simp
     have h9 := H9.out
     rw [hxs] at h9
     have HB9 := zqd h9
     clear h9 hxs H9
     obtain ⟨S, hS⟩ : ∃ S, sumV 8 (encL c k n) = S := ⟨_, rfl⟩
     have hsr := sum8_rng (encL c k n)
     rw [hS] at hsr
     obtain ⟨s1, s2⟩ := hsr
     have HS := zqd hS
     have hem : S % 256 = S := by omega
     clear hS hem2
     go_wp2_with fail
     refine (rsum_is HS.out (show sumE 8 = 0 by decide) _ _ _ w9 HB9.out.2.1.rd).mono ?_
     rintro e w10 ⟨rfl, hg10⟩
     obtain ⟨a11, c11, w11, hrun11, hb11⟩ := (HB9.out.gr hg10).lit [S] 1 4 rfl rfl (by intro z hz; simp only [List.mem_singleton] at hz; subst hz; omega) (by omega) (by omega)
     simp only [List.map_cons, List.map_nil] at hrun11
     have HR11 := zqd hrun11
     have HB11 := zqd hb11
     clear hrun11 hb11 hg10
     go_wp2_with (at_builtin; refine wpList_app rfl _ _ _ rfl rfl rfl HR11.out ?_)
     go_ret2
     rw [← HF.out, encF, HV.out, if_pos rfl, HS.out]
     exact ⟨a11, _, c11, rfl, HB11.out.done, HB11.out.2.2⟩
end Go.Proofs.YtlnkofpcidngoaaDoor
namespace Go.Proofs.YtlnkofpcidngoaaDoor
open Go.ChangeShapes Go.WideShapes Go.ChangeAt Go.RowKit
theorem OwnI.le_cap {B : Nat} {e : TypeId} {k : IntKind} {w : World} {a : Option Addr} {n cap : Nat} {xs : List Int} (h : OwnI B e k w a n cap xs) : n ≤ cap := by
 rcases h.row.2 with ⟨hv, h0⟩ | ⟨g, cap', cur, hv, _, _, hn, _⟩
 · omega
 · injection hv with _ _ e3; omega
def BytI (w0 : World) (a : Option Addr) (n cap : Nat) (xs : List Int) (wn : World) : Prop := OwnI w0.heap.size 5 .u8 wn a n cap xs ∧ Gr w0 wn
theorem BytI.turn {w0 wn w' : World} {a a' : Option Addr} {n n' cap cap' : Nat} {xs ys : List Int} (hI : BytI w0 a n cap xs wn) (ho : OwnI w0.heap.size 5 .u8 w' a' n' cap' ys) (hg : wn.grownBy w' (Value.slice a n cap).ownBlock) : BytI w0 a' n' cap' ys w' :=
 ⟨ho, grown_own hI.2 hI.1 (Nat.le_refl _) hg⟩
theorem BytI.gr {w0 wn w' : World} {a : Option Addr} {n cap : Nat} {xs : List Int} (hI : BytI w0 a n cap xs wn) (hg : Gr wn w') : BytI w0 a n cap xs w' := ⟨hI.1.stay hg, hI.2.trans hg⟩
theorem BytI.app {w0 wn : World} {a : Option Addr} {n cap : Nat} {xs : List Int} (hI : BytI w0 a n cap xs wn) (b : Option Addr) (m c : Nat) (ys : List Int) (N : Nat) (hN : N = n + m) (hr : Rd .u8 wn b m ys) (hm : n + m ≤ 140737488355328) :
   ∃ a' cap' w', (Builtin.append_ #[39, 39] 39 #[.slice a n cap, .slice b m c]).run Tryd.prog wn = .ok (.slice a' N cap') w' ∧ BytI w0 a' N cap' (xs ++ ys) w' := by
 subst hN
 obtain ⟨a', cap', w', h1, h2, h3, _⟩ := app_u8 _ wn a n cap xs hI.1 b m c ys hr hm hI.2.size
 exact ⟨a', cap', w', h1, hI.turn h2 h3⟩
set_option maxRecDepth 20000 in
set_option maxHeartbeats 2000000 in
theorem set_any (B g N C : Nat) (xs : List Int) (o : Nat) (O v : Int) (w : World) (hO : O = o) (hown : OwnI B 5 .u8 w (some ⟨g, 0, none⟩) N C xs) (h1 : o + 2 ≤ N) (h3 : N ≤ 100000) (h0 : 0 ≤ v) (hv : v ≤ 65535) :
   Calls Tryd.prog 83 #[.slice (some ⟨g, 0, none⟩) N C, .int .i64 O, .int .i64 v] w fun e w' => e = .returned (.tuple #[]) ∧ OwnI B 5 .u8 w' (some ⟨g, 0, none⟩) N C (setM xs o (putR v 2)) ∧ w.grownBy w' (some g) := by
 subst hO
 obtain ⟨c1, f1⟩ := hown.at o (by omega)
 have hs := hown.set o (v / 256) (WalkArith.wf_u8 (by omega))
 obtain ⟨c2, f2⟩ := hs.at (o + 1) (by omega)
 have hs2 := hs.set (o + 1) (v % 256) (WalkArith.wf_u8 (by omega))
 have e : setM xs o (putR v 2) = (xs.set o (v / 256)).set (o + 1) (v % 256) := by
   rw [putR2, show v / 256 % 256 = v / 256 by omega]; rfl
 rw [← e] at hs2
 have HS := zqd hs2
 have HG := zqd (grown_trans' (grown_setAt w g o (.int .u8 (v / 256))) (grown_setAt (w.setCell ⟨g, o, none⟩ (.int .u8 (v / 256))) g (o + 1) (.int .u8 (v % 256))))
 clear hs hs2 e hown
 go_enter Tryd.func83, Tryd.ntmps83
 go_wp2_with fail
 first | go_end0 | (go_show; fail)
 exact ⟨rfl, HS.out, HG.out⟩
theorem BytI.set {w0 wn : World} {g n cap : Nat} {xs : List Int} (hI : BytI w0 (some ⟨g, 0, none⟩) n cap xs wn) (o : Nat) (O x : Int) (hO : O = o) (h1 : o + 2 ≤ n) (h3 : n ≤ 100000) (h0 : 0 ≤ x) (hx : x ≤ 65535) :
   Calls Tryd.prog 83 #[.slice (some ⟨g, 0, none⟩) n cap, .int .i64 O, .int .i64 x] wn fun e w' => e = .returned (.tuple #[]) ∧ BytI w0 (some ⟨g, 0, none⟩) n cap (setM xs o (putR x 2)) w' := by
 refine (set_any _ g n cap xs o O x wn hO hI.1 h1 h3 h0 hx).mono ?_
 rintro e w' ⟨rfl, ho, hg⟩
 exact ⟨rfl, hI.turn ho hg⟩
def BuildPost (R : Int × List Int) (w : World) (e : Ending) (w' : World) : Prop :=
 ∃ a n cap, e = .returned (.tuple #[.slice a n cap, .int .i64 R.1]) ∧ n = R.2.length ∧ BytI w a n cap R.2 w'
theorem buildF_no {h : Hdr} (hv : validH h = false) (ys : List Int) : buildF h ys = (1, []) := by rw [buildF, hv]; rfl
theorem buildF_big {h : Hdr} (hv : validH h = true) {ys : List Int} (hl : 1500 < (headL h ++ ys).length) : buildF h ys = (2, []) := by
 rw [buildF, if_pos hv, if_pos hl]
theorem BytI.nil (w0 wn : World) (hg : Gr w0 wn) : BytI w0 none 0 0 [] wn := ⟨OwnI.nil _ _ _ _, hg⟩
set_option maxRecDepth 100000 in
set_option maxHeartbeats 2000000 in
theorem rbuild_any (h : Hdr) (a : Option Addr) (m c : Nat) (ys : List Int) (w : World) (hr : Rd .u8 w a m ys) (hm : m ≤ 140737488351232) : Calls Tryd.prog 57 #[HVal h, .slice a m c] w (BuildPost (buildF h ys) w) := by
 obtain ⟨R, hR⟩ : ∃ R, buildF h ys = R := ⟨_, rfl⟩
 have HRF := zqd hR
 rw [hR]
 have HR := zqd hr
 have HL := zqd hr.len
 obtain ⟨V, hV⟩ : ∃ V, validH h = V := ⟨_, rfl⟩
 have HV := zqd hV
 clear hR hr hV
 go_enter Tryd.func57, Tryd.ntmps57
 go_upto_region 1 with (fail)
 obtain ⟨w1, hw1⟩ : ∃ y, y = w.alloc (.cells (HCells h).toArray 49) := ⟨_, rfl⟩
 have hb1 : HBlk w.heap.size h w1 := by rw [hw1]; exact heap_alloc_new _ _
 have hg1 : Gr w w1 := by rw [hw1]; exact Gr.alloc _ _
 simp only [HCells] at hw1
 rw [← hw1]
 have hb1' := hb1
 unfold HBlk at hb1'
 have HB1' := zqd hb1'
 have HB1 := zqd hb1
 have HG1 := zqd hg1
 clear hw1 hb1 hb1' hg1
 go_wp2_with (first | (refine wpList_load_row rfl 49 _ rfl w.heap.size rfl 49 _ _ _ HB1'.out Tryd.underlying49 rfl (by kernel_rfl) ?_))
 refine (rvalid_is HV.out w1).mono ?_
 rintro e wv ⟨rfl, hgv⟩
 have hbv := HB1.out.kept hgv
 unfold HBlk at hbv
 have HBV := zqd hbv
 have HGV := zqd (HG1.out.trans hgv)
 clear hgv hbv HB1 HB1' HG1
 cases V
 · go_wp2_with fail
   go_ret2
   have e := HRF.out
   rw [buildF_no HV.out] at e
   subst e
   exact ⟨none, 0, 0, rfl, rfl, BytI.nil _ _ HGV.out⟩
 · go_wp2_with (first | (refine wpList_load_row rfl 49 _ rfl w.heap.size rfl 49 _ _ _ HBV.out Tryd.underlying49 rfl (by kernel_rfl) ?_))
   refine (rhead_yes h wv HV.out).mono ?_
   rintro e w2 ⟨a2, n, cap2, rfl, hn, ho2, hg2⟩
   have HN := zqd hn
   have hn28 : n = 28 ∨ n = 40 := by rw [hn, headL_len]; split <;> omega
   have hnb : 28 ≤ n ∧ n ≤ 40 := by omega
   obtain ⟨n1, n2⟩ := hnb
   have H2 := zqd (show BytI w a2 n cap2 (headL h) w2 from ⟨ho2.weak HGV.out.size, HGV.out.trans hg2⟩)
   clear ho2 hg2 HGV HBV hn hn28
   obtain ⟨N, hN⟩ : ∃ N, N = n + m := ⟨_, rfl⟩
   obtain ⟨a3, cap3, w3, hrun, hb3⟩ := H2.out.app a m c ys N hN (HR.out.kept H2.out.2) (by omega)
   obtain ⟨g3, hg3, _⟩ := hb3.1.some (by omega)
   subst hg3
   have hcap : N ≤ cap3 := hb3.1.le_cap
   have H3 := zqd hb3
   have HRUN := zqd hrun
   have HNN := zqd hN
   have hN1 : 28 ≤ N := by omega
   have hN0 : N ≤ 140737488355328 := by omega
   have hXL := zqd (show (headL h ++ ys).length = N by rw [List.length_append, ← HN.out, HL.out, hN])
   clear hb3 hrun hN
   by_cases hbig : 1500 < N
   · go_wp2_with (at_builtin; refine wpList_app rfl _ _ _ rfl rfl rfl HRUN.out ?_)
     go_ret2
     have e := HRF.out
     rw [buildF_big HV.out (by rw [hXL.out]; exact hbig)] at e
     subst e
     exact ⟨none, 0, 0, rfl, rfl, BytI.nil _ _ H3.out.2⟩
   · have hN2 : N ≤ 1500 := by omega
     go_wp2_with (at_builtin; refine wpList_app rfl _ _ _ rfl rfl rfl HRUN.out ?_)
     clear HRUN H2 hbig
     refine (H3.out.set 2 2 _ rfl (by omega) (by omega) (by omega) (by omega)).mono ?_
     rintro e w4 ⟨rfl, hb4⟩
     have H4 := zqd hb4
     clear hb4 H3
     go_wp2_with fail
     refine (H4.out.set 24 24 _ rfl (by omega) (by omega) (by omega) (by omega)).mono ?_
     rintro e w5 ⟨rfl, hb5⟩
     have H5 := zqd (show BytI w (some ⟨g3, 0, none⟩) N cap3 (put2 (headL h ++ ys)) w5 by unfold put2; rw [hXL.out]; exact hb5)
     clear hb5 H4
     go_wp2_with fail
     have hcut := (H5.out.1.cut 20 (by omega)).rd
     refine (rsum_any _ 20 cap3 _ w5 hcut (by omega)).mono ?_
     rintro e w' ⟨rfl, rfl⟩
     have hfr := foldS_rng (foldS 0 + words ((put2 (headL h ++ ys)).take 20))
     have hsr : 0 ≤ addS 0 ((put2 (headL h ++ ys)).take 20) ∧ addS 0 ((put2 (headL h ++ ys)).take 20) ≤ 65535 := hfr
     obtain ⟨s, hs⟩ : ∃ s, addS 0 ((put2 (headL h ++ ys)).take 20) = s := ⟨_, rfl⟩
     rw [hs] at hsr ⊢
     obtain ⟨s1, s2⟩ := hsr
     have HS := zqd hs
     clear hs hfr hcut
     go_wp2_with fail
     refine (H5.out.set 10 10 _ rfl (by omega) (by omega) (by omega) (by omega)).mono ?_
     rintro e w6 ⟨rfl, hb6⟩
     have H6 := zqd (show BytI w (some ⟨g3, 0, none⟩) N cap3 (bldL (headL h ++ ys)) w6 by unfold bldL; rw [HS.out]; exact hb6)
     clear hb6 H5
     go_wp2_with fail
     go_ret2
     have e := HRF.out
     rw [buildF_yes HV.out (by rw [hXL.out]; exact hN2)] at e
     subst e
     exact ⟨_, N, cap3, rfl, by show N = (bldL _).length; rw [bldL_len, hXL.out], H6.out⟩
theorem conv_rd {P : Program} {w : World} {a : Option Addr} {len : Nat} {xs : List Int} (h : Rd .u8 w a len xs) (cap : Nat) (src e dst : TypeId) (hs : P.underlying src = some (.slice e)) (he : P.underlying e = some (.int .u8)) (hd : P.underlying dst = some .string) :
   (convert src dst (.slice a len cap)).run P w = .ok (.string (strOfNums xs)) w := by
 obtain ⟨h1, _, _, h4⟩ := h
 rcases h4 with h0 | ⟨b, off, rfl, hb, hc⟩
 · subst h0
   have : xs = [] := List.eq_nil_of_length_eq_zero h1
   subst this
   rw [run_convert_bytes_string w src dst e _ 0 cap hs he hd]
   cases a <;> simp [Conv.bytesToString, loadCells]
   all_goals rfl
 · exact run_convert_bytes_arg w src e hs he b off len cap xs h1 (fun i hi => by rw [hc i hi]; simp [List.getD]) dst hd
theorem byte_inj {x y : Int} (hx : 0 ≤ x ∧ x ≤ 255) (hy : 0 ≤ y ∧ y ≤ 255) (h : UInt8.ofNat x.toNat = UInt8.ofNat y.toNat) : x = y := by
 have := congrArg UInt8.toNat h
 simp at this
 omega
theorem nums_inj : ∀ (xs ys : List Int), (∀ x ∈ xs, 0 ≤ x ∧ x ≤ 255) → (∀ x ∈ ys, 0 ≤ x ∧ x ≤ 255) → (xs.map fun n => UInt8.ofNat n.toNat) = (ys.map fun n => UInt8.ofNat n.toNat) → xs = ys
 | [], [], _, _, _ => rfl
 | [], _ :: _, _, _, h => by simp at h
 | _ :: _, [], _, _, h => by simp at h
 | x :: xs, y :: ys, hx, hy, h => by
   simp only [List.map_cons, List.cons.injEq] at h
   rw [byte_inj (hx x (by simp)) (hy y (by simp)) h.1, nums_inj xs ys (fun z hz => hx z (by simp [hz])) (fun z hz => hy z (by simp [hz])) h.2]
theorem str_inj {xs ys : List Int} (hx : ∀ x ∈ xs, 0 ≤ x ∧ x ≤ 255) (hy : ∀ x ∈ ys, 0 ≤ x ∧ x ≤ 255) : strOfNums xs = strOfNums ys ↔ xs = ys := by
 constructor
 · intro h
   refine nums_inj xs ys hx hy ?_
   rw [← strOfNums_data, ← strOfNums_data, h]
 · rintro rfl; rfl
theorem rd_bytes {w : World} {a : Option Addr} {len : Nat} {xs : List Int} (h : Rd .u8 w a len xs) : ∀ x ∈ xs, 0 ≤ x ∧ x ≤ 255 := fun x hx => bounds_u8 (h.2.1 x hx)
theorem ret_bool' {a b : Bool} (h : a = b) : Ending.returned (.bool a) = .returned (.bool b) := by rw [h]
set_option maxRecDepth 20000 in
set_option maxHeartbeats 2000000 in
theorem bsame_any (a b : Option Addr) (l c l' c' : Nat) (xs ys : List Int) (w : World) (hx : Rd .u8 w a l xs) (hy : Rd .u8 w b l' ys) :
   Calls Tryd.prog 26 #[.slice a l c, .slice b l' c'] w fun e w' => e = .returned (.bool (decide (xs = ys))) ∧ w = w' := by
 have k1 := conv_rd (P := Tryd.prog) hx c 39 5 9 Tryd.underlying39 Tryd.underlying5 Tryd.underlying9
 have k2 := conv_rd (P := Tryd.prog) hy c' 39 5 9 Tryd.underlying39 Tryd.underlying5 Tryd.underlying9
 have hi := str_inj (rd_bytes hx) (rd_bytes hy)
 have HI := zqd hi
 clear hi hx hy
 go_enter Tryd.func26, Tryd.ntmps26
 go_wp2_with fail
 go_ret
 refine ⟨ret_bool' ?_, rfl⟩
 have hi := HI.out
 rw [ByteArray.toList_eq, ByteArray.toList_eq, Bool.eq_iff_iff, beq_iff_eq, decide_eq_true_eq, ← hi]
 exact ⟨fun h => bytes_inj h, fun h => by rw [h]⟩
end Go.Proofs.YtlnkofpcidngoaaDoor
