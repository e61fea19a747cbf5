/- Layer 9 (compressor), the reference: Same of two that are equal. -/
import Derived.Test.YtlnkofpcidngoaaDoorA0
import Derived.Test.YtlnkofpcidngoaaDoorA31
import Derived.Test.YtlnkofpcidngoaaDoorA14
import Derived.Test.YtlnkofpcidngoaaDoorA27
import Derived.Deep.CutRange
namespace Go.Proofs.YtlnkofpcidngoaaDoor
open Go.ChangeShapes Go.WideShapes Go.ChangeAt Go.RowKit
theorem eqH_self (x : Hdr) : eqH x x = true := eqH_refl x
set_option maxRecDepth 100000 in
set_option maxHeartbeats 4000000 in
theorem same_yes (mode width : Int) (a b : Option Addr) (n c d : Nat) (L M : List Snd) (w : World) (hr : RdC w a n c L) (hs : RdC w b n d M) (hp : M.map plainS = L.map plainS) (hn : n ≤ 1000) (hm : ∀ s ∈ L, s.n ≤ 1000) :
  Calls Tryd.prog 18 #[CVal mode width a n c, CVal mode width b n d] w fun e w' => e = .returned (.bool true) ∧ Gr w w' := by
 have HR := zqd hr
 have HS := zqd hs
 have HP := zqd hp
 have HM := zqd hm
 clear hr hs hp hm
 go_enter Tryd.func18, Tryd.ntmps18
 go_upto_region 1 with (fail)
 obtain ⟨w1, hw1⟩ : ∃ y, y = (w.alloc (.cells #[.int .i64 mode, .int .i64 width, .slice a n c] 24)).alloc (.cells #[.int .i64 mode, .int .i64 width, .slice b n d] 24) := ⟨_, rfl⟩
 have HA1 := zqd (show CBlk w.heap.size 24 [.int .i64 mode, .int .i64 width, .slice a n c] w1 by rw [hw1]; exact (CBlk.new _ _ _).kept (Gr.alloc _ _))
 have HB1 := zqd (show CBlk (w.heap.size + 1) 24 [.int .i64 mode, .int .i64 width, .slice b n d] w1 by rw [hw1]; exact heap_two _ _ _)
 have HG1 := zqd (show Gr w w1 by rw [hw1]; exact (Gr.alloc _ _).trans (Gr.alloc _ _))
 first | rw [← hw1] | (go_show; fail)
 clear hw1
 have x0 := HA1.out.at 0 rfl
 have x1 := HA1.out.at 1 rfl
 have x2 := HA1.out.at 2 rfl
 have y0 := HB1.out.at 0 rfl
 have y1 := HB1.out.at 1 rfl
 have y2 := HB1.out.at 2 rfl
 have e1 : (mode != mode) = false := by simp
 have e2 : (width != width) = false := by simp
 have e3 : ((n : Int) != (n : Int)) = false := by simp
 go_wp2_with fail
 clear x0 x1 y0 y1 e1 e2 e3 x2 y2
 go_loopw [5] (fun i wr => ∃ j : Nat, j ≤ n ∧ i = .int .i64 j ∧ Gr w1 wr) (fun i _ => n - (intOf i).toNat)
 case atStart => exact ⟨0, by omega, rfl, Gr.refl _⟩
 case round =>
  obtain ⟨j, hj, rfl, hg⟩ := hrel
  have HG := zqd hg
  clear hg
  have x2 := (HA1.out.kept HG.out).at 2 rfl
  by_cases hlt : j < n
  rotate_left
  ·go_wp2_with fail
   go_ret
   exact ⟨rfl, HG1.out.trans HG.out⟩
  have x2 : ∀ u, Gr wr u → u.cell? ⟨w.heap.size, 2, none⟩ = some (.slice a n c) := fun u hu => (HA1.out.kept (HG.out.trans hu)).at 2 rfl
  have y2 : ∀ u, Gr wr u → u.cell? ⟨w.heap.size + 1, 2, none⟩ = some (.slice b n d) := fun u hu => (HB1.out.kept (HG.out.trans hu)).at 2 rfl
  obtain ⟨s, hs, hrs⟩ := HR.out.get hlt
  obtain ⟨t, ht, hrt⟩ := HS.out.get hlt
  obtain ⟨ba, oa, ea, -, hrowa⟩ := HR.out.row (by omega)
  obtain ⟨bb, ob, eb, hbb, hrowb⟩ := HS.out.row (by omega)
  have hst : plainS t = plainS s := by
   have h1 := congrArg (fun l => l[j]?) HP.out
   simp only [List.getElem?_map, hs, ht, Option.map_some] at h1
   injection h1
  have HSA := zqd (range_gr (hrowa j s hs) (HG1.out.trans HG.out))
  have HTB := zqd (range_gr (hrowb j t ht) (HG1.out.trans HG.out))
  have HRS0 := zqd hrs
  have HRT0 := zqd hrt
  have HSM := zqd (HM.out s (List.mem_of_getElem? hs))
  have HST := zqd hst
  have HEA := zqd ea
  have HEB := zqd eb
  rw [ea] at x2
  rw [eb] at y2
  clear hs ht hrs hrt hrowa hrowb hst ea eb
  have hbr : bb < wr.heap.size := by have := HG1.out.size; have := HG.out.size; omega
  have hbox := HB1.out.lt
  have hwrs := HG.out.size
  have HSK := zqd (fun u (hu : Gr wr u) => range_gr HSA.out hu)
  have HTK := zqd (fun u (hu : Gr wr u) => range_gr HTB.out hu)
  go_upto_region 6 with (fail)
  refine Sched2.wp_region_sched (fun u => u.cell? ⟨w.heap.size + 1, 2, none⟩ = some (.slice (some ⟨bb, ob, none⟩) n d) ∧ u.rangeAt bb (ob + j * 9) (SCells t)) [5, 6, 7, 8, 9] [10, 11] [12, 13] true (fun u hu => ⟨y2 u hu, HTK.out u hu⟩) (by kernel_rfl) (by kernel_rfl) ?_
  repeat (first | (refine Sched2.walk1_ord rfl ?_) | ((first | (refine Sched2.walk1_no rfl rfl rfl (fun K hK => ?_)) | (refine Sched2.walk1_gr rfl rfl rfl rfl (fun K hK => ?_); apply Exists.intro; refine ⟨fun w1 hw1 => ?_, ?_⟩; (focus (go_simp; (try go_ints); (try (simp only [IntWalk.iteOmega]; go_simp)); first | done | (with_reducible rfl) | (with_reducible exact ⟨rfl, rfl⟩)))) | (refine Sched2.walk1_late rfl rfl rfl rfl (fun K hK => ?_); apply Exists.intro; refine ⟨fun w1 hw1 => ?_, ?_⟩; (focus (go_simp; (try go_ints); (try (simp only [IntWalk.iteOmega]; go_simp)); first | done | (with_reducible rfl) | (with_reducible exact ⟨rfl, rfl⟩))))); simp only [Act.put, zqa, zqb, zqc]; refine hK _ ?_; clear hK K) | (refine Sched2.walk1_box rfl rfl rfl ?_; apply Exists.intro; refine ⟨fun w1 hw1 => ?_, ?_⟩; (focus (go_simp; exact ⟨Gr.alloc _ _, rfl, by simp, heap_alloc_new _ _⟩))))
  (with_reducible refine Sched2.walk1_gr ?_ ?_ ?_ ?_ (fun K hK => ?_)); (focus rfl); (focus rfl); (focus rfl); (focus rfl)
  refine ⟨SVal s, fun w1 hw1 => Sched2.gq_load_mid 46 _ rfl ba (oa + j * 9) rfl (SCells s) _ (HSK.out w1 hw1) (by first | exact Tryd.underlying46 | exact Tryd.underlying49) rfl (by kernel_rfl), ?_⟩
  simp only [Act.put, zqa, zqb, zqc]
  refine hK _ ?_
  clear hK K
  repeat (first | (refine Sched2.walk1_ord rfl ?_) | ((first | (refine Sched2.walk1_no rfl rfl rfl (fun K hK => ?_)) | (refine Sched2.walk1_gr rfl rfl rfl rfl (fun K hK => ?_); apply Exists.intro; refine ⟨fun w1 hw1 => ?_, ?_⟩; (focus (go_simp; (try go_ints); (try (simp only [IntWalk.iteOmega]; go_simp)); first | done | (exact hw1.1) | (with_reducible rfl) | (with_reducible exact ⟨rfl, rfl⟩)))) | (refine Sched2.walk1_late rfl rfl rfl rfl (fun K hK => ?_); apply Exists.intro; refine ⟨fun w1 hw1 => ?_, ?_⟩; (focus (go_simp; (try go_ints); (try (simp only [IntWalk.iteOmega]; go_simp)); first | done | (exact hw1.1) | (with_reducible rfl) | (with_reducible exact ⟨rfl, rfl⟩))))); simp only [Act.put, zqa, zqb, zqc]; refine hK _ ?_; clear hK K) | (refine Sched2.walk1_box rfl rfl rfl ?_; apply Exists.intro; refine ⟨fun w1 hw1 => ?_, ?_⟩; (focus (go_simp; exact ⟨Gr.alloc _ _, rfl, by simp, heap_alloc_new _ _⟩))))
  (with_reducible refine Sched2.walk1_late ?_ ?_ ?_ ?_ (fun K hK => ?_)); (focus rfl); (focus rfl); (focus rfl); (focus rfl)
  refine ⟨SVal t, fun w1 hw1 => Sched2.gq_load_mid 46 _ rfl bb (ob + j * 9) rfl (SCells t) _ ((fun _ h => h.2) w1 hw1) (by first | exact Tryd.underlying46 | exact Tryd.underlying49) rfl (by kernel_rfl), ?_⟩
  simp only [Act.put, zqa, zqb, zqc]
  refine hK _ ?_
  clear hK K
  repeat (first | (refine Sched2.walk1_ord rfl ?_) | ((first | (refine Sched2.walk1_no rfl rfl rfl (fun K hK => ?_)) | (refine Sched2.walk1_gr rfl rfl rfl rfl (fun K hK => ?_); apply Exists.intro; refine ⟨fun w1 hw1 => ?_, ?_⟩; (focus (go_simp; (try go_ints); (try (simp only [IntWalk.iteOmega]; go_simp)); first | done | (with_reducible rfl) | (with_reducible exact ⟨rfl, rfl⟩)))) | (refine Sched2.walk1_late rfl rfl rfl rfl (fun K hK => ?_); apply Exists.intro; refine ⟨fun w1 hw1 => ?_, ?_⟩; (focus (go_simp; (try go_ints); (try (simp only [IntWalk.iteOmega]; go_simp)); first | done | (with_reducible rfl) | (with_reducible exact ⟨rfl, rfl⟩))))); simp only [Act.put, zqa, zqb, zqc]; refine hK _ ?_; clear hK K) | (refine Sched2.walk1_box rfl rfl rfl ?_; apply Exists.intro; refine ⟨fun w1 hw1 => ?_, ?_⟩; (focus (go_simp; exact ⟨Gr.alloc _ _, rfl, by simp, heap_alloc_new _ _⟩))))
  refine Sched2.walk1_nil ?_
  intro wq hwq
  dsimp only [Sched.EndN, List.nil_append, List.cons_append, Act.put]
  rintro lo1 hi1 v1 ⟨rfl, hlt1, hblk1⟩ hlo1 hle1 hhi1 - lo2 hi2 v2 ⟨rfl, hlt2, hblk2⟩ hlo2 hle2 hhi2 hap
  simp only [zqa, zqb, zqc]
  simp only [Sched2.lasts, List.filterMap_cons, List.filterMap_nil, List.getElem?_toArray, List.getElem?_cons_succ, List.getElem?_cons_zero]
  have hne12 : lo1 ≠ lo2 := by have := hap (lo1, hi1) (by simp); simp only at this; omega
  have hbq := y2 wq hwq
  have hrq := HTK.out wq hwq
  have hgr := hwq
  clear hwq
  obtain ⟨hgr0, hgr⟩ : True ∧ Gr wr wq := ⟨trivial, hgr⟩
  refine Sched2.walk2_go rfl (fun K hK => ?_)
  refine cblk_tstore 46 _ _ rfl lo1 (SCells s) hblk1 rfl rfl rfl (by kernel_rfl) rfl ?_
  intro w5 hb5 he5
  have HBW := zqd (HB1.out.kept (HG.out.trans hgr))
  have hb6 : w5.cell? ⟨w.heap.size + 1, 2, none⟩ = some (.slice (some ⟨bb, ob, none⟩) n d) := by rw [← HEB.out, ← he5]; exact (HBW.out.puts 0 (SCells s) (by omega)).at 2 rfl
  have hr6 : w5.rangeAt bb (ob + j * 9) (SCells t) := by rw [← he5]; exact World.rangeAt_setCells_apart hrq lo1 0 (SCells s) (.inl (by omega))
  have HT5 := zqd (show CBlk lo2 46 _ w5 by rw [← he5]; exact CBlk.puts (cs := [_, _, _, _, _, _, _, _, _]) hblk2 0 (SCells s) (by omega))
  simp only [Act.put]
  refine hK _ _ (.inr ⟨hb6, hr6⟩) ?_
  clear hK K
  refine Sched2.walk2_go rfl (fun K hK => ?_)
  refine cblk_tstore 46 _ _ rfl lo2 (SCells t) HT5.out rfl rfl rfl (by kernel_rfl) rfl ?_
  intro w6 hb7 he7
  simp only [Act.put]
  refine hK _ _ (.inl ⟨rfl, rfl⟩) ?_
  clear hK K
  refine Sched2.walk2_nil ?_
  have HS6 := zqd (show CBlk lo1 46 (SCells s) w6 by rw [← he7]; exact hb5.puts 0 (SCells t) hne12)
  have HT6 := zqd hb7
  have HG6 := zqd (show Gr w w6 by rw [← he7, ← he5]; exact gr_setCells (gr_setCells ((HG1.out.trans HG.out).trans hgr) (by omega) _ _) (by omega) _ _)
  have HGW6 := zqd (show Gr w1 w6 by rw [← he7, ← he5]; exact gr_setCells (gr_setCells (HG.out.trans hgr) (by omega) _ _) (by omega) _ _)
  have HRS6 := zqd (show RdH w6 s.a s.n s.c s.refs from HRS0.out.kept HG6.out)
  have HRT6 := zqd (show RdH w6 t.a t.n t.c t.refs from HRT0.out.kept HG6.out)
  clear hb6 hr6 hb5 he5 hb7 he7 hblk1 hblk2 HT5 HBW hbq hrq hgr hlt1 hlt2 hlo1 hle1 hhi1 hlo2 hle2 hhi2 hap x2 y2 HSK HTK HSA HTB hbr hbox hwrs
  have t0 : t.act = s.act := (congrArg Snd.act HST.out : (plainS t).act = (plainS s).act)
  have t1 : t.full = s.full := (congrArg Snd.full HST.out : (plainS t).full = (plainS s).full)
  have t2 : t.refr = s.refr := (congrArg Snd.refr HST.out : (plainS t).refr = (plainS s).refr)
  have t3 : t.ser = s.ser := (congrArg Snd.ser HST.out : (plainS t).ser = (plainS s).ser)
  have t4 : t.since = s.since := (congrArg Snd.since HST.out : (plainS t).since = (plainS s).since)
  have t5 : t.long = s.long := (congrArg Snd.long HST.out : (plainS t).long = (plainS s).long)
  have t6 : t.str = s.str := (congrArg Snd.str HST.out : (plainS t).str = (plainS s).str)
  have t7 : t.fol = s.fol := (congrArg Snd.fol HST.out : (plainS t).fol = (plainS s).fol)
  have t8 : t.refs = s.refs := (congrArg Snd.refs HST.out : (plainS t).refs = (plainS s).refs)
  have tn : t.n = s.n := by rw [← HRT6.out.1, ← HRS6.out.1, t8]
  have HT8 := zqd t8
  have HTN := zqd tn
  have x0 : w6.cell? ⟨lo1, 0, none⟩ = some (.bool s.act) := HS6.out.at 0 rfl
  have x1 : w6.cell? ⟨lo1, 1, none⟩ = some (.int .i64 s.full) := HS6.out.at 1 rfl
  have x2 : w6.cell? ⟨lo1, 2, none⟩ = some (.int .i64 s.refr) := HS6.out.at 2 rfl
  have x3 : w6.cell? ⟨lo1, 3, none⟩ = some (.int .i64 s.ser) := HS6.out.at 3 rfl
  have x4 : w6.cell? ⟨lo1, 4, none⟩ = some (.int .i64 s.since) := HS6.out.at 4 rfl
  have x5 : w6.cell? ⟨lo1, 5, none⟩ = some (.int .i64 s.long) := HS6.out.at 5 rfl
  have x8 : w6.cell? ⟨lo1, 8, none⟩ = some (.slice s.a s.n s.c) := HS6.out.at 8 rfl
  have y0 : w6.cell? ⟨lo2, 0, none⟩ = some (.bool s.act) := by rw [← t0]; exact HT6.out.at 0 rfl
  have y1 : w6.cell? ⟨lo2, 1, none⟩ = some (.int .i64 s.full) := by rw [← t1]; exact HT6.out.at 1 rfl
  have y2 : w6.cell? ⟨lo2, 2, none⟩ = some (.int .i64 s.refr) := by rw [← t2]; exact HT6.out.at 2 rfl
  have y3 : w6.cell? ⟨lo2, 3, none⟩ = some (.int .i64 s.ser) := by rw [← t3]; exact HT6.out.at 3 rfl
  have y4 : w6.cell? ⟨lo2, 4, none⟩ = some (.int .i64 s.since) := by rw [← t4]; exact HT6.out.at 4 rfl
  have y5 : w6.cell? ⟨lo2, 5, none⟩ = some (.int .i64 s.long) := by rw [← t5]; exact HT6.out.at 5 rfl
  have y8 : w6.cell? ⟨lo2, 8, none⟩ = some (.slice t.a s.n t.c) := by rw [← tn]; exact HT6.out.at 8 rfl
  have HD1 := zqd (snd_dyn HS6.out)
  have HD2 := zqd (show w6.rangeAt lo2 6 [.int .i64 s.str, .int .i64 s.fol] by rw [← t6, ← t7]; exact snd_dyn HT6.out)
  have hneq : ∀ u, (binOp .neq 43 (DVal s.str s.fol) (DVal s.str s.fol)).run Tryd.prog u = .ok (.bool false) u := fun u => by rw [run_neqD]; simp
  have e0 : (s.act != s.act) = false := by simp
  have e1 : (s.full != s.full) = false := by simp
  have e2 : (s.refr != s.refr) = false := by simp
  have e3 : (s.ser != s.ser) = false := by simp
  have e4 : (s.since != s.since) = false := by simp
  have e5 : (s.long != s.long) = false := by simp
  have e8 : ((s.n : Int) != (s.n : Int)) = false := by simp
  have hsm := HSM.out
  clear t0 t1 t2 t3 t4 t5 t6 t7 t8 tn
  go_wp2_with (first | (refine rng_load rfl 43 _ rfl lo1 6 rfl [.int .i64 s.str, .int .i64 s.fol] HD1.out Tryd.underlying43 rfl (by kernel_rfl) ?_) | (refine rng_load rfl 43 _ rfl lo2 6 rfl [.int .i64 s.str, .int .i64 s.fol] HD2.out Tryd.underlying43 rfl (by kernel_rfl) ?_))
  clear x0 x1 x2 x3 x4 x5 x8 y0 y1 y2 y3 y4 y5 y8 e0 e1 e2 e3 e4 e5 e8 hneq HD1 HD2
  have HGO := zqd HG.out
  go_loopw [8] (fun i wr => ∃ k : Nat, k ≤ s.n ∧ i = .int .i64 k ∧ Gr w6 wr) (fun i _ => s.n - (intOf i).toNat)
  case atStart => exact ⟨0, by omega, rfl, Gr.refl _⟩
  case round =>
   obtain ⟨k, hk, rfl, hg⟩ := hrel
   have HGI := zqd hg
   clear hg
   have x8 : ∀ u, Gr wr u → u.cell? ⟨lo1, 8, none⟩ = some (.slice s.a s.n s.c) := fun u hu => (HS6.out.kept (HGI.out.trans hu)).at 8 rfl
   have y8 : ∀ u, Gr wr u → u.cell? ⟨lo2, 8, none⟩ = some (.slice t.a s.n t.c) := fun u hu => by rw [← HTN.out]; exact (HT6.out.kept (HGI.out.trans hu)).at 8 rfl
   by_cases hlk : k < s.n
   ·obtain ⟨x, hx, -⟩ := HRS6.out.get hlk
    obtain ⟨b1, o1, f1, -, r1⟩ := HRS6.out.row (by omega)
    obtain ⟨b2, o2, f2, -, r2⟩ := HRT6.out.row (by rw [HTN.out]; omega)
    have k1 := r1 k x hx
    have k2 := r2 k x (by rw [HT8.out]; exact hx)
    have HK1 := zqd (fun u (hu : Gr wr u) => range_gr k1 (HGI.out.trans hu))
    have HK2 := zqd (fun u (hu : Gr wr u) => range_gr k2 (HGI.out.trans hu))
    have hneq : ∀ u, (binOp .neq 49 (HVal x) (HVal x)).run Tryd.prog u = .ok (.bool false) u := fun u => by rw [run_neqH, eqH_self]; rfl
    rw [f1] at x8
    rw [f2] at y8
    clear r1 r2 k1 k2 hx f1 f2
    have x8w := x8 _ (Gr.refl _)
    go_upto_region 12 with (fail)
    clear x8w
    refine Sched.wp_region_sched 10 [] [] (by kernel_rfl) (by kernel_rfl) ?_
    simp only [List.take_succ_cons, List.take_zero, List.drop_succ_cons, List.drop_zero]
    repeat (first | ((first | (refine Sched.walk1_no rfl rfl (fun K hK => ?_)) | (refine Sched.walk1_gr rfl rfl rfl (fun K hK => ?_); apply Exists.intro; refine ⟨fun w1 hw1 => ?_, ?_⟩; (focus (go_simp; (try go_ints); (try (simp only [IntWalk.iteOmega]; go_simp)); first | done | (with_reducible rfl) | (with_reducible exact ⟨rfl, rfl⟩))))); simp only [Act.put, zqa, zqb, zqc]; refine hK _ ?_; clear hK K))
    refine Sched.walk1_gr rfl rfl rfl (fun K hK => ?_)
    refine ⟨HVal x, fun w1 hw1 => rng_gq (HK1.out w1 hw1) 49 _ rfl rfl Tryd.underlying49 rfl (by kernel_rfl), ?_⟩
    simp only [Act.put, zqa, zqb, zqc]
    refine hK _ ?_
    clear hK K
    repeat (first | ((first | (refine Sched.walk1_no rfl rfl (fun K hK => ?_)) | (refine Sched.walk1_gr rfl rfl rfl (fun K hK => ?_); apply Exists.intro; refine ⟨fun w1 hw1 => ?_, ?_⟩; (focus (go_simp; (try go_ints); (try (simp only [IntWalk.iteOmega]; go_simp)); first | done | (with_reducible rfl) | (with_reducible exact ⟨rfl, rfl⟩))))); simp only [Act.put, zqa, zqb, zqc]; refine hK _ ?_; clear hK K))
    refine Sched.walk1_gr rfl rfl rfl (fun K hK => ?_)
    refine ⟨HVal x, fun w1 hw1 => rng_gq (HK2.out w1 hw1) 49 _ rfl rfl Tryd.underlying49 rfl (by kernel_rfl), ?_⟩
    simp only [Act.put, zqa, zqb, zqc]
    refine hK _ ?_
    clear hK K
    repeat (first | ((first | (refine Sched.walk1_no rfl rfl (fun K hK => ?_)) | (refine Sched.walk1_gr rfl rfl rfl (fun K hK => ?_); apply Exists.intro; refine ⟨fun w1 hw1 => ?_, ?_⟩; (focus (go_simp; (try go_ints); (try (simp only [IntWalk.iteOmega]; go_simp)); first | done | (with_reducible rfl) | (with_reducible exact ⟨rfl, rfl⟩))))); simp only [Act.put, zqa, zqb, zqc]; refine hK _ ?_; clear hK K))
    refine Sched.walk1_nil ?_
    intro wq hwq
    repeat (first | (refine Sched.walk2_no rfl (fun K hK => ?_); simp only [Act.put, zqa, zqb, zqc]; refine hK _ ?_; clear hK K) | (refine Sched.walk2_go rfl (fun K hK => ?_); go_simp; (try go_ints); (try (simp only [IntWalk.iteOmega]; go_simp)); (refine hK _ _ ?_; clear hK K)))
    refine Sched.walk2_nil ?_
    have HGQ := zqd (HGI.out.trans hwq)
    clear x8 y8 hwq hneq HK1 HK2
    go_wp2_with fail
    go_roundw
    case rel => exact ⟨k + 1, by omega, by go_num, HGQ.out⟩
    case measure => (simp [intOf] <;> omega)
   ·obtain rfl : k = s.n := by omega
    have x8 := x8 _ (Gr.refl _)
    clear y8
    go_wp2_with fail
    go_roundw
    case rel => exact ⟨j + 1, by omega, by go_num, HGW6.out.trans HGI.out⟩
    case measure => (simp [intOf] <;> omega)
end Go.Proofs.YtlnkofpcidngoaaDoor