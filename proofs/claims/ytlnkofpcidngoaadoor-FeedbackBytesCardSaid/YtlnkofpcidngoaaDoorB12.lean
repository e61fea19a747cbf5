/- Several texts in one. -/
import Derived.Test.YtlnkofpcidngoaaDoorB0
import Derived.Test.YtlnkofpcidngoaaDoorB11
import Derived.Test.YtlnkofpcidngoaaDoorB1
import Derived.Test.YtlnkofpcidngoaaDoorB5
namespace Go.Proofs.YtlnkofpcidngoaaDoor
open Go.ChangeShapes Go.WideShapes Go.ChangeAt Go.RowKit
theorem Sched2.walk2_app {P : Program} {ops : Array Oper} {I : World → Prop} {tight : Bool} {Q : Act → World → Prop} {o : Oper} {r : List Oper} {a : Act} {w : World} (hw : Region.wanted o (yielded ops a.tmps) = true) (s x : Operand) (t : TypeId)
   (ho : o.op = .call { callee := .builtin .append, args := #[s, x], argTypes := #[t, t] }) {vs vx v' : Value} {w' : World} (hs : a.eval s = vs) (hx : a.eval x = vx)
   (hrun : (Builtin.append_ #[t, t] o.type #[vs, vx]).run P w = .ok v' w') (hI : (tight = true ∧ r = []) ∨ I w') (h : Sched2.Walk2 P ops I tight Q r (a.put o.dst v') w') : Sched2.Walk2 P ops I tight Q (o :: r) a w := by
 refine Sched2.walk2_go hw fun K hK => ?_
 unfold Sched.tq execOp
 simp only [ho, resolve, invoke, builtin, Sem.run_bind, Sem.run_pure, Result.andThen_ok, List.map_toArray, List.map_cons, List.map_nil, hs, hx, hrun]
 exact hK _ _ hI h
theorem OwnI.weak {B B' : Nat} {e : TypeId} {k : IntKind} {w : World} {a : Option Addr} {n cap : Nat} {xs : List Int} (h : OwnI B e k w a n cap xs) (hB : B' ≤ B) : OwnI B' e k w a n cap xs := by
 refine ⟨⟨h.row.1, ?_⟩, h.wf⟩
 rcases h.row.2 with ⟨hv, h0⟩ | ⟨g, cap', cur, hv, hb, hr⟩
 · exact .inl ⟨hv, h0⟩
 · exact .inr ⟨g, cap', cur, hv, by omega, hr⟩
def RowI (w0 : World) (h : Hdr) (a : Option Addr) (n cap : Nat) (xs : List Int) (wn : World) : Prop :=
 HBlk w0.heap.size h wn ∧ OwnI (w0.heap.size + 1) 5 .u8 wn a n cap xs ∧ Gr w0 wn
theorem RowI.turn {w0 wn w' : World} {h : Hdr} {a a' : Option Addr} {n n' cap cap' : Nat} {xs ys : List Int} (hI : RowI w0 h a n cap xs wn) (ho : OwnI (w0.heap.size + 1) 5 .u8 w' a' n' cap' ys) (hg : wn.grownBy w' (Value.slice a n cap).ownBlock) : RowI w0 h a' n' cap' ys w' := by
 obtain ⟨h1, h2, h3⟩ := hI
 refine ⟨?_, ho, grown_own h3 h2 (by omega) hg⟩
 unfold HBlk at h1 ⊢
 rw [hg.block _ (heap_lt h1) ?_]
 · exact h1
 · intro e
   have := (h2.below _ e.symm).1
   omega
theorem RowI.gr {w0 wn w' : World} {h : Hdr} {a : Option Addr} {n cap : Nat} {xs : List Int} (hI : RowI w0 h a n cap xs wn) (hg : Gr wn w') : RowI w0 h a n cap xs w' :=
 ⟨hI.1.kept hg, hI.2.1.stay hg, hI.2.2.trans hg⟩
theorem RowI.le {w0 wn : World} {h : Hdr} {a : Option Addr} {n cap : Nat} {xs : List Int} (hI : RowI w0 h a n cap xs wn) : w0.heap.size + 1 ≤ wn.heap.size := heap_lt hI.1
theorem RowI.put {w0 wn : World} {h : Hdr} {a : Option Addr} {n cap : Nat} {xs : List Int} (hI : RowI w0 h a n cap xs wn) (K : Int) (k N : Nat) (x : Int) (hK : K = k) (hN : N = n + k) (hn : n ≤ 2000) (hk : k ≤ 7) :
   Calls Tryd.prog 51 #[.slice a n cap, .int .i64 K, .int .i64 x] wn fun e w' => ∃ a' cap', e = .returned (.slice a' N cap') ∧ RowI w0 h a' N cap' (xs ++ putR x k) w' := by
 refine (put_any _ a n cap xs K k x wn hK hI.2.1 (by omega) hk hI.le).mono ?_
 rintro e w' ⟨a', cap', n', e1, e2, ho, hg, _⟩
 subst hN
 subst e1
 exact ⟨a', cap', e2, hI.turn ho hg⟩
theorem own_lit (B : Nat) (w : World) (xs : List Int) (n : Nat) (hB : B ≤ w.heap.size) (hn : xs.length = n) (hm : n ≤ 100) (hb : bytesOk xs) : OwnI B 5 .u8 (w.alloc (.cells (xs.map (Value.int .u8)).toArray 5)) (some ⟨w.heap.size, 0, none⟩) n n xs := by
 refine ⟨?_, fun y hy => WalkArith.wf_u8 (hb y hy)⟩
 subst hn
 have h := World.ownsRow_lit (base := B) (e := 5) (size := 1) w (xs.map (Value.int .u8)).toArray xs.length hB (by simp only [maxLen]; omega) (by simp)
 exact h
theorem RowI.app {w0 wn : World} {h : Hdr} {a : Option Addr} {n cap : Nat} {xs : List Int} (hI : RowI w0 h a n cap xs wn) (b : Option Addr) (m c : Nat) (ys : List Int) (N : Nat) (hN : N = n + m) (hr : Rd .u8 wn b m ys) (hn : n ≤ 2000) (hm : m ≤ 2000) :
   ∃ a' cap' w', (Builtin.append_ #[39, 39] 39 #[.slice a n cap, .slice b m c]).run Tryd.prog wn = .ok (.slice a' N cap') w' ∧ RowI w0 h a' N cap' (xs ++ ys) w' := by
 subst hN
 obtain ⟨a', cap', w', h1, h2, h3, _⟩ := app_u8 _ wn a n cap xs hI.2.1 b m c ys hr (by omega) hI.le
 exact ⟨a', cap', w', h1, hI.turn h2 h3⟩
def rl1 (h : Hdr) : List Int := [69, h.tos, 0, 0] ++ putR h.id 2
def rl2 (h : Hdr) : List Int := rl1 h ++ [64 * h.fixed, 0, h.ttl, 17, 0, 0]
def rl3 (h : Hdr) : List Int := rl2 h ++ putR h.frm 4 ++ putR h.to 4 ++ putR h.fport 2 ++ putR h.tport 2 ++ [0, 0] ++ putR h.check 2
def rl4 (h : Hdr) : List Int := rl3 h ++ [128, 128 * h.marker + h.type] ++ putR h.seq 2 ++ putR h.time 4 ++ putR h.source 4
theorem rl3_head {h : Hdr} (hk : h.kind = 1) : rl3 h = headL h := by
 simp only [rl3, rl2, rl1, headL, if_neg (show ¬ h.kind = 2 by omega), List.append_assoc, List.append_nil]
theorem rl4_head {h : Hdr} (hk : h.kind = 2) : rl4 h = headL h := by
 simp only [rl4, rl3, rl2, rl1, headL, if_pos hk, List.append_assoc]
set_option maxRecDepth 100000 in
set_option maxHeartbeats 4000000 in
theorem rhead_yes (h : Hdr) (w : World) (hv : validH h = true) : Calls Tryd.prog 82 #[HVal h] w fun e w' => ∃ a n cap, e = .returned (.slice a n cap) ∧ n = (headL h).length ∧ OwnI w.heap.size 5 .u8 w' a n cap (headL h) ∧ Gr w w' := by
 have HV := zqd hv
 obtain ⟨hk, ⟨t1, t2⟩, ⟨l1, l2⟩, _, _, _, _, ⟨x1, x2⟩, _, _, hk1, hk2⟩ := valid_all hv
 have HK1 := zqd hk1
 have HK2 := zqd hk2
 have HK := zqd hk
 clear hv hk1 hk2 hk
 go_enter Tryd.func82, Tryd.ntmps82
 go_upto_region 1 with (fail)
 obtain ⟨w1, hw1⟩ : ∃ y, y = w.alloc (.cells (HCells h).toArray 49) := ⟨_, rfl⟩
 have hb1 : HBlk w.heap.size h w1 := by rw [hw1]; exact heap_alloc_new _ _
 have hg1 : Gr w w1 := by rw [hw1]; exact Gr.alloc _ _
 have hz1 : w.heap.size < w1.heap.size := heap_lt hb1
 simp only [HCells] at hw1
 rw [← hw1]
 have hb1' := hb1
 unfold HBlk at hb1'
 have HB1 := zqd hb1
 have HB1' := zqd hb1'
 have HG1 := zqd hg1
 clear hw1 hb1 hb1' hg1
 go_wp2_with (first | (refine wpList_load_row rfl 49 _ rfl w.heap.size rfl 49 _ _ _ HB1'.out Tryd.underlying49 rfl (by kernel_rfl) ?_))
 refine (rvalid_is HV.out w1).mono ?_
 rintro e w2 ⟨rfl, hg2⟩
 have hs2 : w.heap.size + 1 ≤ w2.heap.size := by have := hg2.size; omega
 have hb2 := HB1.out.kept hg2
 have c1 := hb2.at 1 rfl
 have H3 : HBlk w.heap.size h w2 ∧ Gr w w2 := ⟨hb2, HG1.out.trans hg2⟩
 have H2 := zqd H3
 clear hg2 HB1 HB1' HG1 H3 hb2 hz1
 go_upto_region 4 with (fail)
 obtain ⟨w3, hw3⟩ : ∃ y, y = w2.alloc (.cells ([69, h.tos, 0, 0].map (Value.int .u8)).toArray 5) := ⟨_, rfl⟩
 have hbs : bytesOk [69, h.tos, 0, 0] := by
   intro y hy
   simp only [List.mem_cons, List.not_mem_nil, or_false] at hy
   rcases hy with rfl | rfl | rfl | rfl <;> omega
 have H3 := zqd (show RowI w h (some ⟨w2.heap.size, 0, none⟩) 4 4 [69, h.tos, 0, 0] w3 by
   have hal : Gr w2 w3 := by rw [hw3]; exact Gr.alloc _ _
   exact ⟨H2.out.1.kept hal, by rw [hw3]; exact own_lit _ w2 [69, h.tos, 0, 0] 4 hs2 rfl (by omega) hbs, H2.out.2.trans hal⟩)
 simp only [List.map_cons, List.map_nil] at hw3
 first | rw [← hw3] | (go_show; fail)
 clear hw3 hbs c1 hs2 H2
 have c2 := H3.out.1.at 2 rfl
 go_wp2_with fail
 refine (H3.out.put 2 2 6 _ rfl rfl (by omega) (by omega)).mono ?_
 rintro e w4 ⟨a4, cap4, rfl, hr4⟩
 have H4 := zqd (show RowI w h a4 6 cap4 (rl1 h) w4 from hr4)
 clear hr4 c2 H3
 have c3 := H4.out.1.at 3 rfl
 have c4 := H4.out.1.at 4 rfl
 have hrd := rd_new (k := .u8) (w := w4) [64 * h.fixed, 0, h.ttl, 17, 0, 0] 5 (0, 0) 6 rfl (by simp [maxLen]) (by
   intro z hz
   simp only [List.mem_cons, List.not_mem_nil, or_false] at hz
   rcases hz with rfl | rfl | rfl | rfl | rfl | rfl <;> exact WalkArith.wf_u8 (by omega))
 obtain ⟨a5, cap5, w5, hrun, hr5⟩ := (H4.out.gr (Gr.alloc w4 (.cells ([64 * h.fixed, 0, h.ttl, 17, 0, 0].map (Value.int .u8)).toArray 5))).app _ 6 6 _ 12 rfl hrd (by omega) (by omega)
 simp only [List.map_cons, List.map_nil] at hrun
 have HR := zqd hrun
 have H5 := zqd (show RowI w h a5 12 cap5 (rl2 h) w5 from hr5)
 clear hrun hrd hr5
 go_upto_region 6 with (at_builtin; refine wpList_app rfl _ _ _ rfl rfl rfl HR.out ?_)
 clear HR c3 c4 H4
 have hI : ∀ u, Gr w5 u → u.cell? ⟨w.heap.size, 6, none⟩ = some (.int .i64 h.to) := fun u hu => ((H5).out.gr hu).1.at 6 rfl
 have hI1 : ∀ u, Gr w5 u → u.cell? ⟨w.heap.size, 5, none⟩ = some (.int .i64 h.frm) := fun u hu => ((H5).out.gr hu).1.at 5 rfl
 go_upto_region 6 with (fail)
 refine Sched2.wp_region_sched (fun u => u.cell? ⟨w.heap.size, 6, none⟩ = some (.int .i64 h.to)) [4, 5] [] [3, 6, 7] true hI (by kernel_rfl) (by kernel_rfl) ?_
 repeat (first | (refine Sched2.walk1_ord rfl ?_) | (refine Sched2.walk1_no rfl rfl rfl (fun K hK => ?_); simp only [Act.put, zqa, zqb, zqc]; refine hK _ ?_; clear hK K) | (refine Sched2.walk1_gr rfl rfl rfl rfl (fun K hK => ?_); apply Exists.intro; refine ⟨fun w1 hw1 => ?_, ?_⟩; (focus (go_simp; (try go_ints); (try (simp only [IntWalk.iteOmega]; go_simp)); first | done | fail | (with_reducible rfl) | (with_reducible exact ⟨rfl, rfl⟩))); simp only [Act.put, zqa, zqb, zqc]; refine hK _ ?_; clear hK K) | (refine Sched2.walk1_late rfl rfl rfl rfl (fun K hK => ?_); apply Exists.intro; refine ⟨fun w1 hw1 => ?_, ?_⟩; (focus (go_simp; (try go_ints); (try (simp only [IntWalk.iteOmega]; go_simp)); first | done | fail | (with_reducible rfl) | (with_reducible exact ⟨rfl, rfl⟩))); simp only [Act.put, zqa, zqb, zqc]; refine hK _ ?_; clear hK K) | (refine Sched2.walk1_box rfl rfl rfl ?_; apply Exists.intro; refine ⟨fun w1 hw1 => ?_, ?_⟩; (focus (go_simp; exact ⟨Gr.alloc _ _, rfl, by simp, heap_alloc_new _ _⟩))))
 refine Sched2.walk1_nil ?_
 intro wq hwq
 have HQ := zqd ((H5).out.gr hwq)
 clear hwq hI hI1
 dsimp only [Sched.EndN, List.nil_append, List.cons_append, Act.put]
 (try simp only [zqa, zqb, zqc])
 simp only [Sched2.lasts, List.filterMap_cons, List.filterMap_nil, List.getElem?_toArray, List.getElem?_cons_succ, List.getElem?_cons_zero]
 repeat (first | (refine Sched2.walk2_no rfl (fun K hK => ?_); simp only [Act.put, zqa, zqb, zqc]; refine hK _ ?_; clear hK K) | (refine Sched2.walk2_go rfl (fun K hK => ?_); go_simp; (try go_ints); (try (simp only [IntWalk.iteOmega]; go_simp)); first | (refine hK _ _ (by first | exact .inl ⟨rfl, rfl⟩ | exact .inr ((by assumption))) ?_; clear hK K) | (go_at_call 51; ((with_reducible refine (HQ.out.put 4 4 16 _ rfl rfl (by omega) (by omega)).mono ?_)); rintro e wm ⟨am, cm, rfl, hrm⟩; have HM := zqd hrm; have him := hrm.1.at 6 rfl; clear hrm; refine ⟨_, rfl, ?_⟩; refine hK _ _ (.inr him) ?_; clear hK K) | (go_at_call 51; ((with_reducible refine (HM.out.put 4 4 20 _ rfl rfl (by omega) (by omega)).mono ?_)); rintro e w6 ⟨a6, cap6, rfl, hrm2⟩; have H6 := zqd hrm2; have him2 := hrm2.1.at 6 rfl; clear hrm2 him; refine ⟨_, rfl, ?_⟩; refine hK _ _ (.inr him2) ?_; clear hK K him2)))
 refine Sched2.walk2_nil ?_
 clear H5 HQ HM
 have hI : ∀ u, Gr w6 u → u.cell? ⟨w.heap.size, 8, none⟩ = some (.int .i64 h.tport) := fun u hu => ((H6).out.gr hu).1.at 8 rfl
 have hI1 : ∀ u, Gr w6 u → u.cell? ⟨w.heap.size, 7, none⟩ = some (.int .i64 h.fport) := fun u hu => ((H6).out.gr hu).1.at 7 rfl
 go_upto_region 7 with (fail)
 refine Sched2.wp_region_sched (fun u => u.cell? ⟨w.heap.size, 8, none⟩ = some (.int .i64 h.tport)) [4, 5] [] [3, 6, 7] true hI (by kernel_rfl) (by kernel_rfl) ?_
 repeat (first | (refine Sched2.walk1_ord rfl ?_) | (refine Sched2.walk1_no rfl rfl rfl (fun K hK => ?_); simp only [Act.put, zqa, zqb, zqc]; refine hK _ ?_; clear hK K) | (refine Sched2.walk1_gr rfl rfl rfl rfl (fun K hK => ?_); apply Exists.intro; refine ⟨fun w1 hw1 => ?_, ?_⟩; (focus (go_simp; (try go_ints); (try (simp only [IntWalk.iteOmega]; go_simp)); first | done | fail | (with_reducible rfl) | (with_reducible exact ⟨rfl, rfl⟩))); simp only [Act.put, zqa, zqb, zqc]; refine hK _ ?_; clear hK K) | (refine Sched2.walk1_late rfl rfl rfl rfl (fun K hK => ?_); apply Exists.intro; refine ⟨fun w1 hw1 => ?_, ?_⟩; (focus (go_simp; (try go_ints); (try (simp only [IntWalk.iteOmega]; go_simp)); first | done | fail | (with_reducible rfl) | (with_reducible exact ⟨rfl, rfl⟩))); simp only [Act.put, zqa, zqb, zqc]; refine hK _ ?_; clear hK K) | (refine Sched2.walk1_box rfl rfl rfl ?_; apply Exists.intro; refine ⟨fun w1 hw1 => ?_, ?_⟩; (focus (go_simp; exact ⟨Gr.alloc _ _, rfl, by simp, heap_alloc_new _ _⟩))))
 refine Sched2.walk1_nil ?_
 intro wq hwq
 have HQ := zqd ((H6).out.gr hwq)
 clear hwq hI hI1
 dsimp only [Sched.EndN, List.nil_append, List.cons_append, Act.put]
 (try simp only [zqa, zqb, zqc])
 simp only [Sched2.lasts, List.filterMap_cons, List.filterMap_nil, List.getElem?_toArray, List.getElem?_cons_succ, List.getElem?_cons_zero]
 repeat (first | (refine Sched2.walk2_no rfl (fun K hK => ?_); simp only [Act.put, zqa, zqb, zqc]; refine hK _ ?_; clear hK K) | (refine Sched2.walk2_go rfl (fun K hK => ?_); go_simp; (try go_ints); (try (simp only [IntWalk.iteOmega]; go_simp)); first | (refine hK _ _ (by first | exact .inl ⟨rfl, rfl⟩ | exact .inr ((by assumption))) ?_; clear hK K) | (go_at_call 51; ((with_reducible refine (HQ.out.put 2 2 22 _ rfl rfl (by omega) (by omega)).mono ?_)); rintro e wm ⟨am, cm, rfl, hrm⟩; have HM := zqd hrm; have him := hrm.1.at 8 rfl; clear hrm; refine ⟨_, rfl, ?_⟩; refine hK _ _ (.inr him) ?_; clear hK K) | (go_at_call 51; ((with_reducible refine (HM.out.put 2 2 24 _ rfl rfl (by omega) (by omega)).mono ?_)); rintro e w7 ⟨a7, cap7, rfl, hrm2⟩; have H7 := zqd hrm2; have him2 := hrm2.1.at 8 rfl; clear hrm2 him; refine ⟨_, rfl, ?_⟩; refine hK _ _ (.inr him2) ?_; clear hK K him2)))
 refine Sched2.walk2_nil ?_
 clear H6 HQ HM
 have hI : ∀ u, Gr w7 u → u.cell? ⟨w.heap.size, 9, none⟩ = some (.int .i64 h.check) := fun u hu => (H7.out.gr hu).1.at 9 rfl
 go_upto_region 8 with (fail)
 refine Sched2.wp_region_sched (fun u => u.cell? ⟨w.heap.size, 9, none⟩ = some (.int .i64 h.check)) [3, 4] [1] [2, 5, 6] true hI (by kernel_rfl) (by kernel_rfl) ?_
 repeat (first | (refine Sched2.walk1_ord rfl ?_) | (refine Sched2.walk1_no rfl rfl rfl (fun K hK => ?_); simp only [Act.put, zqa, zqb, zqc]; refine hK _ ?_; clear hK K) | (refine Sched2.walk1_gr rfl rfl rfl rfl (fun K hK => ?_); apply Exists.intro; refine ⟨fun w1 hw1 => ?_, ?_⟩; (focus (go_simp; (try go_ints); (try (simp only [IntWalk.iteOmega]; go_simp)); first | done | fail | (with_reducible rfl) | (with_reducible exact ⟨rfl, rfl⟩))); simp only [Act.put, zqa, zqb, zqc]; refine hK _ ?_; clear hK K) | (refine Sched2.walk1_late rfl rfl rfl rfl (fun K hK => ?_); apply Exists.intro; refine ⟨fun w1 hw1 => ?_, ?_⟩; (focus (go_simp; (try go_ints); (try (simp only [IntWalk.iteOmega]; go_simp)); first | done | fail | (with_reducible rfl) | (with_reducible exact ⟨rfl, rfl⟩))); simp only [Act.put, zqa, zqb, zqc]; refine hK _ ?_; clear hK K) | (refine Sched2.walk1_box rfl rfl rfl ?_; apply Exists.intro; refine ⟨fun w1 hw1 => ?_, ?_⟩; (focus (go_simp; exact ⟨Gr.alloc _ _, rfl, by simp, heap_alloc_new _ _⟩))))
 refine Sched2.walk1_new (NRow1 (fun lo => .slice (some ⟨lo, 0, none⟩) 2 2) (.cells #[.int .u8 0, .int .u8 0] 5)) rfl rfl rfl (NRow1.stable _ _) (fun u hu => ?_) ?_
 · go_simp
   exact ⟨Gr.alloc _ _, rfl, by simp, heap_alloc_new _ _⟩
 repeat (first | (refine Sched2.walk1_ord rfl ?_) | (refine Sched2.walk1_no rfl rfl rfl (fun K hK => ?_); simp only [Act.put, zqa, zqb, zqc]; refine hK _ ?_; clear hK K) | (refine Sched2.walk1_gr rfl rfl rfl rfl (fun K hK => ?_); apply Exists.intro; refine ⟨fun w1 hw1 => ?_, ?_⟩; (focus (go_simp; (try go_ints); (try (simp only [IntWalk.iteOmega]; go_simp)); first | done | fail | (with_reducible rfl) | (with_reducible exact ⟨rfl, rfl⟩))); simp only [Act.put, zqa, zqb, zqc]; refine hK _ ?_; clear hK K) | (refine Sched2.walk1_late rfl rfl rfl rfl (fun K hK => ?_); apply Exists.intro; refine ⟨fun w1 hw1 => ?_, ?_⟩; (focus (go_simp; (try go_ints); (try (simp only [IntWalk.iteOmega]; go_simp)); first | done | fail | (with_reducible rfl) | (with_reducible exact ⟨rfl, rfl⟩))); simp only [Act.put, zqa, zqb, zqc]; refine hK _ ?_; clear hK K) | (refine Sched2.walk1_box rfl rfl rfl ?_; apply Exists.intro; refine ⟨fun w1 hw1 => ?_, ?_⟩; (focus (go_simp; exact ⟨Gr.alloc _ _, rfl, by simp, heap_alloc_new _ _⟩))))
 refine Sched2.walk1_nil ?_
 intro wq hwq
 dsimp only [Sched.EndN, List.nil_append, List.cons_append, Act.put]
 rintro lo hi v ⟨rfl, hlt, hblk⟩ hlo - - -
 have hrd : Rd .u8 wq (some ⟨lo, 0, none⟩) 2 [0, 0] := ⟨rfl, by intro z hz; simp at hz; subst hz; exact WalkArith.wf_u8 (by omega), by simp [maxLen], .inr ⟨lo, 0, rfl, heap_lt hblk, fun i hi => by
   rw [cell_of_block hblk]
   obtain rfl | rfl : i = 0 ∨ i = 1 := by omega
   · rfl
   · rfl⟩⟩
 obtain ⟨a8, cap8, w8, hrun, hr8⟩ := (H7.out.gr hwq).app _ 2 2 _ 26 rfl hrd (by omega) (by omega)
 have H8 := zqd hr8
 have hi8 : w8.cell? ⟨w.heap.size, 9, none⟩ = some (.int .i64 h.check) := hr8.1.at 9 rfl
 clear hr8 hrd hblk hlt hlo hwq hI H7
 (try simp only [zqa, zqb, zqc])
 simp only [Sched2.lasts, List.filterMap_cons, List.filterMap_nil, List.getElem?_toArray, List.getElem?_cons_succ, List.getElem?_cons_zero]
 refine Sched2.walk2_app rfl _ _ _ rfl rfl rfl hrun ?_ ?_
 · exact .inr hi8
 clear hrun
 dsimp only [Act.put]
 (try simp only [zqa, zqb, zqc])
 repeat (first | (refine Sched2.walk2_no rfl (fun K hK => ?_); simp only [Act.put, zqa, zqb, zqc]; refine hK _ ?_; clear hK K) | (refine Sched2.walk2_go rfl (fun K hK => ?_); go_simp; (try go_ints); (try (simp only [IntWalk.iteOmega]; go_simp)); first | (refine hK _ _ (by first | exact .inl ⟨rfl, rfl⟩ | exact .inr ((by assumption))) ?_; clear hK K) | (go_at_call 51; ((with_reducible refine (H8.out.put 2 2 28 _ rfl rfl (by omega) (by omega)).mono ?_)); rintro e w9 ⟨a9, cap9, rfl, hrm⟩; have H9 := zqd (show RowI w h a9 28 cap9 (rl3 h) w9 from hrm); have hi9 : w9.cell? ⟨w.heap.size, 9, none⟩ = some (.int .i64 h.check) := hrm.1.at 9 rfl; clear hrm hi8; refine ⟨_, rfl, ?_⟩; refine hK _ _ (.inr hi9) ?_; clear hK K hi9)))
 refine Sched2.walk2_nil ?_
 clear H8
 have c0 := H9.out.1.at 0 rfl
 rcases HK.out with hk | hk
 · have hkb : (h.kind == 2) = false := by rw [hk]; rfl
   have HKK := zqd hk
   clear hk
   go_wp2_with fail
   go_ret
   have e := rl3_head HKK.out
   refine ⟨a9, 28, cap9, rfl, by rw [headL_len, if_neg (by have := HKK.out; omega)], ?_, H9.out.2.2⟩
   rw [← e]
   exact H9.out.2.1.weak (by omega)
 · have hkb : (h.kind == 2) = true := by rw [hk]; rfl
   obtain ⟨⟨m1, m2⟩, ⟨y1, y2⟩, _⟩ := HK2.out hk
   have HKK := zqd hk
   clear hk
   have c10 := H9.out.1.at 10 rfl
   have c11 := H9.out.1.at 11 rfl
   have hrd := rd_new (k := .u8) (w := w9) [128, 128 * h.marker + h.type] 5 (0, 0) 2 rfl (by simp [maxLen]) (by
     intro z hz
     simp only [List.mem_cons, List.not_mem_nil, or_false] at hz
     rcases hz with rfl | rfl <;> exact WalkArith.wf_u8 (by omega))
   obtain ⟨a10, cap10, w10, hrun, hr10⟩ := (H9.out.gr (Gr.alloc w9 (.cells ([128, 128 * h.marker + h.type].map (Value.int .u8)).toArray 5))).app _ 2 2 _ 30 rfl hrd (by omega) (by omega)
   simp only [List.map_cons, List.map_nil] at hrun
   have HR := zqd hrun
   have H10 := zqd hr10
   clear hrun hrd hr10
   go_upto_region 11 with (at_builtin; refine wpList_app rfl _ _ _ rfl rfl rfl HR.out ?_)
   clear HR c0 c10 c11 H9
   have hI : ∀ u, Gr w10 u → u.cell? ⟨w.heap.size, 13, none⟩ = some (.int .i64 h.time) ∧ u.cell? ⟨w.heap.size, 14, none⟩ = some (.int .i64 h.source) := fun u hu => ⟨(H10.out.gr hu).1.at 13 rfl, (H10.out.gr hu).1.at 14 rfl⟩
   have hI1 : ∀ u, Gr w10 u → u.cell? ⟨w.heap.size, 12, none⟩ = some (.int .i64 h.seq) := fun u hu => (H10.out.gr hu).1.at 12 rfl
   go_upto_region 11 with (fail)
   refine Sched2.wp_region_sched (fun u => u.cell? ⟨w.heap.size, 13, none⟩ = some (.int .i64 h.time) ∧ u.cell? ⟨w.heap.size, 14, none⟩ = some (.int .i64 h.source)) [4, 5, 7, 8] [] [3, 6, 9, 10] true hI (by kernel_rfl) (by kernel_rfl) ?_
   repeat (first | (refine Sched2.walk1_ord rfl ?_) | (refine Sched2.walk1_no rfl rfl rfl (fun K hK => ?_); simp only [Act.put, zqa, zqb, zqc]; refine hK _ ?_; clear hK K) | (refine Sched2.walk1_gr rfl rfl rfl rfl (fun K hK => ?_); apply Exists.intro; refine ⟨fun w1 hw1 => ?_, ?_⟩; (focus (go_simp; (try go_ints); (try (simp only [IntWalk.iteOmega]; go_simp)); first | done | fail | (with_reducible rfl) | (with_reducible exact ⟨rfl, rfl⟩))); simp only [Act.put, zqa, zqb, zqc]; refine hK _ ?_; clear hK K) | (refine Sched2.walk1_late rfl rfl rfl rfl (fun K hK => ?_); apply Exists.intro; refine ⟨fun w1 hw1 => ?_, ?_⟩; (focus (go_simp; (try go_ints); (try (simp only [IntWalk.iteOmega]; go_simp)); first | done | fail | (with_reducible rfl) | (with_reducible exact ⟨rfl, rfl⟩))); simp only [Act.put, zqa, zqb, zqc]; refine hK _ ?_; clear hK K) | (refine Sched2.walk1_box rfl rfl rfl ?_; apply Exists.intro; refine ⟨fun w1 hw1 => ?_, ?_⟩; (focus (go_simp; exact ⟨Gr.alloc _ _, rfl, by simp, heap_alloc_new _ _⟩))))
   refine Sched2.walk1_nil ?_
   intro wq hwq
   have HQ := zqd (H10.out.gr hwq)
   clear hwq hI hI1
   dsimp only [Sched.EndN, List.nil_append, List.cons_append, Act.put]
   (try simp only [zqa, zqb, zqc])
   simp only [Sched2.lasts, List.filterMap_cons, List.filterMap_nil, List.getElem?_toArray, List.getElem?_cons_succ, List.getElem?_cons_zero]
   repeat (first | (refine Sched2.walk2_no rfl (fun K hK => ?_); simp only [Act.put, zqa, zqb, zqc]; refine hK _ ?_; clear hK K) | (refine Sched2.walk2_go rfl (fun K hK => ?_); go_simp; (try go_ints); (try (simp only [IntWalk.iteOmega]; go_simp)); first | (refine hK _ _ (by first | exact .inl ⟨rfl, rfl⟩ | exact .inr ((by assumption))) ?_; clear hK K) | (go_at_call 51; ((with_reducible refine (HQ.out.put 2 2 32 _ rfl rfl (by omega) (by omega)).mono ?_)); rintro e wm ⟨am, cm, rfl, hrm⟩; have HM := zqd hrm; have him : _ ∧ _ := ⟨hrm.1.at 13 rfl, hrm.1.at 14 rfl⟩; clear hrm; refine ⟨_, rfl, ?_⟩; refine hK _ _ (.inr him) ?_; clear hK K) | (go_at_call 51; ((with_reducible refine (HM.out.put 4 4 36 _ rfl rfl (by omega) (by omega)).mono ?_)); rintro e wn ⟨an, cn, rfl, hrn⟩; have HN := zqd hrn; have hin : _ ∧ _ := ⟨hrn.1.at 13 rfl, hrn.1.at 14 rfl⟩; clear hrn him; refine ⟨_, rfl, ?_⟩; refine hK _ _ (.inr hin) ?_; clear hK K) | (go_at_call 51; ((with_reducible refine (HN.out.put 4 4 40 _ rfl rfl (by omega) (by omega)).mono ?_)); rintro e wz ⟨az, cz, rfl, hrz⟩; have HZ := zqd (show RowI w h az 40 cz (rl4 h) wz from hrz); have hiz : _ ∧ _ := ⟨hrz.1.at 13 rfl, hrz.1.at 14 rfl⟩; clear hrz hin; refine ⟨_, rfl, ?_⟩; refine hK _ _ (.inr hiz) ?_; clear hK K hiz)))
   refine Sched2.walk2_nil ?_
   go_wp2_with fail
   go_ret
   have e := rl4_head HKK.out
   refine ⟨az, 40, cz, rfl, by rw [headL_len, if_pos HKK.out], ?_, HZ.out.2.2⟩
   rw [← e]
   exact HZ.out.2.1.weak (by omega)
def BufC (w0 : World) (t : TypeId) (cs : List Value) (a : Option Addr) (n cap : Nat) (xs : List Int) (wn : World) : Prop :=
 CBlk w0.heap.size t cs wn ∧ OwnI (w0.heap.size + 1) 5 .u8 wn a n cap xs ∧ Gr w0 wn
section
variable {w0 wn w' : World} {t : TypeId} {cs : List Value} {a : Option Addr} {n cap : Nat} {xs : List Int}
theorem BufC.turn {a' : Option Addr} {n' cap' : Nat} {ys : List Int} (hI : BufC w0 t cs a n cap xs wn) (ho : OwnI (w0.heap.size + 1) 5 .u8 w' a' n' cap' ys) (hg : wn.grownBy w' (Value.slice a n cap).ownBlock) : BufC w0 t cs a' n' cap' ys w' := by
 obtain ⟨h1, h2, h3⟩ := hI
 refine ⟨h1.but hg fun e => ?_, ho, grown_own h3 h2 (by omega) hg⟩
 have := (h2.below _ e.symm).1
 omega
theorem BufC.gr (hI : BufC w0 t cs a n cap xs wn) (hg : Gr wn w') : BufC w0 t cs a n cap xs w' := ⟨hI.1.kept hg, hI.2.1.stay hg, hI.2.2.trans hg⟩
theorem BufC.le (hI : BufC w0 t cs a n cap xs wn) : w0.heap.size + 1 ≤ wn.heap.size := hI.1.lt
theorem BufC.start (h1 : CBlk w0.heap.size t cs wn) (h3 : Gr w0 wn) : BufC w0 t cs none 0 0 [] wn := ⟨h1, OwnI.nil _ _ _ _, h3⟩
theorem BufC.done (hI : BufC w0 t cs a n cap xs wn) : OwnI w0.heap.size 5 .u8 wn a n cap xs := hI.2.1.weak (by omega)
theorem BufC.put (hI : BufC w0 t cs a n cap xs wn) (K : Int) (k N : Nat) (x : Int) (hK : K = k) (hN : N = n + k) (hn : n ≤ 20000) (hk : k ≤ 7) :
   Calls Tryd.prog 51 #[.slice a n cap, .int .i64 K, .int .i64 x] wn fun e w' => ∃ a' cap', e = .returned (.slice a' N cap') ∧ BufC w0 t cs a' N cap' (xs ++ putR x k) w' := by
 refine (put_any _ a n cap xs K k x wn hK hI.2.1 (by omega) hk hI.le).mono ?_
 rintro e w' ⟨a', cap', n', e1, e2, ho, hg, _⟩
 subst hN
 subst e1
 exact ⟨a', cap', e2, hI.turn ho hg⟩
theorem BufC.app (hI : BufC w0 t cs a n cap xs wn) (b : Option Addr) (m c : Nat) (ys : List Int) (N : Nat) (hN : N = n + m) (hr : Rd .u8 wn b m ys) (hn : n + m ≤ 140737488355328) :
   ∃ a' cap' w', (Builtin.append_ #[39, 39] 39 #[.slice a n cap, .slice b m c]).run Tryd.prog wn = .ok (.slice a' N cap') w' ∧ BufC w0 t cs a' N cap' (xs ++ ys) w' := by
 subst hN
 obtain ⟨a', cap', w', h1, h2, h3, _⟩ := app_u8 _ wn a n cap xs hI.2.1 b m c ys hr hn hI.le
 exact ⟨a', cap', w', h1, hI.turn h2 h3⟩
theorem BufC.lit (hI : BufC w0 t cs a n cap xs wn) (zs : List Int) (m N : Nat) (hN : N = n + m) (hm : zs.length = m) (hz : ∀ z ∈ zs, 0 ≤ z ∧ z ≤ 255) (hn : n + m ≤ 100000000) (hm2 : m ≤ 10000) :
   ∃ a' cap' w', (Builtin.append_ #[39, 39] 39 #[.slice a n cap, .slice (some ⟨wn.heap.size, 0, none⟩) m m]).run Tryd.prog (wn.alloc (.cells (zs.map (Value.int .u8)).toArray 5)) = .ok (.slice a' N cap') w' ∧ BufC w0 t cs a' N cap' (xs ++ zs) w' := by
 have hrd := rd_new (k := .u8) (w := wn) zs 5 (0, 0) m hm (by simp only [maxLen]; omega) (fun z h => by have := hz z h; exact WalkArith.wf_u8 (by omega))
 exact (hI.gr (Gr.alloc _ _)).app _ m m zs N hN hrd (by omega)
end
end Go.Proofs.YtlnkofpcidngoaaDoor
namespace Go.Proofs.YtlnkofpcidngoaaDoor
open Go.ChangeShapes Go.WideShapes Go.ChangeAt Go.RowKit
namespace SchedD
open Sched (gq nq tq Stable NPred Walk2 EndN dstOf bef chk1 lst Closed newsL newsL_congr put_size put_defers put_get look_same gq_wp gq_late nq_wp tq_wp uniq dst_lt lst_set closed_set acts_reg Inv1 inv1_fix inv1_new putNews endN_inst putNews_reg Inv2 inv2_next cnt cnt_set cnt_zero all_of_ready chk_edge chk_pair listed_of_bef)
variable (P : Program) (ops : Array Oper) (W : World)
def depOf : List (Nat × List (Nat × Tmp)) → Nat → List (Nat × Tmp)
 | [], _ => []
 | (j, d) :: r, i => if i = j then d else depOf r i
def nsel : List (Nat × NPred) → Nat → NPred
 | [], _ => fun _ _ _ _ => True
 | (j, n) :: r, k => if k = j then n else nsel r k
def DepN (N : Nat → NPred) (w : World) (K : Act → Prop) : List (Nat × Tmp) → Act → Prop
 | [], a => K a
 | (k, t) :: ks, a => ∀ lo hi u, N k lo hi u w → DepN N w K ks (a.put (some t) u)
def Walk1 (late news : List Nat) (N : Nat → NPred) (deps : List (Nat × List (Nat × Tmp))) (Q : Act → List (Option Tmp × NPred) → Prop) : List Oper → Nat → Act → List (Option Tmp × NPred) → Prop
 | [], _, a, L => Q a L
 | o :: r, k, a, L =>
   if news.contains k then
     Stable (N k) ∧ (∀ w, Gr W w → DepN N w (fun a' => Region.wanted o (yielded ops a'.tmps) = true ∧ nq P o a' w (N k)) (depOf deps k) a) ∧ Walk1 late news N deps Q r (k + 1) a (L ++ [(o.dst, N k)])
   else
     (∃ v, (∀ w, (late.contains k = true ∨ Gr W w) → DepN N w (fun a' => Region.wanted o (yielded ops a'.tmps) = true ∧ gq P o a' w v (late.contains k)) (depOf deps k) a) ∧ Walk1 late news N deps Q r (k + 1) (a.put o.dst v) L) ∨
     ((∀ w, (late.contains k = true ∨ Gr W w) → DepN N w (fun a' => Region.wanted o (yielded ops a'.tmps) = false) (depOf deps k) a) ∧ Walk1 late news N deps Q r (k + 1) (a.put o.dst undef) L)
def chk2 (B : Array Nat) (m : Nat) (late news : List Nat) (deps : List (Nat × List (Nat × Tmp))) : Bool :=
 decide (m ≤ ops.size) && (news.all fun k => decide (k < m)) && (late.all fun k => decide (k < m) && !news.contains k && (depOf deps k).isEmpty) &&
 (decide (m = ops.size) || (List.range m).all fun j => late.contains j || bef B m j) &&
 ((List.range ops.size).all fun i => decide (i ≤ m) || bef B i (i - 1)) &&
 ((List.range m).all fun i => match ops[i]? with
   | none => false
   | some o => (news.all fun k => match dstOf ops k with | some t => !(o.looksAt ops).contains t || (depOf deps i).contains (k, t) | none => true) &&
     ((depOf deps i).all fun p => decide (p.1 < i) && news.contains p.1 && bef B i p.1 && (dstOf ops p.1 == some p.2)))
variable {P ops W}
variable {B : Array Nat} {m : Nat} {late news : List Nat} {N : Nat → NPred} {deps : List (Nat × List (Nat × Tmp))}
theorem chk2_parts (h : chk2 ops B m late news deps = true) : m ≤ ops.size ∧ (∀ j, news.contains j = true → j < m) ∧ (∀ j, late.contains j = true → news.contains j = false ∧ depOf deps j = []) ∧
   (m = ops.size ∨ ∀ j, j < m → late.contains j = true ∨ bef B m j = true) ∧ (∀ i, i < ops.size → i ≤ m ∨ bef B i (i - 1) = true) ∧
   (∀ i o, i < m → ops[i]? = some o → (∀ j t, news.contains j = true → dstOf ops j = some t → t ∈ o.looksAt ops → (j, t) ∈ depOf deps i) ∧ ∀ p ∈ depOf deps i, p.1 < i ∧ news.contains p.1 = true ∧ bef B i p.1 = true ∧ dstOf ops p.1 = some p.2) := by
 simp only [chk2, Bool.and_eq_true, decide_eq_true_eq] at h
 obtain ⟨⟨⟨⟨⟨h1, h2⟩, h3⟩, h4⟩, h5⟩, h6⟩ := h
 refine ⟨h1, fun j hj => ?_, fun j hj => ?_, ?_, fun i hi => ?_, fun i o hi ho => ?_⟩
 · have := List.all_eq_true.1 h2 j (by simpa using hj); simpa using this
 · have := List.all_eq_true.1 h3 j (by simpa using hj)
   simp only [Bool.and_eq_true, Bool.not_eq_true', List.isEmpty_iff] at this
   exact ⟨this.1.2, this.2⟩
 · rcases Bool.or_eq_true _ _ ▸ h4 with h | h
   · exact .inl (by simpa using h)
   · exact .inr fun j hj => by
       have := List.all_eq_true.1 h j (List.mem_range.2 hj)
       rwa [Bool.or_eq_true] at this
 · have := List.all_eq_true.1 h5 i (List.mem_range.2 hi)
   simpa using this
 · have h7 := List.all_eq_true.1 h6 i (List.mem_range.2 hi)
   simp only [ho, Bool.and_eq_true] at h7
   refine ⟨fun j t hj hd ht => ?_, fun p hp => ?_⟩
   · have h8 := List.all_eq_true.1 h7.1 j (by simpa using hj)
     rw [hd] at h8
     simp only [Bool.or_eq_true, Bool.not_eq_true', List.contains_eq_mem, decide_eq_false_iff_not, decide_eq_true_eq] at h8
     rcases h8 with h8 | h8
     · exact absurd ht h8
     · exact h8
   · have h8 := List.all_eq_true.1 h7.2 p hp
     simp only [Bool.and_eq_true, decide_eq_true_eq, beq_iff_eq] at h8
     exact ⟨h8.1.1.1, h8.1.1.2, h8.1.2, h8.2⟩
def FixOK (P : Program) (ops : Array Oper) (W : World) (late : List Nat) (N : Nat → NPred) (deps : List (Nat × List (Nat × Tmp))) (i : Nat) (a : Act) (v : Value) : Prop := ∃ o, ops[i]? = some o ∧
 ((∀ w, (late.contains i = true ∨ Gr W w) → DepN N w (fun a' => Region.wanted o (yielded ops a'.tmps) = true ∧ gq P o a' w v (late.contains i)) (depOf deps i) a) ∨
   ((∀ w, (late.contains i = true ∨ Gr W w) → DepN N w (fun a' => Region.wanted o (yielded ops a'.tmps) = false) (depOf deps i) a) ∧ v = undef))
def NewOK (P : Program) (ops : Array Oper) (W : World) (N : Nat → NPred) (deps : List (Nat × List (Nat × Tmp))) (i : Nat) (a : Act) : Prop := ∃ o, ops[i]? = some o ∧ Stable (N i) ∧
 ∀ w, Gr W w → DepN N w (fun a' => Region.wanted o (yielded ops a'.tmps) = true ∧ nq P o a' w (N i)) (depOf deps i) a
theorem walk1_ext {Q : Act → List (Option Tmp × NPred) → Prop} : ∀ (l : List Oper) (k : Nat) (a : Act) (L : List (Option Tmp × NPred)), (∀ j, j < l.length → l[j]? = ops[k + j]?) → Walk1 P ops W late news N deps Q l k a L →
   ∃ (A : Nat → Act) (v : Nat → Value), A k = a ∧
     (∀ i, k ≤ i → i < k + l.length → (news.contains i = true → A (i + 1) = A i ∧ NewOK P ops W N deps i (A i)) ∧ (news.contains i = false → A (i + 1) = (A i).put (dstOf ops i) (v i) ∧ FixOK P ops W late N deps i (A i) (v i))) ∧
     Q (A (k + l.length)) (L ++ newsL ops news N l.length k)
 | [], k, a, L, _, h => ⟨fun _ => a, fun _ => undef, rfl, fun i h1 h2 => by simp at h2; omega, by simpa [newsL, Walk1] using h⟩
 | o :: r, k, a, L, hl, h => by
   have ho : ops[k]? = some o := by simpa using (hl 0 (by simp)).symm
   have hl' : ∀ j, j < r.length → r[j]? = ops[k + 1 + j]? := fun j hj => by
     have := hl (j + 1) (by simpa using hj)
     simpa [Nat.add_assoc, Nat.add_comm 1 j] using this
   have hd : dstOf ops k = o.dst := by simp [dstOf, ho]
   have hlen : k + (o :: r).length = k + 1 + r.length := by simp; omega
   have join : ∀ (a1 : Act) (L1 : List (Option Tmp × NPred)) (v0 : Value), Walk1 P ops W late news N deps Q r (k + 1) a1 L1 →
       ((news.contains k = true → a1 = a ∧ NewOK P ops W N deps k a) ∧ (news.contains k = false → a1 = a.put (dstOf ops k) v0 ∧ FixOK P ops W late N deps k a v0)) →
       (L1 = L ++ (if news.contains k then [(dstOf ops k, N k)] else [])) → ∃ (A : Nat → Act) (v : Nat → Value), A k = a ∧
     (∀ i, k ≤ i → i < k + (o :: r).length → (news.contains i = true → A (i + 1) = A i ∧ NewOK P ops W N deps i (A i)) ∧ (news.contains i = false → A (i + 1) = (A i).put (dstOf ops i) (v i) ∧ FixOK P ops W late N deps i (A i) (v i))) ∧
     Q (A (k + (o :: r).length)) (L ++ newsL ops news N (o :: r).length k) := by
     intro a1 L1 v0 hw hk hL
     obtain ⟨A, v, hA, hstep, hQ⟩ := walk1_ext r (k + 1) a1 L1 hl' hw
     refine ⟨fun i => if i = k then a else A i, fun i => if i = k then v0 else v i, by simp, ?_, ?_⟩
     · intro i h1 h2
       by_cases hik : i = k
       · subst hik
         simp only [if_true, show ¬ i + 1 = i from by omega, if_false, hA]
         exact hk
       · have := hstep i (by omega) (by omega)
         simp only [hik, if_false, show ¬ i + 1 = k from by omega]
         exact this
     · have e1 : ¬ k + (o :: r).length = k := by simp
       show Q (if k + (o :: r).length = k then a else A (k + (o :: r).length)) _
       rw [if_neg e1, hlen]
       rw [hL] at hQ
       simp only [List.length_cons, newsL]
       simpa [List.append_assoc] using hQ
   unfold Walk1 at h
   by_cases hn : news.contains k = true
   · rw [if_pos hn] at h
     obtain ⟨hs, hq, hr⟩ := h
     exact join a _ undef hr ⟨fun _ => ⟨rfl, o, ho, hs, hq⟩, fun e => (by rw [hn] at e; cases e)⟩ (by rw [if_pos hn, hd])
   · have hnf : news.contains k = false := by simpa using hn
     rw [if_neg hn] at h
     rcases h with ⟨v0, hq, hr⟩ | ⟨hw, hr⟩
     · exact join _ L v0 hr ⟨fun e => (by rw [hnf] at e; cases e), fun _ => ⟨by rw [hd], o, ho, .inl hq⟩⟩ (by rw [if_neg hn]; simp)
     · exact join _ L undef hr ⟨fun e => (by rw [hnf] at e; cases e), fun _ => ⟨by rw [hd], o, ho, .inr ⟨hw, rfl⟩⟩⟩ (by rw [if_neg hn]; simp)
def putL (nv : Nat → Value) : List (Nat × Tmp) → Act → Act
 | [], a => a
 | (k, t) :: ks, a => putL nv ks (a.put (some t) (nv k))
theorem depN_inst {nv : Nat → Value} {lo hi : Nat → Nat} {w : World} {K : Act → Prop} : ∀ (l : List (Nat × Tmp)) (a : Act), (∀ p ∈ l, N p.1 (lo p.1) (hi p.1) (nv p.1) w) → DepN N w K l a → K (putL nv l a)
 | [], _, _, h => h
 | (k, t) :: ks, a, hf, h => depN_inst ks _ (fun p hp => hf p (by simp [hp])) (h _ _ _ (hf (k, t) (by simp)))
theorem putL_size (nv : Nat → Value) : ∀ (l : List (Nat × Tmp)) (a : Act), (putL nv l a).tmps.size = a.tmps.size
 | [], _ => rfl
 | (k, t) :: ks, a => by unfold putL; rw [putL_size nv ks]; simp [Act.put]
theorem putL_get (hch : chk1 ops B = true) (nv : Nat → Value) : ∀ (l : List (Nat × Tmp)) (a : Act), (∀ p ∈ l, dstOf ops p.1 = some p.2) → ∀ t, t < a.tmps.size →
   (∀ j, (j, t) ∈ l → (putL nv l a).tmps[t]? = some (nv j)) ∧ ((∀ j, (j, t) ∉ l) → (putL nv l a).tmps[t]? = a.tmps[t]?)
 | [], a, _, t, _ => ⟨fun j h => (by cases h), fun _ => rfl⟩
 | (k, s) :: ks, a, hd, t, ht => by
   unfold putL
   obtain ⟨h1, h2⟩ := putL_get hch nv ks (a.put (some s) (nv k)) (fun p hp => hd p (by simp [hp])) t (by rw [put_size]; exact ht)
   rw [put_get _ _ _ _ ht] at h2
   refine ⟨fun j hj => ?_, fun hno => ?_⟩
   · by_cases hin : ∃ i, (i, t) ∈ ks
     · obtain ⟨i, hi⟩ := hin
       have hji : j = i := uniq hch (hd (j, t) hj) (hd (i, t) (by simp [hi]))
       rw [hji]; exact h1 i hi
     · rcases List.mem_cons.1 hj with e | hj
       · cases e
         rw [h2 (fun i hi => hin ⟨i, hi⟩), if_pos rfl]
       · exact absurd ⟨j, hj⟩ hin
   · rw [h2 (fun j hj => hno j (by simp [hj])), if_neg (fun e => by cases e; exact hno k (by simp))]
section
variable {a0 : Act} {v : Nat → Value} {listed : Array Bool} {a : Act} {w w' : World}
theorem look1 (hch : chk1 ops B = true) (hc2 : chk2 ops B m late news deps = true) {A : Nat → Act} (hA0 : A 0 = a0)
   (hstep : ∀ i, i < m → (news.contains i = true → A (i + 1) = A i) ∧ (news.contains i = false → A (i + 1) = (A i).put (dstOf ops i) (v i)))
   (inv : Inv1 ops W m news a0 v N listed a w) {i : Nat} {o : Oper} (hi : i < m) (ho : ops[i]? = some o) (hr : ∀ e ∈ o.after, Region.binds .any e = true → lst listed e.on = true) (hun : lst listed i = false) :
   ∃ (nv : Nat → Value) (lo hi' : Nat → Nat), (∀ p ∈ depOf deps i, N p.1 (lo p.1) (hi' p.1) (nv p.1) w) ∧ ∀ t ∈ o.looksAt ops, a.tmps[t]? = (putL nv (depOf deps i) (A i)).tmps[t]? := by
 obtain ⟨h1, h2, h3⟩ := acts_reg hch hstep i (Nat.le_of_lt hi)
 rw [hA0] at h1 h2 h3
 obtain ⟨nv, lo, hi', r1, r2, r3, _⟩ := inv.regs
 obtain ⟨_, _, _, _, _, hlk⟩ := chk2_parts hc2
 obtain ⟨k1, k2⟩ := hlk i o hi ho
 refine ⟨nv, lo, hi', fun p hp => ?_, fun t ht => ?_⟩
 · obtain ⟨q1, q2, q3, q4⟩ := k2 p hp
   exact (r3 p.1 q2 (listed_of_bef hch inv.closed i o ho hr p.1 q3 (dst_lt q4))).1
 · rcases Nat.lt_or_ge t a0.tmps.size with hlt | hge
   · obtain ⟨g1, g2⟩ := putL_get hch nv (depOf deps i) (A i) (fun p hp => (k2 p hp).2.2.2) t (by rw [h2]; exact hlt)
     by_cases hex : ∃ j, dstOf ops j = some t
     · obtain ⟨j, hj⟩ := hex
       cases hnj : news.contains j
       · rw [g2 (fun j' hj' => by
           obtain ⟨_, q2, _, q4⟩ := k2 _ hj'
           rw [uniq hch q4 hj, hnj] at q2; cases q2)]
         rcases ((chk_pair hch ho (dst_lt hj)).2 t hj).2 ht with ⟨hji, hb⟩ | ⟨hij, hb⟩
         · have hl := listed_of_bef hch inv.closed i o ho hr j hb (dst_lt hj)
           rw [r1 t hlt j hj hl, (h3 t hlt).1 j hji hnj hj, hnj]; rfl
         · have hl : lst listed j = false := by
             cases hlj : lst listed j
             · rfl
             · obtain ⟨oj, hoj⟩ : ∃ oj, ops[j]? = some oj := ⟨ops[j]'(dst_lt hj), Array.getElem?_eq_getElem _⟩
               have := listed_of_bef hch inv.closed j oj hoj (fun e he hbb => inv.closed j oj hoj hlj e he hbb) i hb (Array.getElem?_eq_some_iff.1 ho).1
               rw [hun] at this; cases this
           rw [r2 t hlt (fun j' hj' => by rw [uniq hch hj' hj]; exact hl), (h3 t hlt).2 (fun j' hj' _ hd => by rw [uniq hch hd hj] at hj'; omega)]
       · have hdp := k1 j t hnj hj ht
         obtain ⟨_, _, q3, _⟩ := k2 _ hdp
         have hl := listed_of_bef hch inv.closed i o ho hr j q3 (dst_lt hj)
         rw [r1 t hlt j hj hl, hnj, g1 j hdp]; rfl
     · rw [g2 (fun j' hj' => hex ⟨j', (k2 _ hj').2.2.2⟩), r2 t hlt (fun j hj => absurd ⟨j, hj⟩ hex), (h3 t hlt).2 (fun j _ _ hd => hex ⟨j, hd⟩)]
   · rw [Array.getElem?_eq_none (by rw [inv.sz]; exact hge), Array.getElem?_eq_none (by rw [putL_size, h2]; exact hge)]
variable {Q' : Act → World → Prop}
theorem inv2_start (hch : chk1 ops B = true) (hc2 : chk2 ops B m late news deps = true) {A : Nat → Act} (hA0 : A 0 = a0)
   (hstep : ∀ i, i < m → (news.contains i = true → A (i + 1) = A i) ∧ (news.contains i = false → A (i + 1) = (A i).put (dstOf ops i) (v i)))
   (inv : Inv1 ops W m news a0 v N listed a w) (hall : ∀ j, j < m → late.contains j = false → lst listed j = true)
   (H : EndN W w (fun a' => Walk2 P ops Q' (ops.toList.drop m) a' w) (newsL ops news N m 0) [] (A m)) : Inv2 P ops Q' m late news a0 v m listed a w := by
 obtain ⟨hmn, hnm, hlp, _, _, _⟩ := chk2_parts hc2
 have hln : ∀ j, late.contains j = true → news.contains j = false := fun j hj => (hlp j hj).1
 have hnl : ∀ j, news.contains j = true → lst listed j = true := fun j hj => by
   refine hall j (hnm j hj) ?_
   cases h : late.contains j
   · rfl
   · rw [hln j h] at hj; cases hj
 obtain ⟨nv, lo, hi', r1, r2, r3, r4⟩ := inv.regs
 have hk := endN_inst (nv := nv) (lo := lo) (hi := hi') (fun i j hij hi hj => r4 i j hij hi hj (hnl i hi) (hnl j hj)) m 0 [] (A m) (fun j _ _ hj => r3 j hj (hnl j hj)) (fun _ _ _ _ p hp => by cases hp) H
 obtain ⟨g1, g2, g3⟩ := acts_reg hch hstep m (Nat.le_refl _)
 rw [hA0] at g1 g2 g3
 obtain ⟨f1, f2, f3⟩ := putNews_reg hch (news := news) (nv := nv) m 0 (A m)
 refine ⟨inv.size, inv.closed, Nat.le_refl _, hmn, fun i h1 h2 => by omega, inv.later, hall, inv.dfs, inv.sz, putNews ops news nv m 0 (A m), hk, by rw [f1, g1], by rw [f2, g2], fun t ht => ?_⟩
 obtain ⟨f4, f5⟩ := f3 t (by rw [g2]; exact ht)
 obtain ⟨g4, g5⟩ := g3 t ht
 have hfix : ∀ j, j < m → news.contains j = false → dstOf ops j = some t → (putNews ops news nv m 0 (A m)).tmps[t]? = some (v j) := fun j hj hnj hd => by
   rw [f5 (fun j' _ _ hn' hd' => by have := uniq hch hd' hd; rw [this, hnj] at hn'; cases hn'), g4 j hj hnj hd]
 have hnone : (∀ j, j < m → dstOf ops j ≠ some t) → (putNews ops news nv m 0 (A m)).tmps[t]? = a0.tmps[t]? := fun hno => by
   rw [f5 (fun j' _ h2 _ => hno j' (by omega)), g5 fun j hj _ => hno j hj]
 refine ⟨fun j hj hl hun hd => ?_, fun hno => ?_, hfix, hnone⟩
 · exact r2 t ht fun j' hj' => by rw [uniq hch hj' hd]; exact hun
 · by_cases hex : ∃ j, j < m ∧ dstOf ops j = some t
   · obtain ⟨j, hj, hd⟩ := hex
     have hl : lst listed j = true := by
       cases h : late.contains j
       · exact hall j hj h
       · cases h2 : lst listed j
         · exact absurd hd (hno j hj h h2)
         · rfl
     rw [r1 t ht j hd hl]
     cases hnj : news.contains j
     · rw [hfix j hj hnj hd]; rfl
     · rw [f4 j (by omega) (by omega) hnj hd]; rfl
   · rw [hnone (fun j hj hd => hex ⟨j, hj, hd⟩)]
     refine r2 t ht fun j hd => ?_
     exact inv.later j (by
       rcases Nat.lt_or_ge j m with h | h
       · exact absurd ⟨j, h, hd⟩ hex
       · exact h)
theorem inv2_late (hch : chk1 ops B = true) (hc2 : chk2 ops B m late news deps = true) {p : Nat} (inv : Inv2 P ops Q' m late news a0 v p listed a w) {i : Nat} {o : Oper} (hi : i < m) (hl : late.contains i = true) (ho : ops[i]? = some o)
   (hr : ∀ e ∈ o.after, Region.binds .any e = true → lst listed e.on = true) : Inv2 P ops Q' m late news a0 v p (listed.setIfInBounds i true) (a.put o.dst (v i)) w := by
 have hin : i < listed.size := by rw [inv.size]; exact (Array.getElem?_eq_some_iff.1 ho).1
 have hd : dstOf ops i = o.dst := by simp [dstOf, ho]
 have hln : news.contains i = false := ((chk2_parts hc2).2.2.1 i hl).1
 obtain ⟨A, h1, h2, h3, h4⟩ := inv.ideal
 have up : ∀ j, lst listed j = true → lst (listed.setIfInBounds i true) j = true := fun j h => by rw [lst_set hin]; split <;> simp [h]
 refine ⟨by simp [inv.size], closed_set hin ho inv.closed hr, inv.mp, inv.pn, fun k hk1 hk2 => up k (inv.done k hk1 hk2), fun k hk => ?_, fun j hj1 hj2 => up j (inv.head j hj1 hj2), by rw [put_defers, inv.dfs], by rw [put_size, inv.sz],
   A, h1, h2, h3, fun t ht => ?_⟩
 · rw [lst_set hin, if_neg (by have := inv.mp; omega)]; exact inv.todo k hk
 · obtain ⟨c1, c2, c3, c4⟩ := h4 t ht
   rw [put_get _ _ _ _ (by rw [inv.sz]; exact ht)]
   refine ⟨fun j hj hlj hun hdj => ?_, fun hno => ?_, c3, c4⟩
   · rw [lst_set hin] at hun
     by_cases hij : i = j
     · subst hij; simp at hun
     · rw [if_neg hij] at hun
       rw [if_neg (fun e => hij (uniq hch (by rw [hd]; exact e) hdj))]
       exact c1 j hj hlj hun hdj
   · by_cases hdi : o.dst = some t
     · rw [if_pos hdi, c3 i hi hln (by rw [hd]; exact hdi)]
     · rw [if_neg hdi]
       refine c2 fun j hj hlj hun hdj => ?_
       by_cases hij : i = j
       · subst hij; exact hdi (by rw [← hd]; exact hdj)
       · exact hno j hj hlj (by rw [lst_set hin, if_neg hij]; exact hun) hdj
theorem sched_any (hch : chk1 ops B = true) (hc2 : chk2 ops B m late news deps = true) (hsel : Region.noSelect ops = true) {Q : Exit → Act → World → Prop} {A : Nat → Act} (hA0 : A 0 = a0)
   (hstep : ∀ i, i < m → (news.contains i = true → A (i + 1) = A i ∧ NewOK P ops W N deps i (A i)) ∧ (news.contains i = false → A (i + 1) = (A i).put (dstOf ops i) (v i) ∧ FixOK P ops W late N deps i (A i) (v i)))
   (hend : ∀ w', Gr W w' → EndN W w' (fun a' => Walk2 P ops (Q .normal) (ops.toList.drop m) a' w') (newsL ops news N m 0) [] (A m)) :
   ∀ (fuel : Nat) (listed : Array Bool) (a : Act) (w : World), cnt listed ops.size = fuel → (Inv1 ops W m news a0 v N listed a w ∨ ∃ p, Inv2 P ops (Q .normal) m late news a0 v p listed a w) → wpAny P .any ops Q fuel listed a w := by
 have hst1 : ∀ i, i < m → (news.contains i = true → A (i + 1) = A i) ∧ (news.contains i = false → A (i + 1) = (A i).put (dstOf ops i) (v i)) := fun i hi => ⟨fun h => ((hstep i hi).1 h).1, fun h => ((hstep i hi).2 h).1⟩
 obtain ⟨hmn, hnm, hlp, hcm, hchain', hlk⟩ := chk2_parts hc2
 have hstable : ∀ j, news.contains j = true → Stable (N j) := fun j hj => by
   obtain ⟨_, _, _, h, _⟩ := (hstep j (hnm j hj)).1 hj
   exact h
 -- at the end
 have fin : ∀ (listed : Array Bool) (a : Act) (w : World), (∀ i, i < ops.size → lst listed i = true) → (Inv1 ops W m news a0 v N listed a w ∨ ∃ p, Inv2 P ops (Q .normal) m late news a0 v p listed a w) → Q .normal a w := by
   intro listed a w hall inv
   have h2 : ∃ p, Inv2 P ops (Q .normal) m late news a0 v p listed a w := by
     rcases inv with inv | h
     · have hm : m = ops.size := by
         rcases Nat.lt_or_ge m ops.size with h | h
         · have := inv.later m (Nat.le_refl _); rw [hall m h] at this; cases this
         · omega
       exact ⟨m, inv2_start hch hc2 hA0 hst1 inv (fun j hj _ => hall j (by omega)) (hend w inv.gr)⟩
     · exact h
   obtain ⟨p, inv⟩ := h2
   have hp : p = ops.size := by
     rcases Nat.lt_or_ge p ops.size with h | h
     · have := inv.todo p (Nat.le_refl _); rw [hall p h] at this; cases this
     · have := inv.pn; omega
   obtain ⟨A', h1, h2, h3, h4⟩ := inv.ideal
   rw [List.drop_eq_nil_of_le (by rw [hp]; simp)] at h1
   have e : a = A' := by
     have ht : a.tmps = A'.tmps := by
       apply Array.ext_getElem?
       intro t
       rcases Nat.lt_or_ge t a0.tmps.size with h | h
       · exact (h4 t h).2.1 fun j hj _ hun _ => by rw [hall j (by omega)] at hun; cases hun
       · rw [Array.getElem?_eq_none (by rw [inv.sz]; exact h), Array.getElem?_eq_none (by rw [h3]; exact h)]
     have hd : a.defers = A'.defers := by rw [inv.dfs, h2]
     cases a; cases A'; simp_all
   rw [e]; exact h1
 -- one operation of the chain
 have chain : ∀ (fuel : Nat) (listed : Array Bool) (a : Act) (w : World) (p : Nat) (o : Oper), (∀ a' w', (∃ q, Inv2 P ops (Q .normal) m late news a0 v q (listed.setIfInBounds p true) a' w') → wpAny P .any ops Q fuel (listed.setIfInBounds p true) a' w') →
     Inv2 P ops (Q .normal) m late news a0 v p listed a w → ops[p]? = some o → (∀ e ∈ o.after, Region.binds .any e = true → lst listed e.on = true) → wpOp P ops Q p (wpAny P .any ops Q fuel (listed.setIfInBounds p true)) a w := by
   intro fuel listed a w p o ih inv ho hr
   obtain ⟨A', h1, h2, h3, h4⟩ := inv.ideal
   have hpn := (Array.getElem?_eq_some_iff.1 ho).1
   have hdrop : ops.toList.drop p = o :: ops.toList.drop (p + 1) := by
     rw [List.drop_eq_getElem_cons (by simpa using hpn)]
     congr 1
     have := (Array.getElem?_eq_some_iff.1 ho).2
     simpa using this
   rw [hdrop] at h1
   have look := look_same (ops := ops) (o := o) (a := a) (a' := A') (fun cs b => Region.noSelect_spec hsel p o cs b ho) (fun t ht => by
     rcases Nat.lt_or_ge t a0.tmps.size with h | h
     · refine (h4 t h).2.1 fun j hj _ hun hd => ?_
       rcases ((chk_pair hch ho (dst_lt hd)).2 t hd).2 ht with ⟨_, hb⟩ | ⟨h5, _⟩
       · have := listed_of_bef hch inv.closed p o ho hr j hb (dst_lt hd)
         rw [hun] at this; cases this
       · have := inv.mp; omega
     · rw [Array.getElem?_eq_none (by rw [inv.sz]; exact h), Array.getElem?_eq_none (by rw [h3]; exact h)])
   unfold wpOp
   rw [ho]
   simp only
   rw [look.2]
   unfold Walk2 at h1
   by_cases hw : Region.wanted o (yielded ops A'.tmps) = true
   · rw [if_pos hw] at h1 ⊢
     exact .inl (tq_wp look.1 h1 fun x w' hK => ih _ _ ⟨p + 1, inv2_next hch inv ho hr hK h2 h3 h4⟩)
   · rw [if_neg hw] at h1 ⊢
     exact ih _ _ ⟨p + 1, inv2_next hch inv ho hr h1 h2 h3 h4⟩
 intro fuel
 induction fuel with
 | zero =>
   intro listed a w hc inv
   have hall := cnt_zero ops.size hc
   refine ⟨?_, fin listed a w hall inv⟩
   rw [List.eq_nil_iff_forall_not_mem]
   intro i hi
   obtain ⟨h0, o, ho, _⟩ := mem_ready.1 hi
   have hin := (Array.getElem?_eq_some_iff.1 ho).1
   have hs : listed.size = ops.size := by rcases inv with inv | ⟨_, inv⟩ <;> exact inv.size
   have h1 := hall i hin
   unfold lst at h1
   have hsz : i < listed.size := by omega
   simp only [Array.getD_eq_getD_getElem?, Array.getElem?_eq_getElem hsz, Option.getD_some] at h0 h1
   rw [h1] at h0; cases h0
 | succ fuel ih =>
   intro listed a w hc inv
   have hs : listed.size = ops.size := by rcases inv with inv | ⟨_, inv⟩ <;> exact inv.size
   refine ⟨fun h => fin listed a w (all_of_ready hch hs h) inv, fun i hi => ?_⟩
   obtain ⟨h0, o, ho, hr⟩ := mem_ready.1 hi
   have hin := (Array.getElem?_eq_some_iff.1 ho).1
   have hun : lst listed i = false := by
     have hsz : i < listed.size := by omega
     unfold lst
     simp only [Array.getD_eq_getD_getElem?, Array.getElem?_eq_getElem hsz, Option.getD_some] at h0 ⊢
     exact h0
   have hcnt : cnt (listed.setIfInBounds i true) ops.size = fuel := by
     have := cnt_set (listed := listed) (by omega) hun ops.size
     rw [if_pos hin] at this; omega
   have ih2 : ∀ a' w', (∃ q, Inv2 P ops (Q .normal) m late news a0 v q (listed.setIfInBounds i true) a' w') → wpAny P .any ops Q fuel (listed.setIfInBounds i true) a' w' := fun a' w' h => ih _ _ _ hcnt (.inr h)
   rcases inv with inv | ⟨p, inv⟩
   · rcases Nat.lt_or_ge i m with him | him
     · obtain ⟨nv, lo, hi', hdn, hl⟩ := look1 hch hc2 hA0 hst1 inv him ho hr hun
       have look := look_same (ops := ops) (o := o) (a := a) (a' := putL nv (depOf deps i) (A i)) (fun cs b => Region.noSelect_spec hsel i o cs b ho) hl
       have hd : dstOf ops i = o.dst := by simp [dstOf, ho]
       unfold wpOp
       rw [ho]
       simp only
       rw [look.2]
       cases hn : news.contains i
       · obtain ⟨_, o', ho', hfix⟩ := (hstep i him).2 hn
         rw [ho] at ho'; cases ho'
         rcases hfix with hq | ⟨hw, hv⟩
         · obtain ⟨hw, hq⟩ := depN_inst _ _ hdn (hq w (.inr inv.gr))
           rw [if_pos hw]
           exact .inl (gq_wp look.1 hq fun w' hg => ih _ _ _ hcnt (.inl (inv1_fix hch hstable inv him ho hr hn hg)))
         · have hw := depN_inst _ _ hdn (hw w (.inr inv.gr))
           rw [if_neg (by rw [hw]; simp), ← hv]
           exact ih _ _ _ hcnt (.inl (inv1_fix hch hstable inv him ho hr hn (Gr.refl w)))
       · obtain ⟨_, o', ho', _, hq⟩ := (hstep i him).1 hn
         rw [ho] at ho'; cases ho'
         obtain ⟨hw, hq⟩ := depN_inst _ _ hdn (hq w inv.gr)
         rw [if_pos hw]
         exact .inl (nq_wp look.1 hq fun x w' hg hN => ih _ _ _ hcnt (.inl (inv1_new hch hstable inv him ho hr hun hn hg hN)))
     · have him2 : i = m := by
         rcases hchain' i hin with h | h
         · omega
         · by_cases hne : i = m
           · exact hne
           · have := listed_of_bef hch inv.closed i o ho hr (i - 1) h (by omega)
             rw [inv.later (i - 1) (by omega)] at this; cases this
       subst him2
       have hall : ∀ j, j < i → late.contains j = false → lst listed j = true := fun j hj hlj => by
         rcases hcm with h | h
         · omega
         · rcases h j hj with h | h
           · rw [hlj] at h; cases h
           · exact listed_of_bef hch inv.closed i o ho hr j h (by omega)
       exact chain fuel listed a w i o ih2 (inv2_start hch hc2 hA0 hst1 inv hall (hend w inv.gr)) ho hr
   · rcases Nat.lt_or_ge i m with him | him
     · have hl : late.contains i = true := by
         cases h : late.contains i
         · rw [inv.head i him h] at hun; cases hun
         · rfl
       obtain ⟨hn, hdep⟩ := hlp i hl
       have hd : dstOf ops i = o.dst := by simp [dstOf, ho]
       obtain ⟨A', h1, h2, h3, h4⟩ := inv.ideal
       obtain ⟨g1, g2, g3⟩ := acts_reg hch hst1 i (Nat.le_of_lt him)
       rw [hA0] at g1 g2 g3
       have hl1 : ∀ t ∈ o.looksAt ops, a.tmps[t]? = (A i).tmps[t]? := by
         intro t ht
         rcases Nat.lt_or_ge t a0.tmps.size with h | h
         · obtain ⟨c1, c2, c3, c4⟩ := h4 t h
           by_cases hex : ∃ j, dstOf ops j = some t
           · obtain ⟨j, hj⟩ := hex
             rcases ((chk_pair hch ho (dst_lt hj)).2 t hj).2 ht with ⟨hji, hb⟩ | ⟨hij, hb⟩
             · have hlj := listed_of_bef hch inv.closed i o ho hr j hb (dst_lt hj)
               have hnj : news.contains j = false := by
                 cases hnj : news.contains j
                 · rfl
                 · have h5 := (hlk i o him ho).1 j t hnj hj ht
                   rw [hdep] at h5; cases h5
               rw [c2 (fun j' _ _ hun' hd' => by rw [uniq hch hd' hj, hlj] at hun'; cases hun'), c3 j (by omega) hnj hj, (g3 t h).1 j hji hnj hj]
             · have hlj : lst listed j = false := by
                 cases hlj : lst listed j
                 · rfl
                 · obtain ⟨oj, hoj⟩ : ∃ oj, ops[j]? = some oj := ⟨ops[j]'(dst_lt hj), Array.getElem?_eq_getElem _⟩
                   have := listed_of_bef hch inv.closed j oj hoj (fun e he hbb => inv.closed j oj hoj hlj e he hbb) i hb hin
                   rw [hun] at this; cases this
               have hA : (A i).tmps[t]? = a0.tmps[t]? := (g3 t h).2 fun j' hj' _ hd' => by rw [uniq hch hd' hj] at hj'; omega
               rw [hA]
               rcases Nat.lt_or_ge j m with hjm | hjm
               · have hlate2 : late.contains j = true := by
                   cases h6 : late.contains j
                   · rw [inv.head j hjm h6] at hlj; cases hlj
                   · rfl
                 exact c1 j hjm hlate2 hlj hj
               · have hjp : p ≤ j := by
                   rcases Nat.lt_or_ge j p with h6 | h6
                   · rw [inv.done j hjm h6] at hlj; cases hlj
                   · exact h6
                 rw [c2 (fun j' hj' _ _ hd' => by have := uniq hch hd' hj; omega), c4 fun j' hj' hd' => by have := uniq hch hd' hj; omega]
           · rw [c2 (fun j' _ _ _ hd' => hex ⟨j', hd'⟩), c4 (fun j' _ hd' => hex ⟨j', hd'⟩), (g3 t h).2 fun j' _ _ hd' => hex ⟨j', hd'⟩]
         · rw [Array.getElem?_eq_none (by rw [inv.sz]; exact h), Array.getElem?_eq_none (by rw [g2]; exact h)]
       have look := look_same (ops := ops) (o := o) (a := a) (a' := A i) (fun cs b => Region.noSelect_spec hsel i o cs b ho) hl1
       obtain ⟨_, o', ho', hfix⟩ := (hstep i him).2 hn
       rw [ho] at ho'; cases ho'
       unfold wpOp
       rw [ho]
       simp only
       rw [look.2]
       rcases hfix with hq | ⟨hw, hv⟩
       · have hq1 := hq w (.inl hl)
         rw [hdep] at hq1
         obtain ⟨hw, hq'⟩ := hq1
         rw [if_pos hw]
         rw [hl] at hq'
         exact .inl (gq_late look.1 hq' (ih2 _ _ ⟨p, inv2_late hch hc2 inv him hl ho hr⟩))
       · have hw1 := hw w (.inl hl)
         rw [hdep] at hw1
         have hw2 : Region.wanted o (yielded ops (A i).tmps) = false := hw1
         rw [if_neg (by rw [hw2]; simp), ← hv]
         exact ih2 _ _ ⟨p, inv2_late hch hc2 inv him hl ho hr⟩
     · have hip : i = p := by
         rcases Nat.lt_or_ge i p with h | h
         · rw [inv.done i him h] at hun; cases hun
         · by_cases hne : i = p
           · exact hne
           · have hmp := inv.mp
             rcases hchain' i hin with h5 | h5
             · omega
             · have := listed_of_bef hch inv.closed i o ho hr (i - 1) h5 (by omega)
               rw [inv.todo (i - 1) (by omega)] at this; cases this
       subst hip
       exact chain fuel listed a w i o ih2 inv ho hr
end
variable {Q : Act → List (Option Tmp × NPred) → Prop} {o : Oper} {r : List Oper} {k : Nat} {a : Act} {L : List (Option Tmp × NPred)}
theorem walk1_nil (h : Q a L) : Walk1 P ops W late news N deps Q [] k a L := h
theorem walk1_no (hn : news.contains k = false) (hd : depOf deps k = []) (hw : Region.wanted o (yielded ops a.tmps) = false)
   (h : ∀ K : Act → Prop, (∀ a', Walk1 P ops W late news N deps Q r (k + 1) a' L → K a') → K (a.put o.dst undef)) : Walk1 P ops W late news N deps Q (o :: r) k a L := by
 have h := h _ (fun _ h => h)
 unfold Walk1; rw [if_neg (by rw [hn]; simp), hd]; exact .inr ⟨fun _ _ => hw, h⟩
theorem walk1_gr (hn : news.contains k = false) (hl : late.contains k = false) (hd : depOf deps k = []) (hw : Region.wanted o (yielded ops a.tmps) = true)
   (h : ∀ K : Act → Prop, (∀ a', Walk1 P ops W late news N deps Q r (k + 1) a' L → K a') → ∃ v, (∀ w, Gr W w → gq P o a w v false) ∧ K (a.put o.dst v)) : Walk1 P ops W late news N deps Q (o :: r) k a L := by
 obtain ⟨v, hq, h⟩ := h _ (fun _ h => h)
 unfold Walk1; rw [if_neg (by rw [hn]; simp), hd]; exact .inl ⟨v, fun w hw' => ⟨hw, by rw [hl]; exact hq w (hw'.resolve_left (by rw [hl]; simp))⟩, h⟩
theorem walk1_pure (hn : news.contains k = false) (hl : late.contains k = true) (hd : depOf deps k = []) (hw : Region.wanted o (yielded ops a.tmps) = true)
   (h : ∀ K : Act → Prop, (∀ a', Walk1 P ops W late news N deps Q r (k + 1) a' L → K a') → ∃ v, (∀ w, gq P o a w v true) ∧ K (a.put o.dst v)) : Walk1 P ops W late news N deps Q (o :: r) k a L := by
 obtain ⟨v, hq, h⟩ := h _ (fun _ h => h)
 unfold Walk1; rw [if_neg (by rw [hn]; simp), hd]; exact .inl ⟨v, fun w _ => ⟨hw, by rw [hl]; exact hq w⟩, h⟩
theorem walk1_dep (v : Value) (hn : news.contains k = false) (hl : late.contains k = false)
   (hq : ∀ w, Gr W w → DepN N w (fun a' => Region.wanted o (yielded ops a'.tmps) = true ∧ gq P o a' w v false) (depOf deps k) a)
   (h : Walk1 P ops W late news N deps Q r (k + 1) (a.put o.dst v) L) : Walk1 P ops W late news N deps Q (o :: r) k a L := by
 unfold Walk1; rw [if_neg (by rw [hn]; simp)]; exact .inl ⟨v, fun w hw' => by rw [hl]; exact hq w (hw'.resolve_left (by rw [hl]; simp)), h⟩
theorem walk1_new (hn : news.contains k = true) (hs : Stable (N k))
   (hq : ∀ w, Gr W w → DepN N w (fun a' => Region.wanted o (yielded ops a'.tmps) = true ∧ nq P o a' w (N k)) (depOf deps k) a)
   (h : Walk1 P ops W late news N deps Q r (k + 1) a (L ++ [(o.dst, N k)])) : Walk1 P ops W late news N deps Q (o :: r) k a L := by
 unfold Walk1; rw [if_pos hn]; exact ⟨hs, hq, h⟩
theorem walk1_new0 (N' : NPred) (hn : news.contains k = true) (hN : N k = N') (hd : depOf deps k = []) (hw : Region.wanted o (yielded ops a.tmps) = true) (hs : Stable N') (hq : ∀ w, Gr W w → nq P o a w N')
   (h : Walk1 P ops W late news N deps Q r (k + 1) a (L ++ [(o.dst, N')])) : Walk1 P ops W late news N deps Q (o :: r) k a L := by
 subst hN
 refine walk1_new hn hs (fun w hw' => ?_) h
 rw [hd]; exact ⟨hw, hq w hw'⟩
theorem walk1_new1 (N' N1 : NPred) (k1 : Nat) (t1 : Tmp) (hn : news.contains k = true) (hN : N k = N') (hd : depOf deps k = [(k1, t1)]) (h1 : N k1 = N1) (hs : Stable N')
   (hq : ∀ w, Gr W w → ∀ lo1 hi1 u1, N1 lo1 hi1 u1 w → Region.wanted o (yielded ops (a.put (some t1) u1).tmps) = true ∧ nq P o (a.put (some t1) u1) w N')
   (h : Walk1 P ops W late news N deps Q r (k + 1) a (L ++ [(o.dst, N')])) : Walk1 P ops W late news N deps Q (o :: r) k a L := by
 subst hN
 subst h1
 refine walk1_new hn hs (fun w hw' => ?_) h
 rw [hd]; exact fun lo hi u hu => hq w hw' lo hi u hu
theorem walk1_dep1 (v : Value) (N1 : NPred) (k1 : Nat) (t1 : Tmp) (hn : news.contains k = false) (hl : late.contains k = false) (hd : depOf deps k = [(k1, t1)]) (h1 : N k1 = N1)
   (hq : ∀ w, Gr W w → ∀ lo1 hi1 u1, N1 lo1 hi1 u1 w → Region.wanted o (yielded ops (a.put (some t1) u1).tmps) = true ∧ gq P o (a.put (some t1) u1) w v false)
   (h : Walk1 P ops W late news N deps Q r (k + 1) (a.put o.dst v) L) : Walk1 P ops W late news N deps Q (o :: r) k a L := by
 subst h1
 refine walk1_dep v hn hl (fun w hw' => ?_) h
 rw [hd]; exact fun lo hi u hu => hq w hw' lo hi u hu
theorem wp_region_schedd {id : Nat} {Q : Exit → Act → World → Prop} {a : Act} {W : World} {l : List Oper} (m : Nat) (late news : List Nat) (N : Nat → NPred) (deps : List (Nat × List (Nat × Tmp))) (hm : P.follows .mixedOrders = true)
   (hchk : (Region.noSelect l.toArray && chk1 l.toArray (Region.before l.toArray) && chk2 l.toArray (Region.before l.toArray) m late news deps) = true)
   (h : Walk1 P l.toArray W late news N deps (fun a' L => ∀ w', Gr W w' → EndN W w' (fun a'' => Walk2 P l.toArray (Q .normal) (l.drop m) a'' w') L [] a') (l.take m) 0 a []) :
   (Code.region id l.toArray true).wp P Q a W := by
 simp only [Bool.and_eq_true] at hchk
 obtain ⟨⟨hsel, hch⟩, hc2⟩ := hchk
 have hmn : m ≤ l.length := by
   have := (chk2_parts hc2).1
   simpa using this
 have hlen : (l.take m).length = m := by simp; omega
 obtain ⟨A, v, hA0, hstep, hend⟩ := walk1_ext (l.take m) 0 a [] (fun j hj => by
   rw [hlen] at hj
   simp [hj]) h
 rw [hlen] at hstep hend
 refine wp_region_any hm (sched_any hch hc2 hsel (A := A) (v := v) (N := N) hA0 (fun i hi => hstep i (Nat.zero_le _) (by omega)) (fun w' hw' => ?_) _ _ _ _ ?_ (.inl ?_))
 · simpa using hend w' hw'
 · have : ∀ k, k ≤ l.toArray.size → cnt (Array.replicate l.toArray.size false) k = k := by
     intro k
     induction k with
     | zero => intro _; rfl
     | succ k ih =>
       intro hk
       have e : lst (Array.replicate l.toArray.size false) k = false := by
         unfold lst; simp only [Array.getD_eq_getD_getElem?]; rw [Array.getElem?_eq_getElem (by simp only [Array.size_replicate]; omega)]; simp
       simp only [cnt, e, ih (by omega)]; simp
   exact this _ (Nat.le_refl _)
 · have e : ∀ k, lst (Array.replicate l.toArray.size false) k = false := by
     intro k
     unfold lst
     simp only [Array.getD_eq_getD_getElem?, Array.getElem?_replicate]
     split <;> rfl
   have no : ∀ {k : Nat} {p : Prop}, lst (Array.replicate l.toArray.size false) k = true → p := fun {k p} h => by rw [e k] at h; cases h
   exact ⟨by simp, fun i o ho hl => no hl, fun i _ => e i, ⟨rfl, rfl, rfl, Nat.le_refl _, fun _ _ _ => rfl⟩, rfl, rfl,
     fun _ => undef, fun _ => 0, fun _ => 0, fun t ht j hj hl => no hl, fun t ht _ => rfl, fun j hj hl => no hl, fun i j _ _ _ hl _ => no hl⟩
end SchedD
end Go.Proofs.YtlnkofpcidngoaaDoor
