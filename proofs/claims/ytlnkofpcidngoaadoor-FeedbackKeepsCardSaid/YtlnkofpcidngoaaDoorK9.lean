/- Several texts in one. -/
import Derived.Test.YtlnkofpcidngoaaDoorK0
import Derived.Test.YtlnkofpcidngoaaDoorK8
import Derived.Laws.MakeOwn
import Derived.Laws.OwnMore
import Derived.Test.YtlnkofpcidngoaaDoorK1
import Derived.Test.YtlnkofpcidngoaaDoorK2
import Derived.Test.YtlnkofpcidngoaaDoorK4
namespace Go.Proofs.YtlnkofpcidngoaaDoor
open Go.ChangeShapes Go.WideShapes Go.ChangeAt Go.RowKit
def HeadI (w0 : World) (g : Nat) (h : Hdr) (xs : List Int) (wn : World) : Prop :=
 HBlk w0.heap.size h wn ∧ OwnI w0.heap.size 5 .u8 wn (some ⟨g, 0, none⟩) 40 40 xs ∧ Gr w0 wn ∧ w0.heap.size < g
theorem HeadI.turn {w0 wn w' : World} {g : Nat} {h : Hdr} {xs ys : List Int} (hI : HeadI w0 g h xs wn) (ho : OwnI w0.heap.size 5 .u8 w' (some ⟨g, 0, none⟩) 40 40 ys) (hg : wn.grownBy w' (some g)) : HeadI w0 g h ys w' := by
 obtain ⟨h1, _, h3, h4⟩ := hI
 refine ⟨?_, ho, grownBy_trans h3 hg (.inr (.inr ⟨g, rfl, by omega⟩)), h4⟩
 unfold HBlk at h1 ⊢
 rw [hg.block _ (heap_lt h1) (by simp; omega)]
 exact h1
theorem HeadI.gr {w0 wn w' : World} {g : Nat} {h : Hdr} {xs : List Int} (hI : HeadI w0 g h xs wn) (hg : Gr wn w') : HeadI w0 g h xs w' := by
 obtain ⟨h1, h2, h3, h4⟩ := hI
 exact ⟨h1.kept hg, h2.stay hg, h3.trans hg, h4⟩
theorem HeadI.set {w0 wn : World} {g : Nat} {h : Hdr} {xs : List Int} (hI : HeadI w0 g h xs wn) (i : Nat) (u : Int) (hu : 0 ≤ u ∧ u ≤ 255) : HeadI w0 g h (xs.set i u) (wn.setCell ⟨g, i, none⟩ (.int .u8 u)) :=
 hI.turn (hI.2.1.set i u (WalkArith.wf_u8 hu)) (grown_setAt wn g i _)
def NRd (n : Nat) (xs : List Int) : Sched.NPred := fun _ _ v w => ∃ (a : Option Addr) (c : Nat), v = .slice a n c ∧ Rd .i64 w a n xs
theorem NRd.stable (n : Nat) (xs : List Int) : Sched.Stable (NRd n xs) := by
 rintro lo hi v w w' ⟨a, c, h1, h2⟩ hg
 exact ⟨a, c, h1, h2.kept hg⟩
def NRow1 (f : Nat → Value) (o : Obj) : Sched.NPred := fun lo hi v w => v = f lo ∧ lo < hi ∧ w.heap[lo]? = some o
theorem NRow1.stable (f : Nat → Value) (o : Obj) : Sched.Stable (NRow1 f o) := by
 rintro lo hi v w w' ⟨h1, h2, h3⟩ hg
 exact ⟨h1, h2, by rw [hg.block lo (heap_lt h3) (by simp)]; exact h3⟩
def NOne (k : IntKind) (e : TypeId) (y : Int) : Sched.NPred := NRow1 (fun lo => .slice (some ⟨lo, 0, none⟩) 1 1) (.cells #[.int k y] e)
theorem NOne.rd {k : IntKind} {e : TypeId} {y : Int} {lo hi : Nat} {v : Value} {w : World} (h : NOne k e y lo hi v w) (hy : (Lit.int k y).wf = true) : v = .slice (some ⟨lo, 0, none⟩) 1 1 ∧ Rd k w (some ⟨lo, 0, none⟩) 1 [y] := by
 obtain ⟨h1, h2, h3⟩ := h
 refine ⟨h1, rfl, by intro z hz; simp at hz; subst hz; exact hy, by simp [maxLen], .inr ⟨lo, 0, rfl, heap_lt h3, fun i hi => ?_⟩⟩
 obtain rfl : i = 0 := by omega
 rw [cell_of_block h3]; rfl
def Apart (u v : Value) : Prop := ∀ g, u.ownBlock = some g → v.ownBlock ≠ some g
theorem Apart.symm {u v : Value} (h : Apart u v) : Apart v u := fun g h1 h2 => h g h2 h1
theorem Apart.nil (v : Value) (c : Nat) : Apart (.slice none 0 c) v := by intro g h; simp [Value.ownBlock] at h
theorem Apart.grow {w : World} {u v v' : Value} (h : Apart u v) (hf : Follows w v v') (hu : ∀ g, u.ownBlock = some g → g < w.heap.size) : Apart u v' := by
 intro g h1 h2
 rcases hf with e | ⟨g', e, hg⟩
 · rw [e] at h2; exact h g h1 h2
 · rw [e] at h2
   have := hu g h1
   injection h2 with h2
   omega
theorem Sched.walk2_app {P : Program} {ops : Array Oper} {Q : Act → World → Prop} {o : Oper} {r : List Oper} {a : Act} {w : World} (hw : Region.wanted o (yielded ops a.tmps) = true) (s x : Operand) (t : TypeId)
   (ho : o.op = .call { callee := .builtin .append, args := #[s, x], argTypes := #[t, t] }) {vs vx v' : Value} {w' : World} (hs : a.eval s = vs) (hx : a.eval x = vx)
   (hrun : (Builtin.append_ #[t, t] o.type #[vs, vx]).run P w = .ok v' w') (h : Sched.Walk2 P ops Q r (a.put o.dst v') w') : Sched.Walk2 P ops Q (o :: r) a w := by
 refine Sched.walk2_go hw fun K hK => ?_
 unfold Sched.tq execOp
 simp only [ho, resolve, invoke, builtin, Sem.run_bind, Sem.run_pure, Result.andThen_ok, List.map_toArray, List.map_cons, List.map_nil, hs, hx, hrun]
 exact hK _ _ h
theorem Sched2.walk2_app {P : Program} {ops : Array Oper} {I : World → Prop} {tight : Bool} {Q : Act → World → Prop} {o : Oper} {r : List Oper} {a : Act} {w : World} (hw : Region.wanted o (yielded ops a.tmps) = true) (s x : Operand) (t : TypeId)
   (ho : o.op = .call { callee := .builtin .append, args := #[s, x], argTypes := #[t, t] }) {vs vx v' : Value} {w' : World} (hs : a.eval s = vs) (hx : a.eval x = vx)
   (hrun : (Builtin.append_ #[t, t] o.type #[vs, vx]).run P w = .ok v' w') (hI : (tight = true ∧ r = []) ∨ I w') (h : Sched2.Walk2 P ops I tight Q r (a.put o.dst v') w') : Sched2.Walk2 P ops I tight Q (o :: r) a w := by
 refine Sched2.walk2_go hw fun K hK => ?_
 unfold Sched.tq execOp
 simp only [ho, resolve, invoke, builtin, Sem.run_bind, Sem.run_pure, Result.andThen_ok, List.map_toArray, List.map_cons, List.map_nil, hs, hx, hrun]
 exact hK _ _ hI h
theorem OwnI.weak {B B' : Nat} {e : TypeId} {k : IntKind} {w : World} {a : Option Addr} {n cap : Nat} {xs : List Int} (h : OwnI B e k w a n cap xs) (hB : B' ≤ B) : OwnI B' e k w a n cap xs := by
 refine ⟨⟨h.row.1, ?_⟩, h.wf⟩
 rcases h.row.2 with ⟨hv, h0⟩ | ⟨g, cap', cur, hv, hb, hr⟩
 · exact .inl ⟨hv, h0⟩
 · exact .inr ⟨g, cap', cur, hv, by omega, hr⟩
def RowI (w0 : World) (h : Hdr) (a : Option Addr) (n cap : Nat) (xs : List Int) (wn : World) : Prop :=
 HBlk w0.heap.size h wn ∧ OwnI (w0.heap.size + 1) 5 .u8 wn a n cap xs ∧ Gr w0 wn
theorem RowI.turn {w0 wn w' : World} {h : Hdr} {a a' : Option Addr} {n n' cap cap' : Nat} {xs ys : List Int} (hI : RowI w0 h a n cap xs wn) (ho : OwnI (w0.heap.size + 1) 5 .u8 w' a' n' cap' ys) (hg : wn.grownBy w' (Value.slice a n cap).ownBlock) : RowI w0 h a' n' cap' ys w' := by
 obtain ⟨h1, h2, h3⟩ := hI
 refine ⟨?_, ho, grown_own h3 h2 (by omega) hg⟩
 unfold HBlk at h1 ⊢
 rw [hg.block _ (heap_lt h1) ?_]
 · exact h1
 · intro e
   have := (h2.below _ e.symm).1
   omega
theorem RowI.gr {w0 wn w' : World} {h : Hdr} {a : Option Addr} {n cap : Nat} {xs : List Int} (hI : RowI w0 h a n cap xs wn) (hg : Gr wn w') : RowI w0 h a n cap xs w' :=
 ⟨hI.1.kept hg, hI.2.1.stay hg, hI.2.2.trans hg⟩
theorem RowI.le {w0 wn : World} {h : Hdr} {a : Option Addr} {n cap : Nat} {xs : List Int} (hI : RowI w0 h a n cap xs wn) : w0.heap.size + 1 ≤ wn.heap.size := heap_lt hI.1
theorem RowI.put {w0 wn : World} {h : Hdr} {a : Option Addr} {n cap : Nat} {xs : List Int} (hI : RowI w0 h a n cap xs wn) (K : Int) (k N : Nat) (x : Int) (hK : K = k) (hN : N = n + k) (hn : n ≤ 2000) (hk : k ≤ 7) :
   Calls Tryd.prog 51 #[.slice a n cap, .int .i64 K, .int .i64 x] wn fun e w' => ∃ a' cap', e = .returned (.slice a' N cap') ∧ RowI w0 h a' N cap' (xs ++ putR x k) w' := by
 refine (put_any _ a n cap xs K k x wn hK hI.2.1 (by omega) hk hI.le).mono ?_
 rintro e w' ⟨a', cap', n', e1, e2, ho, hg, _⟩
 subst hN
 subst e1
 exact ⟨a', cap', e2, hI.turn ho hg⟩
theorem own_lit (B : Nat) (w : World) (xs : List Int) (n : Nat) (hB : B ≤ w.heap.size) (hn : xs.length = n) (hm : n ≤ 100) (hb : bytesOk xs) : OwnI B 5 .u8 (w.alloc (.cells (xs.map (Value.int .u8)).toArray 5)) (some ⟨w.heap.size, 0, none⟩) n n xs := by
 refine ⟨?_, fun y hy => WalkArith.wf_u8 (hb y hy)⟩
 subst hn
 have h := World.ownsRow_lit (base := B) (e := 5) (size := 1) w (xs.map (Value.int .u8)).toArray xs.length hB (by simp only [maxLen]; omega) (by simp)
 exact h
theorem RowI.app {w0 wn : World} {h : Hdr} {a : Option Addr} {n cap : Nat} {xs : List Int} (hI : RowI w0 h a n cap xs wn) (b : Option Addr) (m c : Nat) (ys : List Int) (N : Nat) (hN : N = n + m) (hr : Rd .u8 wn b m ys) (hn : n ≤ 2000) (hm : m ≤ 2000) :
   ∃ a' cap' w', (Builtin.append_ #[39, 39] 39 #[.slice a n cap, .slice b m c]).run Tryd.prog wn = .ok (.slice a' N cap') w' ∧ RowI w0 h a' N cap' (xs ++ ys) w' := by
 subst hN
 obtain ⟨a', cap', w', h1, h2, h3, _⟩ := app_u8 _ wn a n cap xs hI.2.1 b m c ys hr (by omega) hI.le
 exact ⟨a', cap', w', h1, hI.turn h2 h3⟩
def rl1 (h : Hdr) : List Int := [69, h.tos, 0, 0] ++ putR h.id 2
def rl2 (h : Hdr) : List Int := rl1 h ++ [64 * h.fixed, 0, h.ttl, 17, 0, 0]
def rl3 (h : Hdr) : List Int := rl2 h ++ putR h.frm 4 ++ putR h.to 4 ++ putR h.fport 2 ++ putR h.tport 2 ++ [0, 0] ++ putR h.check 2
def rl4 (h : Hdr) : List Int := rl3 h ++ [128, 128 * h.marker + h.type] ++ putR h.seq 2 ++ putR h.time 4 ++ putR h.source 4
theorem rl3_head {h : Hdr} (hk : h.kind = 1) : rl3 h = headL h := by
 simp only [rl3, rl2, rl1, headL, if_neg (show ¬ h.kind = 2 by omega), List.append_assoc, List.append_nil]
theorem rl4_head {h : Hdr} (hk : h.kind = 2) : rl4 h = headL h := by
 simp only [rl4, rl3, rl2, rl1, headL, if_pos hk, List.append_assoc]
set_option maxRecDepth 100000 in
set_option maxHeartbeats 4000000 in
theorem rhead_yes (h : Hdr) (w : World) (hv : validH h = true) : Calls Tryd.prog 82 #[HVal h] w fun e w' => ∃ a n cap, e = .returned (.slice a n cap) ∧ n = (headL h).length ∧ OwnI w.heap.size 5 .u8 w' a n cap (headL h) ∧ Gr w w' := by
 have HV := zqd hv
 obtain ⟨hk, ⟨t1, t2⟩, ⟨l1, l2⟩, _, _, _, _, ⟨x1, x2⟩, _, _, hk1, hk2⟩ := valid_all hv
 have HK1 := zqd hk1
 have HK2 := zqd hk2
 have HK := zqd hk
 clear hv hk1 hk2 hk
 go_enter Tryd.func82, Tryd.ntmps82
 go_upto_region 1 with (fail)
 obtain ⟨w1, hw1⟩ : ∃ y, y = w.alloc (.cells (HCells h).toArray 49) := ⟨_, rfl⟩
 have hb1 : HBlk w.heap.size h w1 := by rw [hw1]; exact heap_alloc_new _ _
 have hg1 : Gr w w1 := by rw [hw1]; exact Gr.alloc _ _
 have hz1 : w.heap.size < w1.heap.size := heap_lt hb1
 simp only [HCells] at hw1
 rw [← hw1]
 have hb1' := hb1
 unfold HBlk at hb1'
 have HB1 := zqd hb1
 have HB1' := zqd hb1'
 have HG1 := zqd hg1
 clear hw1 hb1 hb1' hg1
 go_wp2_with (first | (refine wpList_load_row rfl 49 _ rfl w.heap.size rfl 49 _ _ _ HB1'.out Tryd.underlying49 rfl (by kernel_rfl) ?_))
 refine (rvalid_is HV.out w1).mono ?_
 rintro e w2 ⟨rfl, hg2⟩
 have hs2 : w.heap.size + 1 ≤ w2.heap.size := by have := hg2.size; omega
 have hb2 := HB1.out.kept hg2
 have c1 := hb2.at 1 rfl
 have H3 : HBlk w.heap.size h w2 ∧ Gr w w2 := ⟨hb2, HG1.out.trans hg2⟩
 have H2 := zqd H3
 clear hg2 HB1 HB1' HG1 H3 hb2 hz1
 go_upto_region 4 with (fail)
 obtain ⟨w3, hw3⟩ : ∃ y, y = w2.alloc (.cells ([69, h.tos, 0, 0].map (Value.int .u8)).toArray 5) := ⟨_, rfl⟩
 have hbs : bytesOk [69, h.tos, 0, 0] := by
   intro y hy
   simp only [List.mem_cons, List.not_mem_nil, or_false] at hy
   rcases hy with rfl | rfl | rfl | rfl <;> omega
 have H3 := zqd (show RowI w h (some ⟨w2.heap.size, 0, none⟩) 4 4 [69, h.tos, 0, 0] w3 by
   have hal : Gr w2 w3 := by rw [hw3]; exact Gr.alloc _ _
   exact ⟨H2.out.1.kept hal, by rw [hw3]; exact own_lit _ w2 [69, h.tos, 0, 0] 4 hs2 rfl (by omega) hbs, H2.out.2.trans hal⟩)
 simp only [List.map_cons, List.map_nil] at hw3
 first | rw [← hw3] | (go_show; fail)
 clear hw3 hbs c1 hs2 H2
 have c2 := H3.out.1.at 2 rfl
 go_wp2_with fail
 refine (H3.out.put 2 2 6 _ rfl rfl (by omega) (by omega)).mono ?_
 rintro e w4 ⟨a4, cap4, rfl, hr4⟩
 have H4 := zqd (show RowI w h a4 6 cap4 (rl1 h) w4 from hr4)
 clear hr4 c2 H3
 have c3 := H4.out.1.at 3 rfl
 have c4 := H4.out.1.at 4 rfl
 have hrd := rd_new (k := .u8) (w := w4) [64 * h.fixed, 0, h.ttl, 17, 0, 0] 5 (0, 0) 6 rfl (by simp [maxLen]) (by
   intro z hz
   simp only [List.mem_cons, List.not_mem_nil, or_false] at hz
   rcases hz with rfl | rfl | rfl | rfl | rfl | rfl <;> exact WalkArith.wf_u8 (by omega))
 obtain ⟨a5, cap5, w5, hrun, hr5⟩ := (H4.out.gr (Gr.alloc w4 (.cells ([64 * h.fixed, 0, h.ttl, 17, 0, 0].map (Value.int .u8)).toArray 5))).app _ 6 6 _ 12 rfl hrd (by omega) (by omega)
 simp only [List.map_cons, List.map_nil] at hrun
 have HR := zqd hrun
 have H5 := zqd (show RowI w h a5 12 cap5 (rl2 h) w5 from hr5)
 clear hrun hrd hr5
 go_upto_region 6 with (at_builtin; refine wpList_app rfl _ _ _ rfl rfl rfl HR.out ?_)
 clear HR c3 c4 H4
 have hI : ∀ u, Gr w5 u → u.cell? ⟨w.heap.size, 6, none⟩ = some (.int .i64 h.to) := fun u hu => ((H5).out.gr hu).1.at 6 rfl
 have hI1 : ∀ u, Gr w5 u → u.cell? ⟨w.heap.size, 5, none⟩ = some (.int .i64 h.frm) := fun u hu => ((H5).out.gr hu).1.at 5 rfl
 go_upto_region 6 with (fail)
 refine Sched2.wp_region_sched (fun u => u.cell? ⟨w.heap.size, 6, none⟩ = some (.int .i64 h.to)) [4, 5] [] [3, 6, 7] true hI (by kernel_rfl) (by kernel_rfl) ?_
 repeat (first | (refine Sched2.walk1_ord rfl ?_) | (refine Sched2.walk1_no rfl rfl rfl (fun K hK => ?_); simp only [Act.put, zqa, zqb, zqc]; refine hK _ ?_; clear hK K) | (refine Sched2.walk1_gr rfl rfl rfl rfl (fun K hK => ?_); apply Exists.intro; refine ⟨fun w1 hw1 => ?_, ?_⟩; (focus (go_simp; (try go_ints); (try (simp only [IntWalk.iteOmega]; go_simp)); first | done | fail | (with_reducible rfl) | (with_reducible exact ⟨rfl, rfl⟩))); simp only [Act.put, zqa, zqb, zqc]; refine hK _ ?_; clear hK K) | (refine Sched2.walk1_late rfl rfl rfl rfl (fun K hK => ?_); apply Exists.intro; refine ⟨fun w1 hw1 => ?_, ?_⟩; (focus (go_simp; (try go_ints); (try (simp only [IntWalk.iteOmega]; go_simp)); first | done | fail | (with_reducible rfl) | (with_reducible exact ⟨rfl, rfl⟩))); simp only [Act.put, zqa, zqb, zqc]; refine hK _ ?_; clear hK K) | (refine Sched2.walk1_box rfl rfl rfl ?_; apply Exists.intro; refine ⟨fun w1 hw1 => ?_, ?_⟩; (focus (go_simp; exact ⟨Gr.alloc _ _, rfl, by simp, heap_alloc_new _ _⟩))))
 refine Sched2.walk1_nil ?_
 intro wq hwq
 have HQ := zqd ((H5).out.gr hwq)
 clear hwq hI hI1
 dsimp only [Sched.EndN, List.nil_append, List.cons_append, Act.put]
 (try simp only [zqa, zqb, zqc])
 simp only [Sched2.lasts, List.filterMap_cons, List.filterMap_nil, List.getElem?_toArray, List.getElem?_cons_succ, List.getElem?_cons_zero]
 repeat (first | (refine Sched2.walk2_no rfl (fun K hK => ?_); simp only [Act.put, zqa, zqb, zqc]; refine hK _ ?_; clear hK K) | (refine Sched2.walk2_go rfl (fun K hK => ?_); go_simp; (try go_ints); (try (simp only [IntWalk.iteOmega]; go_simp)); first | (refine hK _ _ (by first | exact .inl ⟨rfl, rfl⟩ | exact .inr ((by assumption))) ?_; clear hK K) | (go_at_call 51; ((with_reducible refine (HQ.out.put 4 4 16 _ rfl rfl (by omega) (by omega)).mono ?_)); rintro e wm ⟨am, cm, rfl, hrm⟩; have HM := zqd hrm; have him := hrm.1.at 6 rfl; clear hrm; refine ⟨_, rfl, ?_⟩; refine hK _ _ (.inr him) ?_; clear hK K) | (go_at_call 51; ((with_reducible refine (HM.out.put 4 4 20 _ rfl rfl (by omega) (by omega)).mono ?_)); rintro e w6 ⟨a6, cap6, rfl, hrm2⟩; have H6 := zqd hrm2; have him2 := hrm2.1.at 6 rfl; clear hrm2 him; refine ⟨_, rfl, ?_⟩; refine hK _ _ (.inr him2) ?_; clear hK K him2)))
 refine Sched2.walk2_nil ?_
 clear H5 HQ HM
 have hI : ∀ u, Gr w6 u → u.cell? ⟨w.heap.size, 8, none⟩ = some (.int .i64 h.tport) := fun u hu => ((H6).out.gr hu).1.at 8 rfl
 have hI1 : ∀ u, Gr w6 u → u.cell? ⟨w.heap.size, 7, none⟩ = some (.int .i64 h.fport) := fun u hu => ((H6).out.gr hu).1.at 7 rfl
 go_upto_region 7 with (fail)
 refine Sched2.wp_region_sched (fun u => u.cell? ⟨w.heap.size, 8, none⟩ = some (.int .i64 h.tport)) [4, 5] [] [3, 6, 7] true hI (by kernel_rfl) (by kernel_rfl) ?_
 repeat (first | (refine Sched2.walk1_ord rfl ?_) | (refine Sched2.walk1_no rfl rfl rfl (fun K hK => ?_); simp only [Act.put, zqa, zqb, zqc]; refine hK _ ?_; clear hK K) | (refine Sched2.walk1_gr rfl rfl rfl rfl (fun K hK => ?_); apply Exists.intro; refine ⟨fun w1 hw1 => ?_, ?_⟩; (focus (go_simp; (try go_ints); (try (simp only [IntWalk.iteOmega]; go_simp)); first | done | fail | (with_reducible rfl) | (with_reducible exact ⟨rfl, rfl⟩))); simp only [Act.put, zqa, zqb, zqc]; refine hK _ ?_; clear hK K) | (refine Sched2.walk1_late rfl rfl rfl rfl (fun K hK => ?_); apply Exists.intro; refine ⟨fun w1 hw1 => ?_, ?_⟩; (focus (go_simp; (try go_ints); (try (simp only [IntWalk.iteOmega]; go_simp)); first | done | fail | (with_reducible rfl) | (with_reducible exact ⟨rfl, rfl⟩))); simp only [Act.put, zqa, zqb, zqc]; refine hK _ ?_; clear hK K) | (refine Sched2.walk1_box rfl rfl rfl ?_; apply Exists.intro; refine ⟨fun w1 hw1 => ?_, ?_⟩; (focus (go_simp; exact ⟨Gr.alloc _ _, rfl, by simp, heap_alloc_new _ _⟩))))
 refine Sched2.walk1_nil ?_
 intro wq hwq
 have HQ := zqd ((H6).out.gr hwq)
 clear hwq hI hI1
 dsimp only [Sched.EndN, List.nil_append, List.cons_append, Act.put]
 (try simp only [zqa, zqb, zqc])
 simp only [Sched2.lasts, List.filterMap_cons, List.filterMap_nil, List.getElem?_toArray, List.getElem?_cons_succ, List.getElem?_cons_zero]
 repeat (first | (refine Sched2.walk2_no rfl (fun K hK => ?_); simp only [Act.put, zqa, zqb, zqc]; refine hK _ ?_; clear hK K) | (refine Sched2.walk2_go rfl (fun K hK => ?_); go_simp; (try go_ints); (try (simp only [IntWalk.iteOmega]; go_simp)); first | (refine hK _ _ (by first | exact .inl ⟨rfl, rfl⟩ | exact .inr ((by assumption))) ?_; clear hK K) | (go_at_call 51; ((with_reducible refine (HQ.out.put 2 2 22 _ rfl rfl (by omega) (by omega)).mono ?_)); rintro e wm ⟨am, cm, rfl, hrm⟩; have HM := zqd hrm; have him := hrm.1.at 8 rfl; clear hrm; refine ⟨_, rfl, ?_⟩; refine hK _ _ (.inr him) ?_; clear hK K) | (go_at_call 51; ((with_reducible refine (HM.out.put 2 2 24 _ rfl rfl (by omega) (by omega)).mono ?_)); rintro e w7 ⟨a7, cap7, rfl, hrm2⟩; have H7 := zqd hrm2; have him2 := hrm2.1.at 8 rfl; clear hrm2 him; refine ⟨_, rfl, ?_⟩; refine hK _ _ (.inr him2) ?_; clear hK K him2)))
 refine Sched2.walk2_nil ?_
 clear H6 HQ HM
 have hI : ∀ u, Gr w7 u → u.cell? ⟨w.heap.size, 9, none⟩ = some (.int .i64 h.check) := fun u hu => (H7.out.gr hu).1.at 9 rfl
 go_upto_region 8 with (fail)
 refine Sched2.wp_region_sched (fun u => u.cell? ⟨w.heap.size, 9, none⟩ = some (.int .i64 h.check)) [3, 4] [1] [2, 5, 6] true hI (by kernel_rfl) (by kernel_rfl) ?_
 repeat (first | (refine Sched2.walk1_ord rfl ?_) | (refine Sched2.walk1_no rfl rfl rfl (fun K hK => ?_); simp only [Act.put, zqa, zqb, zqc]; refine hK _ ?_; clear hK K) | (refine Sched2.walk1_gr rfl rfl rfl rfl (fun K hK => ?_); apply Exists.intro; refine ⟨fun w1 hw1 => ?_, ?_⟩; (focus (go_simp; (try go_ints); (try (simp only [IntWalk.iteOmega]; go_simp)); first | done | fail | (with_reducible rfl) | (with_reducible exact ⟨rfl, rfl⟩))); simp only [Act.put, zqa, zqb, zqc]; refine hK _ ?_; clear hK K) | (refine Sched2.walk1_late rfl rfl rfl rfl (fun K hK => ?_); apply Exists.intro; refine ⟨fun w1 hw1 => ?_, ?_⟩; (focus (go_simp; (try go_ints); (try (simp only [IntWalk.iteOmega]; go_simp)); first | done | fail | (with_reducible rfl) | (with_reducible exact ⟨rfl, rfl⟩))); simp only [Act.put, zqa, zqb, zqc]; refine hK _ ?_; clear hK K) | (refine Sched2.walk1_box rfl rfl rfl ?_; apply Exists.intro; refine ⟨fun w1 hw1 => ?_, ?_⟩; (focus (go_simp; exact ⟨Gr.alloc _ _, rfl, by simp, heap_alloc_new _ _⟩))))
 refine Sched2.walk1_new (NRow1 (fun lo => .slice (some ⟨lo, 0, none⟩) 2 2) (.cells #[.int .u8 0, .int .u8 0] 5)) rfl rfl rfl (NRow1.stable _ _) (fun u hu => ?_) ?_
 · go_simp
   exact ⟨Gr.alloc _ _, rfl, by simp, heap_alloc_new _ _⟩
 repeat (first | (refine Sched2.walk1_ord rfl ?_) | (refine Sched2.walk1_no rfl rfl rfl (fun K hK => ?_); simp only [Act.put, zqa, zqb, zqc]; refine hK _ ?_; clear hK K) | (refine Sched2.walk1_gr rfl rfl rfl rfl (fun K hK => ?_); apply Exists.intro; refine ⟨fun w1 hw1 => ?_, ?_⟩; (focus (go_simp; (try go_ints); (try (simp only [IntWalk.iteOmega]; go_simp)); first | done | fail | (with_reducible rfl) | (with_reducible exact ⟨rfl, rfl⟩))); simp only [Act.put, zqa, zqb, zqc]; refine hK _ ?_; clear hK K) | (refine Sched2.walk1_late rfl rfl rfl rfl (fun K hK => ?_); apply Exists.intro; refine ⟨fun w1 hw1 => ?_, ?_⟩; (focus (go_simp; (try go_ints); (try (simp only [IntWalk.iteOmega]; go_simp)); first | done | fail | (with_reducible rfl) | (with_reducible exact ⟨rfl, rfl⟩))); simp only [Act.put, zqa, zqb, zqc]; refine hK _ ?_; clear hK K) | (refine Sched2.walk1_box rfl rfl rfl ?_; apply Exists.intro; refine ⟨fun w1 hw1 => ?_, ?_⟩; (focus (go_simp; exact ⟨Gr.alloc _ _, rfl, by simp, heap_alloc_new _ _⟩))))
 refine Sched2.walk1_nil ?_
 intro wq hwq
 dsimp only [Sched.EndN, List.nil_append, List.cons_append, Act.put]
 rintro lo hi v ⟨rfl, hlt, hblk⟩ hlo - - -
 have hrd : Rd .u8 wq (some ⟨lo, 0, none⟩) 2 [0, 0] := ⟨rfl, by intro z hz; simp at hz; subst hz; exact WalkArith.wf_u8 (by omega), by simp [maxLen], .inr ⟨lo, 0, rfl, heap_lt hblk, fun i hi => by
   rw [cell_of_block hblk]
   obtain rfl | rfl : i = 0 ∨ i = 1 := by omega
   · rfl
   · rfl⟩⟩
 obtain ⟨a8, cap8, w8, hrun, hr8⟩ := (H7.out.gr hwq).app _ 2 2 _ 26 rfl hrd (by omega) (by omega)
 have H8 := zqd hr8
 have hi8 : w8.cell? ⟨w.heap.size, 9, none⟩ = some (.int .i64 h.check) := hr8.1.at 9 rfl
 clear hr8 hrd hblk hlt hlo hwq hI H7
 (try simp only [zqa, zqb, zqc])
 simp only [Sched2.lasts, List.filterMap_cons, List.filterMap_nil, List.getElem?_toArray, List.getElem?_cons_succ, List.getElem?_cons_zero]
 refine Sched2.walk2_app rfl _ _ _ rfl rfl rfl hrun ?_ ?_
 · exact .inr hi8
 clear hrun
 dsimp only [Act.put]
 (try simp only [zqa, zqb, zqc])
 repeat (first | (refine Sched2.walk2_no rfl (fun K hK => ?_); simp only [Act.put, zqa, zqb, zqc]; refine hK _ ?_; clear hK K) | (refine Sched2.walk2_go rfl (fun K hK => ?_); go_simp; (try go_ints); (try (simp only [IntWalk.iteOmega]; go_simp)); first | (refine hK _ _ (by first | exact .inl ⟨rfl, rfl⟩ | exact .inr ((by assumption))) ?_; clear hK K) | (go_at_call 51; ((with_reducible refine (H8.out.put 2 2 28 _ rfl rfl (by omega) (by omega)).mono ?_)); rintro e w9 ⟨a9, cap9, rfl, hrm⟩; have H9 := zqd (show RowI w h a9 28 cap9 (rl3 h) w9 from hrm); have hi9 : w9.cell? ⟨w.heap.size, 9, none⟩ = some (.int .i64 h.check) := hrm.1.at 9 rfl; clear hrm hi8; refine ⟨_, rfl, ?_⟩; refine hK _ _ (.inr hi9) ?_; clear hK K hi9)))
 refine Sched2.walk2_nil ?_
 clear H8
 have c0 := H9.out.1.at 0 rfl
 rcases HK.out with hk | hk
 · have hkb : (h.kind == 2) = false := by rw [hk]; rfl
   have HKK := zqd hk
   clear hk
   go_wp2_with fail
   go_ret
   have e := rl3_head HKK.out
   refine ⟨a9, 28, cap9, rfl, by rw [headL_len, if_neg (by have := HKK.out; omega)], ?_, H9.out.2.2⟩
   rw [← e]
   exact H9.out.2.1.weak (by omega)
 · have hkb : (h.kind == 2) = true := by rw [hk]; rfl
   obtain ⟨⟨m1, m2⟩, ⟨y1, y2⟩, _⟩ := HK2.out hk
   have HKK := zqd hk
   clear hk
   have c10 := H9.out.1.at 10 rfl
   have c11 := H9.out.1.at 11 rfl
   have hrd := rd_new (k := .u8) (w := w9) [128, 128 * h.marker + h.type] 5 (0, 0) 2 rfl (by simp [maxLen]) (by
     intro z hz
     simp only [List.mem_cons, List.not_mem_nil, or_false] at hz
     rcases hz with rfl | rfl <;> exact WalkArith.wf_u8 (by omega))
   obtain ⟨a10, cap10, w10, hrun, hr10⟩ := (H9.out.gr (Gr.alloc w9 (.cells ([128, 128 * h.marker + h.type].map (Value.int .u8)).toArray 5))).app _ 2 2 _ 30 rfl hrd (by omega) (by omega)
   simp only [List.map_cons, List.map_nil] at hrun
   have HR := zqd hrun
   have H10 := zqd hr10
   clear hrun hrd hr10
   go_upto_region 11 with (at_builtin; refine wpList_app rfl _ _ _ rfl rfl rfl HR.out ?_)
   clear HR c0 c10 c11 H9
   have hI : ∀ u, Gr w10 u → u.cell? ⟨w.heap.size, 13, none⟩ = some (.int .i64 h.time) ∧ u.cell? ⟨w.heap.size, 14, none⟩ = some (.int .i64 h.source) := fun u hu => ⟨(H10.out.gr hu).1.at 13 rfl, (H10.out.gr hu).1.at 14 rfl⟩
   have hI1 : ∀ u, Gr w10 u → u.cell? ⟨w.heap.size, 12, none⟩ = some (.int .i64 h.seq) := fun u hu => (H10.out.gr hu).1.at 12 rfl
   go_upto_region 11 with (fail)
   refine Sched2.wp_region_sched (fun u => u.cell? ⟨w.heap.size, 13, none⟩ = some (.int .i64 h.time) ∧ u.cell? ⟨w.heap.size, 14, none⟩ = some (.int .i64 h.source)) [4, 5, 7, 8] [] [3, 6, 9, 10] true hI (by kernel_rfl) (by kernel_rfl) ?_
   repeat (first | (refine Sched2.walk1_ord rfl ?_) | (refine Sched2.walk1_no rfl rfl rfl (fun K hK => ?_); simp only [Act.put, zqa, zqb, zqc]; refine hK _ ?_; clear hK K) | (refine Sched2.walk1_gr rfl rfl rfl rfl (fun K hK => ?_); apply Exists.intro; refine ⟨fun w1 hw1 => ?_, ?_⟩; (focus (go_simp; (try go_ints); (try (simp only [IntWalk.iteOmega]; go_simp)); first | done | fail | (with_reducible rfl) | (with_reducible exact ⟨rfl, rfl⟩))); simp only [Act.put, zqa, zqb, zqc]; refine hK _ ?_; clear hK K) | (refine Sched2.walk1_late rfl rfl rfl rfl (fun K hK => ?_); apply Exists.intro; refine ⟨fun w1 hw1 => ?_, ?_⟩; (focus (go_simp; (try go_ints); (try (simp only [IntWalk.iteOmega]; go_simp)); first | done | fail | (with_reducible rfl) | (with_reducible exact ⟨rfl, rfl⟩))); simp only [Act.put, zqa, zqb, zqc]; refine hK _ ?_; clear hK K) | (refine Sched2.walk1_box rfl rfl rfl ?_; apply Exists.intro; refine ⟨fun w1 hw1 => ?_, ?_⟩; (focus (go_simp; exact ⟨Gr.alloc _ _, rfl, by simp, heap_alloc_new _ _⟩))))
   refine Sched2.walk1_nil ?_
   intro wq hwq
   have HQ := zqd (H10.out.gr hwq)
   clear hwq hI hI1
   dsimp only [Sched.EndN, List.nil_append, List.cons_append, Act.put]
   (try simp only [zqa, zqb, zqc])
   simp only [Sched2.lasts, List.filterMap_cons, List.filterMap_nil, List.getElem?_toArray, List.getElem?_cons_succ, List.getElem?_cons_zero]
   repeat (first | (refine Sched2.walk2_no rfl (fun K hK => ?_); simp only [Act.put, zqa, zqb, zqc]; refine hK _ ?_; clear hK K) | (refine Sched2.walk2_go rfl (fun K hK => ?_); go_simp; (try go_ints); (try (simp only [IntWalk.iteOmega]; go_simp)); first | (refine hK _ _ (by first | exact .inl ⟨rfl, rfl⟩ | exact .inr ((by assumption))) ?_; clear hK K) | (go_at_call 51; ((with_reducible refine (HQ.out.put 2 2 32 _ rfl rfl (by omega) (by omega)).mono ?_)); rintro e wm ⟨am, cm, rfl, hrm⟩; have HM := zqd hrm; have him : _ ∧ _ := ⟨hrm.1.at 13 rfl, hrm.1.at 14 rfl⟩; clear hrm; refine ⟨_, rfl, ?_⟩; refine hK _ _ (.inr him) ?_; clear hK K) | (go_at_call 51; ((with_reducible refine (HM.out.put 4 4 36 _ rfl rfl (by omega) (by omega)).mono ?_)); rintro e wn ⟨an, cn, rfl, hrn⟩; have HN := zqd hrn; have hin : _ ∧ _ := ⟨hrn.1.at 13 rfl, hrn.1.at 14 rfl⟩; clear hrn him; refine ⟨_, rfl, ?_⟩; refine hK _ _ (.inr hin) ?_; clear hK K) | (go_at_call 51; ((with_reducible refine (HN.out.put 4 4 40 _ rfl rfl (by omega) (by omega)).mono ?_)); rintro e wz ⟨az, cz, rfl, hrz⟩; have HZ := zqd (show RowI w h az 40 cz (rl4 h) wz from hrz); have hiz : _ ∧ _ := ⟨hrz.1.at 13 rfl, hrz.1.at 14 rfl⟩; clear hrz hin; refine ⟨_, rfl, ?_⟩; refine hK _ _ (.inr hiz) ?_; clear hK K hiz)))
   refine Sched2.walk2_nil ?_
   go_wp2_with fail
   go_ret
   have e := rl4_head HKK.out
   refine ⟨az, 40, cz, rfl, by rw [headL_len, if_pos HKK.out], ?_, HZ.out.2.2⟩
   rw [← e]
   exact HZ.out.2.1.weak (by omega)
def BufC (w0 : World) (t : TypeId) (cs : List Value) (a : Option Addr) (n cap : Nat) (xs : List Int) (wn : World) : Prop :=
 CBlk w0.heap.size t cs wn ∧ OwnI (w0.heap.size + 1) 5 .u8 wn a n cap xs ∧ Gr w0 wn
section
variable {w0 wn w' : World} {t : TypeId} {cs : List Value} {a : Option Addr} {n cap : Nat} {xs : List Int}
theorem BufC.turn {a' : Option Addr} {n' cap' : Nat} {ys : List Int} (hI : BufC w0 t cs a n cap xs wn) (ho : OwnI (w0.heap.size + 1) 5 .u8 w' a' n' cap' ys) (hg : wn.grownBy w' (Value.slice a n cap).ownBlock) : BufC w0 t cs a' n' cap' ys w' := by
 obtain ⟨h1, h2, h3⟩ := hI
 refine ⟨h1.but hg fun e => ?_, ho, grown_own h3 h2 (by omega) hg⟩
 have := (h2.below _ e.symm).1
 omega
theorem BufC.gr (hI : BufC w0 t cs a n cap xs wn) (hg : Gr wn w') : BufC w0 t cs a n cap xs w' := ⟨hI.1.kept hg, hI.2.1.stay hg, hI.2.2.trans hg⟩
theorem BufC.le (hI : BufC w0 t cs a n cap xs wn) : w0.heap.size + 1 ≤ wn.heap.size := hI.1.lt
theorem BufC.start (h1 : CBlk w0.heap.size t cs wn) (h3 : Gr w0 wn) : BufC w0 t cs none 0 0 [] wn := ⟨h1, OwnI.nil _ _ _ _, h3⟩
theorem BufC.done (hI : BufC w0 t cs a n cap xs wn) : OwnI w0.heap.size 5 .u8 wn a n cap xs := hI.2.1.weak (by omega)
theorem BufC.put (hI : BufC w0 t cs a n cap xs wn) (K : Int) (k N : Nat) (x : Int) (hK : K = k) (hN : N = n + k) (hn : n ≤ 20000) (hk : k ≤ 7) :
   Calls Tryd.prog 51 #[.slice a n cap, .int .i64 K, .int .i64 x] wn fun e w' => ∃ a' cap', e = .returned (.slice a' N cap') ∧ BufC w0 t cs a' N cap' (xs ++ putR x k) w' := by
 refine (put_any _ a n cap xs K k x wn hK hI.2.1 (by omega) hk hI.le).mono ?_
 rintro e w' ⟨a', cap', n', e1, e2, ho, hg, _⟩
 subst hN
 subst e1
 exact ⟨a', cap', e2, hI.turn ho hg⟩
theorem BufC.app (hI : BufC w0 t cs a n cap xs wn) (b : Option Addr) (m c : Nat) (ys : List Int) (N : Nat) (hN : N = n + m) (hr : Rd .u8 wn b m ys) (hn : n + m ≤ 140737488355328) :
   ∃ a' cap' w', (Builtin.append_ #[39, 39] 39 #[.slice a n cap, .slice b m c]).run Tryd.prog wn = .ok (.slice a' N cap') w' ∧ BufC w0 t cs a' N cap' (xs ++ ys) w' := by
 subst hN
 obtain ⟨a', cap', w', h1, h2, h3, _⟩ := app_u8 _ wn a n cap xs hI.2.1 b m c ys hr hn hI.le
 exact ⟨a', cap', w', h1, hI.turn h2 h3⟩
theorem BufC.lit (hI : BufC w0 t cs a n cap xs wn) (zs : List Int) (m N : Nat) (hN : N = n + m) (hm : zs.length = m) (hz : ∀ z ∈ zs, 0 ≤ z ∧ z ≤ 255) (hn : n + m ≤ 100000000) (hm2 : m ≤ 10000) :
   ∃ a' cap' w', (Builtin.append_ #[39, 39] 39 #[.slice a n cap, .slice (some ⟨wn.heap.size, 0, none⟩) m m]).run Tryd.prog (wn.alloc (.cells (zs.map (Value.int .u8)).toArray 5)) = .ok (.slice a' N cap') w' ∧ BufC w0 t cs a' N cap' (xs ++ zs) w' := by
 have hrd := rd_new (k := .u8) (w := wn) zs 5 (0, 0) m hm (by simp only [maxLen]; omega) (fun z h => by have := hz z h; exact WalkArith.wf_u8 (by omega))
 exact (hI.gr (Gr.alloc _ _)).app _ m m zs N hN hrd (by omega)
end
end Go.Proofs.YtlnkofpcidngoaaDoor
