/- Several texts in one. -/
import Derived.Test.YtlnkofpcidngoaaDoorB0
import Derived.Test.YtlnkofpcidngoaaDoorB2
import Derived.Test.YtlnkofpcidngoaaDoorB1
import Derived.Test.YtlnkofpcidngoaaDoorB13
import Derived.Test.YtlnkofpcidngoaaDoorB11
namespace Go.Proofs.YtlnkofpcidngoaaDoor
open Go.ChangeShapes Go.WideShapes Go.ChangeAt Go.RowKit
def Die (w : World) (p : Nat) : Prop := ∃ (a : Option Addr) (len cap : Nat) (ts : List Int) (k : Nat),
 w.heap[p]? = some (.cells #[.slice a len cap, .int .i64 k] 69 (0, 0)) ∧ Rd .i64 w a len ts ∧ k ≤ len ∧ ∀ b off, 0 < len → a = some ⟨b, off, none⟩ → b < p
theorem Die.lt {w : World} {p : Nat} (h : Die w p) : p < w.heap.size := by
 obtain ⟨_, _, _, _, _, h1, _⟩ := h
 exact heap_lt h1
theorem Die.kept {w w' : World} {p : Nat} {r : Option Nat} (h : Die w p) (hg : w.grownBy w' r) (hr : ∀ g, r = some g → p < g) : Die w' p := by
 have hlt := h.lt
 obtain ⟨a, len, cap, ts, k, h1, h2, h3, h4⟩ := h
 refine ⟨a, len, cap, ts, k, ?_, rd_keptBut h2 hg ?_, h3, h4⟩
 · rw [hg.block p hlt ?_]
   · exact h1
   · intro he; have := hr p he.symm; omega
 · intro b off h0 he h; have := hr b h.symm; have := h4 b off h0 he; omega
def NextPost (p : Nat) (n : Int) (w : World) (e : Ending) (w' : World) : Prop := ∃ v : Int, e = .returned (.int .i64 v) ∧ 0 ≤ v ∧ v < n ∧ Die w' p ∧ w.grownBy w' (some p)
set_option maxRecDepth 20000 in
set_option maxHeartbeats 1000000 in
theorem next_any (p : Nat) (n : Int) (w : World) (hd : Die w p) (hn : 1 ≤ n) (hn2 : n ≤ 9223372036854775807) :
   Calls Tryd.prog 11 #[.pointer (some ⟨p, 0, none⟩), .int .i64 n] w (NextPost p n w) := by
 have HD := zqd hd
 obtain ⟨a, len, cap, ts, k, h1, h2, h3, h4⟩ := hd
 have hplt := heap_lt h1
 have hm : len ≤ 9223372036854775807 := by have := h2.2.2.1; simp only [maxLen] at this; omega
 have c0 : ∀ w1, Gr w w1 → w1.cell? ⟨p, 0, none⟩ = some (.slice a len cap) := fun w1 h => h.cell (by rw [cell_of_block h1]; rfl)
 have c1 : ∀ w1, Gr w w1 → w1.cell? ⟨p, 1, none⟩ = some (.int .i64 k) := fun w1 h => h.cell (by rw [cell_of_block h1]; rfl)
 have H1 := zqd h1
 have H2 := zqd h2
 have H4 := zqd h4
 clear h1 h2 h4
 go_enter Tryd.func11, Tryd.ntmps11
 go_wp2_with fail
 refine Sched.wp_region_sched 10 [] [] (by kernel_rfl) (by kernel_rfl) ?_
 simp only [List.take_succ_cons, List.take_zero, List.drop_succ_cons, List.drop_zero]
 repeat (first | (refine Sched.walk1_no rfl rfl (fun K hK => ?_); simp only [Act.put, zqa, zqb, zqc]; refine hK _ ?_; clear hK K) | (refine Sched.walk1_gr rfl rfl rfl (fun K hK => ?_); apply Exists.intro; refine ⟨fun w1 hw1 => ?_, ?_⟩; (focus (go_simp; (try go_ints); (try (simp only [IntWalk.iteOmega]; go_simp)); first | done | fail | (with_reducible rfl) | (with_reducible exact ⟨rfl, rfl⟩))); simp only [Act.put, zqa, zqb, zqc]; refine hK _ ?_; clear hK K) | (refine Sched.walk1_pure rfl rfl rfl (fun K hK => ?_); apply Exists.intro; refine ⟨fun w1 => ?_, ?_⟩; (focus (go_simp; (try go_ints); (try (simp only [IntWalk.iteOmega]; go_simp)); first | done | (with_reducible rfl) | (with_reducible exact ⟨rfl, rfl⟩))); simp only [Act.put, zqa, zqb, zqc]; refine hK _ ?_; clear hK K) | (refine Sched.walk1_box rfl rfl ?_; apply Exists.intro; refine ⟨fun w1 hw1 => ?_, ?_⟩; (focus (go_simp; exact ⟨Gr.alloc _ _, rfl, by simp, heap_alloc_new _ _⟩))))
 refine Sched.walk1_nil ?_
 intro wq hwq
 dsimp only [Sched.EndN, List.nil_append, List.cons_append, Act.put]
 (try simp only [zqa, zqb, zqc])
 repeat (first | (refine Sched.walk2_no rfl (fun K hK => ?_); simp only [Act.put, zqa, zqb, zqc]; refine hK _ ?_; clear hK K) | (refine Sched.walk2_go rfl (fun K hK => ?_); go_simp; (try go_ints); (try (simp only [IntWalk.iteOmega]; go_simp)); first | (refine hK _ _ ?_; clear hK K) | fail))
 refine Sched.walk2_nil ?_
 by_cases hk : k < len
 · obtain ⟨b, off, hab, hb, hcell⟩ := H2.out.some (by omega)
   subst hab
   have hbp := H4.out b off (by omega) rfl
   have ck := hcell k hk
   obtain ⟨x, hx⟩ : ∃ x, ts[k]?.getD 0 = x := ⟨_, rfl⟩
   rw [hx] at ck
   have c1' := c1 wq hwq
   have c0' := c0 wq hwq
   have ckq := hwq.cell ck
   have hfz : wq.frozen? ⟨p, 1, none⟩ = false := frozen_of_block (by rw [hwq.block p hplt (by simp)]; exact H1.out) 1
   have HX := zqd hx
   have HQ := zqd hwq
   clear hcell hx c0 c1 ck hb hwq
   go_wp2_with fail
   have hbw : (wq.setCell ⟨p, 1, none⟩ (.int .i64 (k + 1))).heap[p]? = some (.cells #[.slice (some ⟨b, off, none⟩) len cap, .int .i64 (k + 1)] 69 (0, 0)) :=
     heap_setCell_eq (by rw [HQ.out.block p hplt (by simp)]; exact H1.out) 1 _
   have hg2 := grown_trans' (grown_weak HQ.out (some p)) (grown_setAt wq p 1 (.int .i64 (k + 1)))
   have ckw : (wq.setCell ⟨p, 1, none⟩ (.int .i64 (k + 1))).cell? ⟨b, off + k, none⟩ = some (.int .i64 x) := by
     rw [World.cell?_of_block (heap_setCell_ne _ _ _ _ (by show b ≠ p; omega))]; exact ckq
   obtain ⟨w2, hw2⟩ : ∃ w2, w2 = wq.setCell ⟨p, 1, none⟩ (.int .i64 (k + 1)) := ⟨_, rfl⟩
   rw [← hw2] at hbw hg2 ckw
   rw [← hw2]
   have d0 : ∀ w1, Gr w2 w1 → w1.cell? ⟨p, 0, none⟩ = some (.slice (some ⟨b, off, none⟩) len cap) := fun w1 h => h.cell (by rw [cell_of_block hbw]; rfl)
   have d1 : ∀ w1, Gr w2 w1 → w1.cell? ⟨p, 1, none⟩ = some (.int .i64 (k + 1)) := fun w1 h => h.cell (by rw [cell_of_block hbw]; rfl)
   have d2 : ∀ w1, Gr w2 w1 → w1.cell? ⟨b, off + k, none⟩ = some (.int .i64 x) := fun w1 h => h.cell ckw
   have HBW := zqd hbw
   have HG2 := zqd hg2
   clear hw2 hbw hg2 ckw c1' c0' ckq hfz
   refine Sched.wp_region_sched 14 [] [] (by kernel_rfl) (by kernel_rfl) ?_
   simp only [List.take_succ_cons, List.take_zero, List.drop_succ_cons, List.drop_zero]
   repeat (first | (refine Sched.walk1_no rfl rfl (fun K hK => ?_); simp only [Act.put, zqa, zqb, zqc]; refine hK _ ?_; clear hK K) | (refine Sched.walk1_gr rfl rfl rfl (fun K hK => ?_); apply Exists.intro; refine ⟨fun w1 hw1 => ?_, ?_⟩; (focus (go_simp; (try go_ints); (try (simp only [IntWalk.iteOmega]; go_simp)); first | done | ((go_at_call 19; (with_reducible exact gr_same (mod_any _ _ _ (by omega))))) | (with_reducible rfl) | (with_reducible exact ⟨rfl, rfl⟩))); simp only [Act.put, zqa, zqb, zqc]; refine hK _ ?_; clear hK K) | (refine Sched.walk1_pure rfl rfl rfl (fun K hK => ?_); apply Exists.intro; refine ⟨fun w1 => ?_, ?_⟩; (focus (go_simp; (try go_ints); (try (simp only [IntWalk.iteOmega]; go_simp)); first | done | (with_reducible rfl) | (with_reducible exact ⟨rfl, rfl⟩))); simp only [Act.put, zqa, zqb, zqc]; refine hK _ ?_; clear hK K) | (refine Sched.walk1_box rfl rfl ?_; apply Exists.intro; refine ⟨fun w1 hw1 => ?_, ?_⟩; (focus (go_simp; exact ⟨Gr.alloc _ _, rfl, by simp, heap_alloc_new _ _⟩))))
   refine Sched.walk1_nil ?_
   intro wq hwq
   dsimp only [Sched.EndN, List.nil_append, List.cons_append, Act.put]
   (try simp only [zqa, zqb, zqc])
   repeat (first | (refine Sched.walk2_no rfl (fun K hK => ?_); simp only [Act.put, zqa, zqb, zqc]; refine hK _ ?_; clear hK K) | (refine Sched.walk2_go rfl (fun K hK => ?_); go_simp; (try go_ints); (try (simp only [IntWalk.iteOmega]; go_simp)); first | (refine hK _ _ ?_; clear hK K) | fail))
   refine Sched.walk2_nil ?_
   go_wp2_with fail
   go_ret
   have hg3 := grown_trans' HG2.out (grown_weak hwq (some p))
   refine ⟨modF x n, rfl, modF_lo _ _, modF_hi _ _ hn, ⟨some ⟨b, off, none⟩, len, cap, ts, k + 1, ?_, rd_keptBut H2.out hg3 ?_, by omega, H4.out⟩, hg3⟩
   · rw [hwq.block p (heap_lt HBW.out) (by simp), HBW.out]; rfl
   · intro b' off' h0 he h
     injection h with h
     have := H4.out b' off' h0 he
     omega
 · go_wp2_with fail
   go_ret
   exact ⟨0, rfl, by omega, by omega, HD.out.kept hwq (by simp), grown_weak hwq _⟩
def OnePost (p : Nat) (w : World) (e : Ending) (w' : World) : Prop := ∃ b : Bool, e = .returned (.bool b) ∧ Die w' p ∧ w.grownBy w' (some p)
set_option maxRecDepth 20000 in
set_option maxHeartbeats 2000000 in
theorem one_any (p : Nat) (n : Int) (w : World) (hd : Die w p) (hn : 1 ≤ n) (hn2 : n ≤ 9223372036854775807) :
   Calls Tryd.prog 13 #[.pointer (some ⟨p, 0, none⟩), .int .i64 n] w (OnePost p w) := by
 go_enter Tryd.func13, Tryd.ntmps13
 go_wp2_with fail
 refine (next_any p n _ hd hn hn2).mono ?_
 rintro e w' ⟨v, rfl, v1, v2, hd', hg⟩
 have HG := zqd hg
 clear hg
 go_wp2_with fail
 go_ret
 exact ⟨_, rfl, hd', HG.out⟩
set_option maxRecDepth 20000 in
set_option maxHeartbeats 2000000 in
theorem light_any (a : Option Addr) (len cap : Nat) (w : World) (hm : len ≤ 9223372036854775807) : Calls Tryd.prog 7 #[.slice a len cap] w fun e w' => e = .returned (.bool (decide (len ≤ 400))) ∧ w = w' := by
 go_enter Tryd.func7, Tryd.ntmps7
 go_wp2
 go_ret
 exact ⟨ret_bool (by rw [Bool.eq_iff_iff]; simp; omega), rfl⟩
def RollPost (w : World) (e : Ending) (w' : World) : Prop := ∃ p, e = .returned (.pointer (some ⟨p, 0, none⟩)) ∧ Die w' p ∧ Gr w w' ∧ w.heap.size ≤ p
set_option maxRecDepth 20000 in
set_option maxHeartbeats 2000000 in
theorem roll_any (a : Option Addr) (len cap : Nat) (ts : List Int) (w : World) (hr : Rd .i64 w a len ts) : Calls Tryd.prog 9 #[.slice a len cap] w (RollPost w) := by
 have HR := zqd hr
 clear hr
 go_enter Tryd.func9, Tryd.ntmps9
 go_wp2_with fail
 go_ret
 refine ⟨w.heap.size, rfl, ?_, Gr.alloc _ _, Nat.le_refl _⟩
 refine ⟨a, len, cap, ts, 0, heap_alloc_new _ _, HR.out.kept (Gr.alloc _ _), by omega, ?_⟩
 intro b' off' h0 he
 obtain ⟨b, off, rfl, hb, hc⟩ := HR.out.some h0
 injection he with he
 injection he
 omega
def DieB (w0 : World) (p : Nat) (a : Option Addr) (n cap : Nat) (xs : List Int) (wn : World) : Prop :=
 Die wn p ∧ OwnI w0.heap.size 5 .u8 wn a n cap xs ∧ w0.grownBy wn (some p) ∧ p < w0.heap.size
theorem DieB.turn {w0 wn w' : World} {p : Nat} {a a' : Option Addr} {n n' cap cap' : Nat} {xs ys : List Int} (h : DieB w0 p a n cap xs wn) (ho : OwnI w0.heap.size 5 .u8 w' a' n' cap' ys) (hg : wn.grownBy w' (Value.slice a n cap).ownBlock) : DieB w0 p a' n' cap' ys w' := by
 obtain ⟨h1, h2, h3, h4⟩ := h
 have hb : ∀ g, (Value.slice a n cap).ownBlock = some g → w0.heap.size ≤ g := fun g he => (h2.below g he).1
 refine ⟨h1.kept hg (fun g he => by have := hb g he; omega), ho, grownBy_trans h3 hg ?_, h4⟩
 cases hv : (Value.slice a n cap).ownBlock with
 | none => exact .inr (.inl rfl)
 | some g => exact .inr (.inr ⟨g, rfl, hb g hv⟩)
theorem DieB.gr {w0 wn w' : World} {p : Nat} {a : Option Addr} {n cap : Nat} {xs : List Int} (h : DieB w0 p a n cap xs wn) (hg : Gr wn w') : DieB w0 p a n cap xs w' :=
 ⟨h.1.kept hg (by simp), h.2.1.stay hg, grown_trans' h.2.2.1 (grown_weak hg _), h.2.2.2⟩
theorem DieB.dice {w0 wn w' : World} {p : Nat} {a : Option Addr} {n cap : Nat} {xs : List Int} (h : DieB w0 p a n cap xs wn) (hd : Die w' p) (hg : wn.grownBy w' (some p)) : DieB w0 p a n cap xs w' :=
 ⟨hd, h.2.1.kept hg (by
   cases hv : (Value.slice a n cap).ownBlock with
   | none => exact .inl rfl
   | some g => right; have := (h.2.1.below g hv).1; have := h.2.2.2; simp; omega), grown_trans' h.2.2.1 hg, h.2.2.2⟩
theorem DieB.app {w0 wn : World} {p : Nat} {a : Option Addr} {n cap : Nat} {xs : List Int} (h : DieB w0 p a n cap xs wn) (b : Option Addr) (m c : Nat) (ys : List Int) (N : Nat) (hN : N = n + m) (hr : Rd .u8 wn b m ys) (hm : n + m ≤ 140737488355328) :
   ∃ a' cap' w', (Builtin.append_ #[39, 39] 39 #[.slice a n cap, .slice b m c]).run Tryd.prog wn = .ok (.slice a' N cap') w' ∧ DieB w0 p a' N cap' (xs ++ ys) w' := by
 subst hN
 obtain ⟨a', cap', w', h1, h2, h3, _⟩ := app_u8 _ wn a n cap xs h.2.1 b m c ys hr hm h.2.2.1.size
 exact ⟨a', cap', w', h1, h.turn h2 h3⟩
theorem DieB.cut {w0 wn : World} {p g n cap : Nat} {xs : List Int} (h : DieB w0 p (some ⟨g, 0, none⟩) n cap xs wn) (m : Nat) (hm : m ≤ n) : DieB w0 p (some ⟨g, 0, none⟩) m cap (xs.take m) wn :=
 ⟨h.1, h.2.1.cut m hm, h.2.2⟩
theorem own_blk {B : Nat} {w : World} {g n : Nat} {xs : List Int} (h : w.heap[g]? = some (.cells (xs.map (Value.int .u8)).toArray 5 (0, 0))) (hB : B ≤ g) (hn : xs.length = n) (hm : n ≤ 100) (hb : bytesOk xs) : OwnI B 5 .u8 w (some ⟨g, 0, none⟩) n n xs := by
 refine ⟨⟨by simpa using hn, .inr ⟨g, n, (xs.map (Value.int .u8)).toArray, rfl, hB, h, Nat.le_refl _, by simp only [maxLen]; omega, by simp [hn], ?_⟩⟩, fun y hy => WalkArith.wf_u8 (hb y hy)⟩
 rw [List.take_of_length_le (by simp [hn])]
theorem rd_atK {w : World} {g n : Nat} {xs : List Int} (h : Rd .u8 w (some ⟨g, 0, none⟩) n xs) (N : Nat) (hN : N ≤ n) : Rd .u8 w (some ⟨g, N, none⟩) (n - N) (xs.drop N) := by
 obtain ⟨h1, h2, h3, h4⟩ := h
 refine ⟨by simp; omega, fun x hx => h2 x (List.mem_of_mem_drop hx), by omega, ?_⟩
 rcases h4 with h0 | ⟨b, off, e, hb, hcc⟩
 · exact .inl (by omega)
 · by_cases hz : n - N = 0
   · exact .inl hz
   · right
     injection e with e
     injection e with e1 e2
     subst e1 e2
     exact ⟨g, N, rfl, hb, fun i hi => by
       have := hcc (N + i) (by omega)
       rw [Nat.zero_add] at this
       rw [this, List.getElem?_drop]⟩
def MBytesPost (p most : Nat) (w : World) (e : Ending) (w' : World) : Prop := ∃ a n cap xs, e = .returned (.slice a n cap) ∧ n ≤ most ∧ DieB w p a n cap xs w'
set_option maxRecDepth 100000 in
set_option maxHeartbeats 2000000 in
theorem spoil_any (p : Nat) (b : Option Addr) (m c : Nat) (ys : List Int) (w : World) (hd : Die w p) (hr : Rd .u8 w b m ys) (hm : m ≤ 100000) : Calls Tryd.prog 22 #[.pointer (some ⟨p, 0, none⟩), .slice b m c] w (MBytesPost p (m + 1) w) := by
 have hplt := hd.lt
 obtain ⟨a1, c1, w1, hrun, ho1, hg1, _⟩ := app_u8_nil w.heap.size w b m c ys hr (by omega) (Nat.le_refl _)
 have HRUN := zqd hrun
 have H1 := zqd (show DieB w p a1 m c1 ys w1 from ⟨hd.kept hg1 (by simp), ho1, grown_weak hg1 _, hplt⟩)
 clear hrun ho1 hg1 hd hr
 go_enter Tryd.func22, Tryd.ntmps22
 go_upto_region 2 with (at_builtin; refine wpList_app rfl _ _ _ rfl rfl rfl HRUN.out ?_)
 clear HRUN
 go_wp2_with fail
 refine (next_any p 256 _ H1.out.1 (by omega) (by omega)).mono ?_
 rintro e w2 ⟨cc, rfl, cc1, cc2, hd2, hg2⟩
 have H2 := zqd (H1.out.dice hd2 hg2)
 clear hd2 hg2 H1
 by_cases h0 : m = 0
 · have hm0 : ((m : Int) == 0) = true := by simp [h0]
   go_wp2_with fail
   go_ret
   have hb := H2.out.gr (Gr.alloc w2 (.cells ([cc].map (Value.int .u8)).toArray 5))
   refine ⟨_, 1, 1, [cc], rfl, by omega, hb.1, own_lit w.heap.size w2 [cc] 1 H2.out.2.2.1.size rfl (by omega) (by intro y hy; simp at hy; omega), hb.2.2.1, hb.2.2.2⟩
 · have hm0 : ((m : Int) == 0) = false := by simp [h0]
   obtain ⟨g, hg, _⟩ := H2.out.2.1.some (by omega)
   subst hg
   have hc1 : m ≤ c1 := H2.out.2.1.le_cap
   go_wp2_with fail
   refine (next_any p _ _ H2.out.1 (by omega) (by omega)).mono ?_
   rintro e w3 ⟨k', rfl, k1, k2, hd3, hg3⟩
   obtain ⟨k, rfl⟩ : ∃ n : Nat, k' = n := ⟨k'.toNat, by omega⟩
   have H3 := zqd (H2.out.dice hd3 hg3)
   have hk : k < m := by omega
   clear hd3 hg3 H2 k1 k2
   go_wp2_with fail
   refine (next_any p 4 _ H3.out.1 (by omega) (by omega)).mono ?_
   rintro e w4 ⟨q, rfl, q1, q2, hd4, hg4⟩
   have H4 := zqd (H3.out.dice hd4 hg4)
   clear hd4 hg4 H3
   have hq : q = 0 ∨ q = 1 ∨ q = 2 ∨ q = 3 := by omega
   clear q1 q2
   rcases hq with rfl | rfl | rfl | rfl
   · obtain ⟨x1, f1⟩ := H4.out.2.1.at k hk
     go_wp2_with fail
     go_ret
     exact ⟨_, m, c1, _, rfl, by omega, H4.out.turn (H4.out.2.1.set k cc (WalkArith.wf_u8 (by omega))) (grown_setAt w4 g k _)⟩
   · obtain ⟨x1, f1⟩ := H4.out.2.1.at k hk
     obtain ⟨y, hy⟩ : ∃ y, ys[k]?.getD 0 = y := ⟨_, rfl⟩
     rw [hy] at x1
     have HX := zqd x1
     have HY := zqd hy
     clear hy x1 f1
     go_upto_region 11 with (fail)
     refine Sched2.wp_region_sched (fun u => u.cell? ⟨g, k, none⟩ = some (.int .u8 y)) [0, 1, 2, 3, 9] [] [5, 6, 7, 8, 10] true (fun u hu => hu.cell HX.out) (by kernel_rfl) (by kernel_rfl) ?_
     repeat (first | (refine Sched2.walk1_ord rfl ?_) | (refine Sched2.walk1_no rfl rfl rfl (fun K hK => ?_); simp only [Act.put, zqa, zqb, zqc]; refine hK _ ?_; clear hK K) | (refine Sched2.walk1_gr rfl rfl rfl rfl (fun K hK => ?_); apply Exists.intro; refine ⟨fun w1 hw1 => ?_, ?_⟩; (focus (go_simp; (try go_ints); (try (simp only [IntWalk.iteOmega]; go_simp)); first | done | fail | (with_reducible rfl) | (with_reducible exact ⟨rfl, rfl⟩))); simp only [Act.put, zqa, zqb, zqc]; refine hK _ ?_; clear hK K) | (refine Sched2.walk1_late rfl rfl rfl rfl (fun K hK => ?_); apply Exists.intro; refine ⟨fun w1 hw1 => ?_, ?_⟩; (focus (go_simp; (try go_ints); (try (simp only [IntWalk.iteOmega]; go_simp)); first | done | fail | (with_reducible rfl) | (with_reducible exact ⟨rfl, rfl⟩))); simp only [Act.put, zqa, zqb, zqc]; refine hK _ ?_; clear hK K) | (refine Sched2.walk1_box rfl rfl rfl ?_; apply Exists.intro; refine ⟨fun w1 hw1 => ?_, ?_⟩; (focus (go_simp; exact ⟨Gr.alloc _ _, rfl, by simp, heap_alloc_new _ _⟩))))
     refine Sched2.walk1_nil ?_
     intro wq hwq
     have HQ := zqd (H4.out.gr hwq)
     have hx : wq.cell? ⟨g, k, none⟩ = some (.int .u8 y) := hwq.cell HX.out
     clear hwq
     dsimp only [Sched.EndN, List.nil_append, List.cons_append, Act.put]
     (try simp only [zqa, zqb, zqc])
     simp only [Sched2.lasts, List.filterMap_cons, List.filterMap_nil, List.getElem?_toArray, List.getElem?_cons_succ, List.getElem?_cons_zero]
     repeat (first | (refine Sched2.walk2_no rfl (fun K hK => ?_); simp only [Act.put, zqa, zqb, zqc]; refine hK _ ?_; clear hK K) | (refine Sched2.walk2_go rfl (fun K hK => ?_); go_simp; (try go_ints); (try (simp only [IntWalk.iteOmega]; go_simp)); first | (refine hK _ _ (by first | exact .inl ⟨rfl, rfl⟩ | exact .inr ((by assumption))) ?_; clear hK K) | (go_at_call 11; refine (next_any p 8 wq HQ.out.1 (by omega) (by omega)).mono ?_; rintro e w9 ⟨u, rfl, u1, u2, hd9, hg9⟩; have H9 := zqd (HQ.out.dice hd9 hg9); clear hd9 hg9 hx; obtain ⟨x9, f9⟩ := H9.out.2.1.at k hk; rw [HY.out] at x9; refine ⟨_, rfl, ?_⟩; refine hK _ _ (.inr x9) ?_; clear hK K)))
     refine Sched2.walk2_nil ?_
     obtain ⟨v, hv⟩ : ∃ v, bits .xor .u8 y (2 ^ u.toNat % 256) = v := ⟨_, rfl⟩
     have hvw : (Lit.int .u8 v).wf = true := by rw [← hv]; exact wf_bits _ _ _ _
     rw [hv]
     clear hv x9 f9 HX HY HQ
     go_wp2_with fail
     go_ret
     exact ⟨_, m, c1, _, rfl, by omega, H9.out.turn (H9.out.2.1.set k v hvw) (grown_setAt w9 g k _)⟩
   · by_cases hck : c1 = k + 1
     · have hmk : m = k + 1 := by omega
       subst hmk
       subst hck
       go_upto_region 13 with (fail)
       refine Sched.wp_region_sched 7 [] [] (by kernel_rfl) (by kernel_rfl) ?_
       simp only [List.take_succ_cons, List.take_zero, List.drop_succ_cons, List.drop_zero]
       repeat (first | (refine Sched.walk1_no rfl rfl (fun K hK => ?_); simp only [Act.put, zqa, zqb, zqc]; refine hK _ ?_; clear hK K) | (refine Sched.walk1_gr rfl rfl rfl (fun K hK => ?_); apply Exists.intro; refine ⟨fun w1 hw1 => ?_, ?_⟩; (focus (go_simp; (try go_ints); (try (simp only [IntWalk.iteOmega]; go_simp)); first | done | fail | (with_reducible rfl) | (with_reducible exact ⟨rfl, rfl⟩))); simp only [Act.put, zqa, zqb, zqc]; refine hK _ ?_; clear hK K) | (refine Sched.walk1_pure rfl rfl rfl (fun K hK => ?_); apply Exists.intro; refine ⟨fun w1 => ?_, ?_⟩; (focus (go_simp; (try go_ints); (try (simp only [IntWalk.iteOmega]; go_simp)); first | done | (with_reducible rfl) | (with_reducible exact ⟨rfl, rfl⟩))); simp only [Act.put, zqa, zqb, zqc]; refine hK _ ?_; clear hK K) | (refine Sched.walk1_box rfl rfl ?_; apply Exists.intro; refine ⟨fun w1 hw1 => ?_, ?_⟩; (focus (go_simp; exact ⟨Gr.alloc _ _, rfl, by simp, heap_alloc_new _ _⟩))))
       refine Sched.walk1_nil ?_
       intro wq hwq
       have hq := H4.out.gr hwq
       obtain ⟨a5, c5, w5, hrun, ho5, hg5, _⟩ := app_u8 w.heap.size wq (some ⟨g, 0, none⟩) k _ _ (hq.2.1.cut k (by omega)) (some ⟨g, 0, none⟩) 0 0 (ys.drop (k + 1)) (⟨by simp [hq.2.1.len], by intro x hx; exact hq.2.1.wf x (List.mem_of_mem_drop hx), by simp [maxLen], .inl rfl⟩) (by omega) hq.2.2.1.size
       have H5 := zqd ((hq.cut k (by omega)).turn ho5 hg5)
       clear ho5 hg5 hq hwq
       dsimp only [Sched.EndN, List.nil_append, List.cons_append, Act.put]
       (try simp only [zqa, zqb, zqc])
       refine Sched.walk2_app rfl _ _ _ rfl rfl rfl hrun ?_
       clear hrun
       dsimp only [Act.put]
       (try simp only [zqa, zqb, zqc])
       repeat (first | (refine Sched.walk2_no rfl (fun K hK => ?_); simp only [Act.put, zqa, zqb, zqc]; refine hK _ ?_; clear hK K) | (refine Sched.walk2_go rfl (fun K hK => ?_); go_simp; (try go_ints); (try (simp only [IntWalk.iteOmega]; go_simp)); first | (refine hK _ _ ?_; clear hK K) | fail))
       refine Sched.walk2_nil ?_
       go_wp2_with fail
       go_ret
       exact ⟨a5, _, c5, _, rfl, by omega, H5.out⟩
     · have hck2 : (c1 == k + 1) = false := by simpa using hck
       go_upto_region 13 with (fail)
       refine Sched.wp_region_sched 7 [] [] (by kernel_rfl) (by kernel_rfl) ?_
       simp only [List.take_succ_cons, List.take_zero, List.drop_succ_cons, List.drop_zero]
       repeat (first | (refine Sched.walk1_no rfl rfl (fun K hK => ?_); simp only [Act.put, zqa, zqb, zqc]; refine hK _ ?_; clear hK K) | (refine Sched.walk1_gr rfl rfl rfl (fun K hK => ?_); apply Exists.intro; refine ⟨fun w1 hw1 => ?_, ?_⟩; (focus (go_simp; (try go_ints); (try (simp only [IntWalk.iteOmega]; go_simp)); first | done | fail | (with_reducible rfl) | (with_reducible exact ⟨rfl, rfl⟩))); simp only [Act.put, zqa, zqb, zqc]; refine hK _ ?_; clear hK K) | (refine Sched.walk1_pure rfl rfl rfl (fun K hK => ?_); apply Exists.intro; refine ⟨fun w1 => ?_, ?_⟩; (focus (go_simp; (try go_ints); (try (simp only [IntWalk.iteOmega]; go_simp)); first | done | (with_reducible rfl) | (with_reducible exact ⟨rfl, rfl⟩))); simp only [Act.put, zqa, zqb, zqc]; refine hK _ ?_; clear hK K) | (refine Sched.walk1_box rfl rfl ?_; apply Exists.intro; refine ⟨fun w1 hw1 => ?_, ?_⟩; (focus (go_simp; exact ⟨Gr.alloc _ _, rfl, by simp, heap_alloc_new _ _⟩))))
       refine Sched.walk1_nil ?_
       intro wq hwq
       have hq := H4.out.gr hwq
       obtain ⟨a5, c5, w5, hrun, ho5, hg5, _⟩ := app_u8 w.heap.size wq (some ⟨g, 0, none⟩) k _ _ (hq.2.1.cut k (by omega)) (some ⟨g, k + 1, none⟩) (m - (k + 1)) (c1 - (k + 1)) (ys.drop (k + 1)) (rd_atK hq.2.1.rd (k + 1) (by omega)) (by omega) hq.2.2.1.size
       have H5 := zqd ((hq.cut k (by omega)).turn ho5 hg5)
       clear ho5 hg5 hq hwq
       dsimp only [Sched.EndN, List.nil_append, List.cons_append, Act.put]
       (try simp only [zqa, zqb, zqc])
       refine Sched.walk2_app rfl _ _ _ rfl rfl rfl hrun ?_
       clear hrun
       dsimp only [Act.put]
       (try simp only [zqa, zqb, zqc])
       repeat (first | (refine Sched.walk2_no rfl (fun K hK => ?_); simp only [Act.put, zqa, zqb, zqc]; refine hK _ ?_; clear hK K) | (refine Sched.walk2_go rfl (fun K hK => ?_); go_simp; (try go_ints); (try (simp only [IntWalk.iteOmega]; go_simp)); first | (refine hK _ _ ?_; clear hK K) | fail))
       refine Sched.walk2_nil ?_
       go_wp2_with fail
       go_ret
       exact ⟨a5, _, c5, _, rfl, by omega, H5.out⟩
   · have hck2 : ¬ c1 = k := by omega
     have hk1 : k ≤ c1 := by omega
     go_upto_region 7 with (fail)
     refine Sched.wp_region_sched 8 [0, 1, 2] [4] (by kernel_rfl) (by kernel_rfl) ?_
     simp only [List.take_succ_cons, List.take_zero, List.drop_succ_cons, List.drop_zero]
     repeat (first | (refine Sched.walk1_no rfl rfl (fun K hK => ?_); simp only [Act.put, zqa, zqb, zqc]; refine hK _ ?_; clear hK K) | (refine Sched.walk1_gr rfl rfl rfl (fun K hK => ?_); apply Exists.intro; refine ⟨fun w1 hw1 => ?_, ?_⟩; (focus (go_simp; (try go_ints); (try (simp only [IntWalk.iteOmega]; go_simp)); first | done | fail | (with_reducible rfl) | (with_reducible exact ⟨rfl, rfl⟩))); simp only [Act.put, zqa, zqb, zqc]; refine hK _ ?_; clear hK K) | (refine Sched.walk1_pure rfl rfl rfl (fun K hK => ?_); apply Exists.intro; refine ⟨fun w1 => ?_, ?_⟩; (focus (go_simp; (try go_ints); (try (simp only [IntWalk.iteOmega]; go_simp)); first | done | (with_reducible rfl) | (with_reducible exact ⟨rfl, rfl⟩))); simp only [Act.put, zqa, zqb, zqc]; refine hK _ ?_; clear hK K) | (refine Sched.walk1_box rfl rfl ?_; apply Exists.intro; refine ⟨fun w1 hw1 => ?_, ?_⟩; (focus (go_simp; exact ⟨Gr.alloc _ _, rfl, by simp, heap_alloc_new _ _⟩))))
     refine Sched.walk1_new (NRow1 (fun lo => .slice (some ⟨lo, 0, none⟩) 1 1) (.cells #[.int .u8 cc] 5)) rfl rfl (NRow1.stable _ _) (fun u hu => ?_) ?_
     · go_simp
       exact ⟨Gr.alloc _ _, rfl, by simp, heap_alloc_new _ _⟩
     repeat (first | (refine Sched.walk1_no rfl rfl (fun K hK => ?_); simp only [Act.put, zqa, zqb, zqc]; refine hK _ ?_; clear hK K) | (refine Sched.walk1_gr rfl rfl rfl (fun K hK => ?_); apply Exists.intro; refine ⟨fun w1 hw1 => ?_, ?_⟩; (focus (go_simp; (try go_ints); (try (simp only [IntWalk.iteOmega]; go_simp)); first | done | fail | (with_reducible rfl) | (with_reducible exact ⟨rfl, rfl⟩))); simp only [Act.put, zqa, zqb, zqc]; refine hK _ ?_; clear hK K) | (refine Sched.walk1_pure rfl rfl rfl (fun K hK => ?_); apply Exists.intro; refine ⟨fun w1 => ?_, ?_⟩; (focus (go_simp; (try go_ints); (try (simp only [IntWalk.iteOmega]; go_simp)); first | done | (with_reducible rfl) | (with_reducible exact ⟨rfl, rfl⟩))); simp only [Act.put, zqa, zqb, zqc]; refine hK _ ?_; clear hK K) | (refine Sched.walk1_box rfl rfl ?_; apply Exists.intro; refine ⟨fun w1 hw1 => ?_, ?_⟩; (focus (go_simp; exact ⟨Gr.alloc _ _, rfl, by simp, heap_alloc_new _ _⟩))))
     refine Sched.walk1_nil ?_
     intro wq hwq
     dsimp only [Sched.EndN, List.nil_append, List.cons_append, Act.put]
     rintro lo hi v ⟨rfl, hlt, hblk⟩ hlo - - -
     (try simp only [zqa, zqb, zqc])
     have hq := H4.out.gr hwq
     have hlo2 : w.heap.size ≤ lo := Nat.le_trans H4.out.2.2.1.size hlo
     have hglt : g < lo := Nat.lt_of_lt_of_le (H4.out.2.1.below g rfl).2 hlo
     have hol := own_blk (B := w.heap.size) (xs := [cc]) (n := 1) hblk hlo2 rfl (by omega) (by intro y hy; simp at hy; omega)
     have hdl : DieB w p (some ⟨lo, 0, none⟩) 1 1 [cc] wq := ⟨hq.1, hol, hq.2.2⟩
     obtain ⟨a5, c5, w5, hrun5, ho5, hg5, hf5⟩ := app_u8 w.heap.size wq (some ⟨lo, 0, none⟩) 1 1 _ hol (some ⟨g, k, none⟩) (m - k) (c1 - k) _ (rd_atK hq.2.1.rd k (by omega)) (by omega) hq.2.2.1.size
     have h5 := hdl.turn ho5 hg5
     have hout : DieB w p (some ⟨g, 0, none⟩) k c1 (ys.take k) w5 := ⟨h5.1, (hq.2.1.cut k (by omega)).kept hg5 (.inr (by show some g ≠ some lo; simp; omega)), h5.2.2⟩
     obtain ⟨a6, c6, w6, hrun6, ho6, hg6, _⟩ := app_u8 w.heap.size w5 (some ⟨g, 0, none⟩) k c1 _ hout.2.1 a5 (1 + (m - k)) c5 _ h5.2.1.rd (by omega) hout.2.2.1.size
     have H6 := zqd (hout.turn ho6 hg6)
     clear ho6 hg6 hout h5 ho5 hg5 hf5 hdl hol hblk hlt hq hwq hlo hlo2 hglt
     refine Sched.walk2_app rfl _ _ _ rfl rfl rfl hrun5 ?_
     dsimp only [Act.put]
     (try simp only [zqa, zqb, zqc])
     refine Sched.walk2_app rfl _ _ _ rfl rfl rfl hrun6 ?_
     clear hrun5 hrun6
     dsimp only [Act.put]
     (try simp only [zqa, zqb, zqc])
     repeat (first | (refine Sched.walk2_no rfl (fun K hK => ?_); simp only [Act.put, zqa, zqb, zqc]; refine hK _ ?_; clear hK K) | (refine Sched.walk2_go rfl (fun K hK => ?_); go_simp; (try go_ints); (try (simp only [IntWalk.iteOmega]; go_simp)); first | (refine hK _ _ ?_; clear hK K) | fail))
     refine Sched.walk2_nil ?_
     go_wp2_with fail
     go_ret
     exact ⟨a6, _, c6, _, rfl, by omega, H6.out⟩
end Go.Proofs.YtlnkofpcidngoaaDoor
