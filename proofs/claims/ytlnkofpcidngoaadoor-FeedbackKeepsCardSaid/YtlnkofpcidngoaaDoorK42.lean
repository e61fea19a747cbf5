/- Several texts in one. -/
import Derived.Test.YtlnkofpcidngoaaDoorK0
import Derived.Test.YtlnkofpcidngoaaDoorK20
import Derived.Test.YtlnkofpcidngoaaDoorK18
import Derived.Test.YtlnkofpcidngoaaDoorK3
import Derived.Test.YtlnkofpcidngoaaDoorK1
namespace Go.Proofs.YtlnkofpcidngoaaDoor
open Go.ChangeShapes Go.WideShapes Go.ChangeAt Go.RowKit
theorem fbP_ok {mode W : Int} {s : Snd} {k num : Int} (hs : shapedB mode W = true) (hc : ctxB mode W s = true) (ha : s.act = true) : ctxB mode W (fbP mode W s k num) = true ∧ (fbP mode W s k num).act = true ∧ sameB (headS (fbP mode W s k num)) (headS s) = true := by
 obtain ⟨q1, q2, q3, q4⟩ := shaped_yes hs
 have hc' := hc
 unfold ctxB at hc'
 rw [if_pos ha] at hc'
 obtain ⟨⟨h1, h2⟩, h3, h4, h5, h6, h7, h8, h9, h10, h11⟩ := act_yes hc'
 have key : ∀ (f r sv : Int) (R : List Hdr), 0 ≤ f → f ≤ W → 0 ≤ r → r ≤ W → (f ≤ 0 ∨ r ≤ 0) → 1 ≤ R.length → (R.length : Int) ≤ most mode W → 0 ≤ sv → sv ≤ R.length → (∀ x ∈ R, x ∈ s.refs) →
     ctxB mode W ⟨s.act, f, r, sv, s.since, s.long, s.str, s.fol, none, 0, 0, R⟩ = true ∧ sameB (headS ⟨s.act, f, r, sv, s.since, s.long, s.str, s.fol, none, 0, 0, R⟩) (headS s) = true := by
   intro f r sv R f0 f1 r0 r1 hb hl1 hl2 s0 s1 hsub
   have hhead : (R.headD zeroH) ∈ R := by
     cases R with
     | nil => simp at hl1
     | cons x l => simp
   have hhs := (h11 _ (hsub _ hhead)).2
   refine ⟨?_, hhs⟩
   unfold ctxB
   rw [if_pos (show (⟨s.act, f, r, sv, s.since, s.long, s.str, s.fol, none, 0, 0, R⟩ : Snd).act = true from ha)]
   simp only [actB, rngB, inB, Bool.and_eq_true, decide_eq_true_eq, Bool.not_eq_true', Bool.and_eq_false_iff, decide_eq_false_iff_not, List.all_eq_true]
   refine ⟨⟨hl1, hl2, ⟨s0, s1⟩, ⟨f0, f1⟩, ⟨r0, r1⟩, by omega⟩, h7, h8, h9, ?_, fun x hx => ?_⟩
   · simp only [plainB, Bool.or_eq_true, decide_eq_true_eq, Bool.and_eq_true] at h10 ⊢
     rcases h10 with h10 | h10
     · left
       have := (sameB_iff.1 hhs).1
       show (R.headD zeroH).kind = 2
       rw [← h10]; exact this
     · right; exact h10
   · have := h11 x (hsub x hx)
     simp only [okRef, Bool.and_eq_true]
     exact ⟨this.1, sameB_trans this.2 (sameB_symm hhs)⟩
 unfold fbP
 by_cases hk0 : k = 0
 · rw [if_pos hk0]
   unfold ackP
   cases hl : lastK s.refs num s.refs.length with
   | none =>
     obtain ⟨e1, e2⟩ := key s.full s.refr s.ser s.refs h4.1 h4.2 h5.1 h5.2 h6 h1 h2 h3.1 h3.2 (fun x hx => hx)
     exact ⟨e1, ha, e2⟩
   | some j =>
     have hj := lastK_lt hl
     by_cases hm : mode = 3
     · simp only [hm, if_true]
       subst hm
       have hdl : (s.refs.drop j).length = s.refs.length - j := by simp
       obtain ⟨e1, e2⟩ := key (if s.ser ≤ j then 0 else s.full) (if s.ser ≤ j then 0 else s.refr) (if 0 < s.ser - j then s.ser - j else 0) (s.refs.drop j) (by split <;> omega) (by split <;> omega) (by split <;> omega) (by split <;> omega) (by split <;> omega) (by omega) (by omega) (by split <;> omega) (by split <;> omega) (fun x hx => List.mem_of_mem_drop hx)
       exact ⟨e1, ha, e2⟩
     · simp only [if_neg hm]
       obtain ⟨e1, e2⟩ := key (if s.ser ≤ j then 0 else s.full) (if s.ser ≤ j then 0 else s.refr) s.ser s.refs (by split <;> omega) (by split <;> omega) (by split <;> omega) (by split <;> omega) (by split <;> omega) h1 h2 h3.1 h3.2 (fun x hx => hx)
       exact ⟨e1, ha, e2⟩
 · rw [if_neg hk0]
   split
   · obtain ⟨e1, e2⟩ := key W 0 s.refs.length s.refs (by omega) (by omega) (by omega) (by omega) (by omega) h1 h2 (by omega) (by omega) (fun x hx => hx)
     exact ⟨e1, ha, e2⟩
   · split
     · obtain ⟨e1, e2⟩ := key W s.refr s.refs.length s.refs (by omega) (by omega) h5.1 h5.2 (by omega) h1 h2 (by omega) (by omega) (fun x hx => hx)
       exact ⟨e1, ha, e2⟩
     · obtain ⟨e1, e2⟩ := key s.full W s.refs.length s.refs h4.1 h4.2 (by omega) (by omega) (by omega) h1 h2 (by omega) (by omega) (fun x hx => hx)
       exact ⟨e1, ha, e2⟩
theorem apL_ok {mode W : Int} {L M : List Snd} {c k n : Int} (hv : validC mode W L = true) (hE : apE mode W L c k n = 0) (hM : M.map plainS = apL mode W L c k n) : validC mode W M = true := by
 unfold apE at hE
 split at hE
 · cases hE
 · rename_i h1
   split at hE
   · cases hE
   · split at hE
     · cases hE
     · rename_i h2 h3
       have hfb : fbB c k n = true := by
         cases hb : fbB c k n
         · rw [hb, Bool.and_false] at h1; exact absurd rfl h1
         · rfl
       obtain ⟨f1, f2, _⟩ := fb_yes hfb
       obtain ⟨g1, g2, g3⟩ := valid_parts hv
       have hi : c.toNat < L.length := by omega
       obtain ⟨s, hs⟩ : ∃ s, L[c.toNat]? = some s := ⟨L[c.toNat], List.getElem?_eq_getElem hi⟩
       have hsa : sndAt L c = s := by unfold sndAt; rw [hs]; rfl
       rw [hsa] at h3
       have ha : s.act = true := by cases hb : s.act <;> simp_all
       have hcx := g3 c.toNat hi
       rw [okAt_at hs, Bool.and_eq_true] at hcx
       obtain ⟨p1, p2, p3⟩ := fbP_ok (k := k) (num := n) g1 hcx.1 ha
       have hvL : validC mode W (L.map plainS) = true := by rw [valid_plain]; exact hv
       have hsp : (L.map plainS)[c.toNat]? = some (plainS s) := by rw [List.getElem?_map, hs]; rfl
       rw [← valid_plain, hM, apL, hsa]
       refine valid_set (h := headS s) hvL ⟨plainS s, hsp, .inl ⟨ha, sameB_refl _⟩⟩ ?_ ?_ ?_
       · exact p1
       · exact p2
       · exact p3
def Die (w : World) (p : Nat) : Prop := ∃ (a : Option Addr) (len cap : Nat) (ts : List Int) (k : Nat),
 w.heap[p]? = some (.cells #[.slice a len cap, .int .i64 k] 69 (0, 0)) ∧ Rd .i64 w a len ts ∧ k ≤ len ∧ ∀ b off, 0 < len → a = some ⟨b, off, none⟩ → b < p
theorem Die.lt {w : World} {p : Nat} (h : Die w p) : p < w.heap.size := by
 obtain ⟨_, _, _, _, _, h1, _⟩ := h
 exact heap_lt h1
theorem Die.kept {w w' : World} {p : Nat} {r : Option Nat} (h : Die w p) (hg : w.grownBy w' r) (hr : ∀ g, r = some g → p < g) : Die w' p := by
 have hlt := h.lt
 obtain ⟨a, len, cap, ts, k, h1, h2, h3, h4⟩ := h
 refine ⟨a, len, cap, ts, k, ?_, rd_keptBut h2 hg ?_, h3, h4⟩
 · rw [hg.block p hlt ?_]
   · exact h1
   · intro he; have := hr p he.symm; omega
 · intro b off h0 he h; have := hr b h.symm; have := h4 b off h0 he; omega
def NextPost (p : Nat) (n : Int) (w : World) (e : Ending) (w' : World) : Prop := ∃ v : Int, e = .returned (.int .i64 v) ∧ 0 ≤ v ∧ v < n ∧ Die w' p ∧ w.grownBy w' (some p)
set_option maxRecDepth 20000 in
set_option maxHeartbeats 1000000 in
theorem next_any (p : Nat) (n : Int) (w : World) (hd : Die w p) (hn : 1 ≤ n) (hn2 : n ≤ 9223372036854775807) :
   Calls Tryd.prog 11 #[.pointer (some ⟨p, 0, none⟩), .int .i64 n] w (NextPost p n w) := by
 have HD := zqd hd
 obtain ⟨a, len, cap, ts, k, h1, h2, h3, h4⟩ := hd
 have hplt := heap_lt h1
 have hm : len ≤ 9223372036854775807 := by have := h2.2.2.1; simp only [maxLen] at this; omega
 have c0 : ∀ w1, Gr w w1 → w1.cell? ⟨p, 0, none⟩ = some (.slice a len cap) := fun w1 h => h.cell (by rw [cell_of_block h1]; rfl)
 have c1 : ∀ w1, Gr w w1 → w1.cell? ⟨p, 1, none⟩ = some (.int .i64 k) := fun w1 h => h.cell (by rw [cell_of_block h1]; rfl)
 have H1 := zqd h1
 have H2 := zqd h2
 have H4 := zqd h4
 clear h1 h2 h4
 go_enter Tryd.func11, Tryd.ntmps11
 go_wp2_with fail
 refine Sched.wp_region_sched 10 [] [] (by kernel_rfl) (by kernel_rfl) ?_
 simp only [List.take_succ_cons, List.take_zero, List.drop_succ_cons, List.drop_zero]
 repeat (first | (refine Sched.walk1_no rfl rfl (fun K hK => ?_); simp only [Act.put, zqa, zqb, zqc]; refine hK _ ?_; clear hK K) | (refine Sched.walk1_gr rfl rfl rfl (fun K hK => ?_); apply Exists.intro; refine ⟨fun w1 hw1 => ?_, ?_⟩; (focus (go_simp; (try go_ints); (try (simp only [IntWalk.iteOmega]; go_simp)); first | done | fail | (with_reducible rfl) | (with_reducible exact ⟨rfl, rfl⟩))); simp only [Act.put, zqa, zqb, zqc]; refine hK _ ?_; clear hK K) | (refine Sched.walk1_pure rfl rfl rfl (fun K hK => ?_); apply Exists.intro; refine ⟨fun w1 => ?_, ?_⟩; (focus (go_simp; (try go_ints); (try (simp only [IntWalk.iteOmega]; go_simp)); first | done | (with_reducible rfl) | (with_reducible exact ⟨rfl, rfl⟩))); simp only [Act.put, zqa, zqb, zqc]; refine hK _ ?_; clear hK K) | (refine Sched.walk1_box rfl rfl ?_; apply Exists.intro; refine ⟨fun w1 hw1 => ?_, ?_⟩; (focus (go_simp; exact ⟨Gr.alloc _ _, rfl, by simp, heap_alloc_new _ _⟩))))
 refine Sched.walk1_nil ?_
 intro wq hwq
 dsimp only [Sched.EndN, List.nil_append, List.cons_append, Act.put]
 (try simp only [zqa, zqb, zqc])
 repeat (first | (refine Sched.walk2_no rfl (fun K hK => ?_); simp only [Act.put, zqa, zqb, zqc]; refine hK _ ?_; clear hK K) | (refine Sched.walk2_go rfl (fun K hK => ?_); go_simp; (try go_ints); (try (simp only [IntWalk.iteOmega]; go_simp)); first | (refine hK _ _ ?_; clear hK K) | fail))
 refine Sched.walk2_nil ?_
 by_cases hk : k < len
 · obtain ⟨b, off, hab, hb, hcell⟩ := H2.out.some (by omega)
   subst hab
   have hbp := H4.out b off (by omega) rfl
   have ck := hcell k hk
   obtain ⟨x, hx⟩ : ∃ x, ts[k]?.getD 0 = x := ⟨_, rfl⟩
   rw [hx] at ck
   have c1' := c1 wq hwq
   have c0' := c0 wq hwq
   have ckq := hwq.cell ck
   have hfz : wq.frozen? ⟨p, 1, none⟩ = false := frozen_of_block (by rw [hwq.block p hplt (by simp)]; exact H1.out) 1
   have HX := zqd hx
   have HQ := zqd hwq
   clear hcell hx c0 c1 ck hb hwq
   go_wp2_with fail
   have hbw : (wq.setCell ⟨p, 1, none⟩ (.int .i64 (k + 1))).heap[p]? = some (.cells #[.slice (some ⟨b, off, none⟩) len cap, .int .i64 (k + 1)] 69 (0, 0)) :=
     heap_setCell_eq (by rw [HQ.out.block p hplt (by simp)]; exact H1.out) 1 _
   have hg2 := grown_trans' (grown_weak HQ.out (some p)) (grown_setAt wq p 1 (.int .i64 (k + 1)))
   have ckw : (wq.setCell ⟨p, 1, none⟩ (.int .i64 (k + 1))).cell? ⟨b, off + k, none⟩ = some (.int .i64 x) := by
     rw [World.cell?_of_block (heap_setCell_ne _ _ _ _ (by show b ≠ p; omega))]; exact ckq
   obtain ⟨w2, hw2⟩ : ∃ w2, w2 = wq.setCell ⟨p, 1, none⟩ (.int .i64 (k + 1)) := ⟨_, rfl⟩
   rw [← hw2] at hbw hg2 ckw
   rw [← hw2]
   have d0 : ∀ w1, Gr w2 w1 → w1.cell? ⟨p, 0, none⟩ = some (.slice (some ⟨b, off, none⟩) len cap) := fun w1 h => h.cell (by rw [cell_of_block hbw]; rfl)
   have d1 : ∀ w1, Gr w2 w1 → w1.cell? ⟨p, 1, none⟩ = some (.int .i64 (k + 1)) := fun w1 h => h.cell (by rw [cell_of_block hbw]; rfl)
   have d2 : ∀ w1, Gr w2 w1 → w1.cell? ⟨b, off + k, none⟩ = some (.int .i64 x) := fun w1 h => h.cell ckw
   have HBW := zqd hbw
   have HG2 := zqd hg2
   clear hw2 hbw hg2 ckw c1' c0' ckq hfz
   refine Sched.wp_region_sched 14 [] [] (by kernel_rfl) (by kernel_rfl) ?_
   simp only [List.take_succ_cons, List.take_zero, List.drop_succ_cons, List.drop_zero]
   repeat (first | (refine Sched.walk1_no rfl rfl (fun K hK => ?_); simp only [Act.put, zqa, zqb, zqc]; refine hK _ ?_; clear hK K) | (refine Sched.walk1_gr rfl rfl rfl (fun K hK => ?_); apply Exists.intro; refine ⟨fun w1 hw1 => ?_, ?_⟩; (focus (go_simp; (try go_ints); (try (simp only [IntWalk.iteOmega]; go_simp)); first | done | ((go_at_call 19; (with_reducible exact gr_same (mod_any _ _ _ (by omega))))) | (with_reducible rfl) | (with_reducible exact ⟨rfl, rfl⟩))); simp only [Act.put, zqa, zqb, zqc]; refine hK _ ?_; clear hK K) | (refine Sched.walk1_pure rfl rfl rfl (fun K hK => ?_); apply Exists.intro; refine ⟨fun w1 => ?_, ?_⟩; (focus (go_simp; (try go_ints); (try (simp only [IntWalk.iteOmega]; go_simp)); first | done | (with_reducible rfl) | (with_reducible exact ⟨rfl, rfl⟩))); simp only [Act.put, zqa, zqb, zqc]; refine hK _ ?_; clear hK K) | (refine Sched.walk1_box rfl rfl ?_; apply Exists.intro; refine ⟨fun w1 hw1 => ?_, ?_⟩; (focus (go_simp; exact ⟨Gr.alloc _ _, rfl, by simp, heap_alloc_new _ _⟩))))
   refine Sched.walk1_nil ?_
   intro wq hwq
   dsimp only [Sched.EndN, List.nil_append, List.cons_append, Act.put]
   (try simp only [zqa, zqb, zqc])
   repeat (first | (refine Sched.walk2_no rfl (fun K hK => ?_); simp only [Act.put, zqa, zqb, zqc]; refine hK _ ?_; clear hK K) | (refine Sched.walk2_go rfl (fun K hK => ?_); go_simp; (try go_ints); (try (simp only [IntWalk.iteOmega]; go_simp)); first | (refine hK _ _ ?_; clear hK K) | fail))
   refine Sched.walk2_nil ?_
   go_wp2_with fail
   go_ret
   have hg3 := grown_trans' HG2.out (grown_weak hwq (some p))
   refine ⟨modF x n, rfl, modF_lo _ _, modF_hi _ _ hn, ⟨some ⟨b, off, none⟩, len, cap, ts, k + 1, ?_, rd_keptBut H2.out hg3 ?_, by omega, H4.out⟩, hg3⟩
   · rw [hwq.block p (heap_lt HBW.out) (by simp), HBW.out]; rfl
   · intro b' off' h0 he h
     injection h with h
     have := H4.out b' off' h0 he
     omega
 · go_wp2_with fail
   go_ret
   exact ⟨0, rfl, by omega, by omega, HD.out.kept hwq (by simp), grown_weak hwq _⟩
end Go.Proofs.YtlnkofpcidngoaaDoor
