/- Several texts in one. -/
import Derived.Test.YtlnkofpcidngoaaDoorA0
import Derived.Test.YtlnkofpcidngoaaDoorA26
import Derived.Test.YtlnkofpcidngoaaDoorA14
import Derived.Test.YtlnkofpcidngoaaDoorA1
import Derived.Test.YtlnkofpcidngoaaDoorA10
import Derived.Test.YtlnkofpcidngoaaDoorA11
/- Layer 11 (feedback), plain: a compressor stays valid. -/
namespace Go.Proofs.YtlnkofpcidngoaaDoor
open Go.ChangeShapes Go.WideShapes Go.ChangeAt Go.RowKit
theorem fbP_ok {mode W : Int} {s : Snd} {k num : Int} (hs : shapedB mode W = true) (hc : ctxB mode W s = true) (ha : s.act = true) : ctxB mode W (fbP mode W s k num) = true ∧ (fbP mode W s k num).act = true ∧ sameB (headS (fbP mode W s k num)) (headS s) = true := by
 obtain ⟨q1, q2, q3, q4⟩ := shaped_yes hs
 have hc' := hc
 unfold ctxB at hc'
 rw [if_pos ha] at hc'
 obtain ⟨⟨h1, h2⟩, h3, h4, h5, h6, h7, h8, h9, h10, h11⟩ := act_yes hc'
 have key : ∀ (f r sv : Int) (R : List Hdr), 0 ≤ f → f ≤ W → 0 ≤ r → r ≤ W → (f ≤ 0 ∨ r ≤ 0) → 1 ≤ R.length → (R.length : Int) ≤ most mode W → 0 ≤ sv → sv ≤ R.length → (∀ x ∈ R, x ∈ s.refs) →
   ctxB mode W ⟨s.act, f, r, sv, s.since, s.long, s.str, s.fol, none, 0, 0, R⟩ = true ∧ sameB (headS ⟨s.act, f, r, sv, s.since, s.long, s.str, s.fol, none, 0, 0, R⟩) (headS s) = true := by
  intro f r sv R f0 f1 r0 r1 hb hl1 hl2 s0 s1 hsub
  have hhead : (R.headD zeroH) ∈ R := by
   cases R with
   | nil => simp at hl1
   | cons x l => simp
  have hhs := (h11 _ (hsub _ hhead)).2
  refine ⟨?_, hhs⟩
  unfold ctxB
  rw [if_pos (show (⟨s.act, f, r, sv, s.since, s.long, s.str, s.fol, none, 0, 0, R⟩ : Snd).act = true from ha)]
  simp only [actB, rngB, inB, Bool.and_eq_true, decide_eq_true_eq, Bool.not_eq_true', Bool.and_eq_false_iff, decide_eq_false_iff_not, List.all_eq_true]
  refine ⟨⟨hl1, hl2, ⟨s0, s1⟩, ⟨f0, f1⟩, ⟨r0, r1⟩, by omega⟩, h7, h8, h9, ?_, fun x hx => ?_⟩
  ·simp only [plainB, Bool.or_eq_true, decide_eq_true_eq, Bool.and_eq_true] at h10 ⊢
   rcases h10 with h10 | h10
   ·left
    have := (sameB_iff.1 hhs).1
    show (R.headD zeroH).kind = 2
    rw [← h10]; exact this
   ·right; exact h10
  ·have := h11 x (hsub x hx)
   simp only [okRef, Bool.and_eq_true]
   exact ⟨this.1, sameB_trans this.2 (sameB_symm hhs)⟩
 unfold fbP
 by_cases hk0 : k = 0
 ·rw [if_pos hk0]
  unfold ackP
  cases hl : lastK s.refs num s.refs.length with
  | none =>
   obtain ⟨e1, e2⟩ := key s.full s.refr s.ser s.refs h4.1 h4.2 h5.1 h5.2 h6 h1 h2 h3.1 h3.2 (fun x hx => hx)
   exact ⟨e1, ha, e2⟩
  | some j =>
   have hj := lastK_lt hl
   by_cases hm : mode = 3
   ·simp only [hm, if_true]
    subst hm
    have hdl : (s.refs.drop j).length = s.refs.length - j := by simp
    obtain ⟨e1, e2⟩ := key (if s.ser ≤ j then 0 else s.full) (if s.ser ≤ j then 0 else s.refr) (if 0 < s.ser - j then s.ser - j else 0) (s.refs.drop j) (by split <;> omega) (by split <;> omega) (by split <;> omega) (by split <;> omega) (by split <;> omega) (by omega) (by omega) (by split <;> omega) (by split <;> omega) (fun x hx => List.mem_of_mem_drop hx)
    exact ⟨e1, ha, e2⟩
   ·simp only [if_neg hm]
    obtain ⟨e1, e2⟩ := key (if s.ser ≤ j then 0 else s.full) (if s.ser ≤ j then 0 else s.refr) s.ser s.refs (by split <;> omega) (by split <;> omega) (by split <;> omega) (by split <;> omega) (by split <;> omega) h1 h2 h3.1 h3.2 (fun x hx => hx)
    exact ⟨e1, ha, e2⟩
 ·rw [if_neg hk0]
  split
  ·obtain ⟨e1, e2⟩ := key W 0 s.refs.length s.refs (by omega) (by omega) (by omega) (by omega) (by omega) h1 h2 (by omega) (by omega) (fun x hx => hx)
   exact ⟨e1, ha, e2⟩
  ·split
   ·obtain ⟨e1, e2⟩ := key W s.refr s.refs.length s.refs (by omega) (by omega) h5.1 h5.2 (by omega) h1 h2 (by omega) (by omega) (fun x hx => hx)
    exact ⟨e1, ha, e2⟩
   ·obtain ⟨e1, e2⟩ := key s.full W s.refs.length s.refs h4.1 h4.2 (by omega) (by omega) (by omega) h1 h2 (by omega) (by omega) (fun x hx => hx)
    exact ⟨e1, ha, e2⟩
theorem apL_ok {mode W : Int} {L M : List Snd} {c k n : Int} (hv : validC mode W L = true) (hE : apE mode W L c k n = 0) (hM : M.map plainS = apL mode W L c k n) : validC mode W M = true := by
 unfold apE at hE
 split at hE
 ·cases hE
 ·rename_i h1
  split at hE
  ·cases hE
  ·split at hE
   ·cases hE
   ·rename_i h2 h3
    have hfb : fbB c k n = true := by
     cases hb : fbB c k n
     ·rw [hb, Bool.and_false] at h1; exact absurd rfl h1
     ·rfl
    obtain ⟨f1, f2, _⟩ := fb_yes hfb
    obtain ⟨g1, g2, g3⟩ := valid_parts hv
    have hi : c.toNat < L.length := by omega
    obtain ⟨s, hs⟩ : ∃ s, L[c.toNat]? = some s := ⟨L[c.toNat], List.getElem?_eq_getElem hi⟩
    have hsa : sndAt L c = s := by unfold sndAt; rw [hs]; rfl
    rw [hsa] at h3
    have ha : s.act = true := by cases hb : s.act <;> simp_all
    have hcx := g3 c.toNat hi
    rw [okAt_at hs, Bool.and_eq_true] at hcx
    obtain ⟨p1, p2, p3⟩ := fbP_ok (k := k) (num := n) g1 hcx.1 ha
    have hvL : validC mode W (L.map plainS) = true := by rw [valid_plain]; exact hv
    have hsp : (L.map plainS)[c.toNat]? = some (plainS s) := by rw [List.getElem?_map, hs]; rfl
    rw [← valid_plain, hM, apL, hsa]
    refine valid_set (h := headS s) hvL ⟨plainS s, hsp, .inl ⟨ha, sameB_refl _⟩⟩ ?_ ?_ ?_
    ·exact p1
    ·exact p2
    ·exact p3
end Go.Proofs.YtlnkofpcidngoaaDoor
/- Dice: numbers that are given out; what a call of them leaves. -/
namespace Go.Proofs.YtlnkofpcidngoaaDoor
open Go.ChangeShapes Go.WideShapes Go.ChangeAt Go.RowKit
def Die (w : World) (p : Nat) : Prop := ∃ (a : Option Addr) (len cap : Nat) (ts : List Int) (k : Nat),
 w.heap[p]? = some (.cells #[.slice a len cap, .int .i64 k] 69 (0, 0)) ∧ Rd .i64 w a len ts ∧ k ≤ len ∧ ∀ b off, 0 < len → a = some ⟨b, off, none⟩ → b < p
theorem Die.lt {w : World} {p : Nat} (h : Die w p) : p < w.heap.size := by
 obtain ⟨_, _, _, _, _, h1, _⟩ := h
 exact heap_lt h1
theorem Die.kept {w w' : World} {p : Nat} {r : Option Nat} (h : Die w p) (hg : w.grownBy w' r) (hr : ∀ g, r = some g → p < g) : Die w' p := by
 have hlt := h.lt
 obtain ⟨a, len, cap, ts, k, h1, h2, h3, h4⟩ := h
 refine ⟨a, len, cap, ts, k, ?_, rd_keptBut h2 hg ?_, h3, h4⟩
 ·rw [hg.block p hlt ?_]
  ·exact h1
  ·intro he; have := hr p he.symm; omega
 ·intro b off h0 he h; have := hr b h.symm; have := h4 b off h0 he; omega
def NextPost (p : Nat) (n : Int) (w : World) (e : Ending) (w' : World) : Prop := ∃ v : Int, e = .returned (.int .i64 v) ∧ 0 ≤ v ∧ v < n ∧ Die w' p ∧ w.grownBy w' (some p)
set_option maxRecDepth 20000 in
set_option maxHeartbeats 1000000 in
theorem next_any (p : Nat) (n : Int) (w : World) (hd : Die w p) (hn : 1 ≤ n) (hn2 : n ≤ 9223372036854775807) :
  Calls Tryd.prog 11 #[.pointer (some ⟨p, 0, none⟩), .int .i64 n] w (NextPost p n w) := by
 have HD := zqd hd
 obtain ⟨a, len, cap, ts, k, h1, h2, h3, h4⟩ := hd
 have hplt := heap_lt h1
 have hm : len ≤ 9223372036854775807 := by have := h2.2.2.1; simp only [maxLen] at this; omega
 have c0 : ∀ w1, Gr w w1 → w1.cell? ⟨p, 0, none⟩ = some (.slice a len cap) := fun w1 h => h.cell (by rw [cell_of_block h1]; rfl)
 have c1 : ∀ w1, Gr w w1 → w1.cell? ⟨p, 1, none⟩ = some (.int .i64 k) := fun w1 h => h.cell (by rw [cell_of_block h1]; rfl)
 have H1 := zqd h1
 have H2 := zqd h2
 have H4 := zqd h4
 clear h1 h2 h4
 go_enter Tryd.func11, Tryd.ntmps11
 go_wp2_with fail
 refine Sched.wp_region_sched 10 [] [] (by kernel_rfl) (by kernel_rfl) ?_
 simp only [List.take_succ_cons, List.take_zero, List.drop_succ_cons, List.drop_zero]
 repeat (first | ((first | (refine Sched.walk1_no rfl rfl (fun K hK => ?_)) | (refine Sched.walk1_gr rfl rfl rfl (fun K hK => ?_); apply Exists.intro; refine ⟨fun w1 hw1 => ?_, ?_⟩; (focus (go_simp; (try go_ints); (try (simp only [IntWalk.iteOmega]; go_simp)); first | done | (with_reducible rfl) | (with_reducible exact ⟨rfl, rfl⟩))))); simp only [Act.put, zqa, zqb, zqc]; refine hK _ ?_; clear hK K))
 refine Sched.walk1_nil ?_
 intro wq hwq
 dsimp only [Sched.EndN, List.nil_append, List.cons_append, Act.put]
 (try simp only [zqa, zqb, zqc])
 repeat (first | (refine Sched.walk2_no rfl (fun K hK => ?_); simp only [Act.put, zqa, zqb, zqc]; refine hK _ ?_; clear hK K) | (refine Sched.walk2_go rfl (fun K hK => ?_); go_simp; (try go_ints); (try (simp only [IntWalk.iteOmega]; go_simp)); (refine hK _ _ ?_; clear hK K)))
 refine Sched.walk2_nil ?_
 by_cases hk : k < len
 ·obtain ⟨b, off, hab, hb, hcell⟩ := H2.out.some (by omega)
  subst hab
  have hbp := H4.out b off (by omega) rfl
  have ck := hcell k hk
  obtain ⟨x, hx⟩ : ∃ x, ts[k]?.getD 0 = x := ⟨_, rfl⟩
  rw [hx] at ck
  have c1' := c1 wq hwq
  have c0' := c0 wq hwq
  have ckq := hwq.cell ck
  have hfz : wq.frozen? ⟨p, 1, none⟩ = false := frozen_of_block (by rw [hwq.block p hplt (by simp)]; exact H1.out) 1
  have HX := zqd hx
  have HQ := zqd hwq
  clear hcell hx c0 c1 ck hb hwq
  go_wp2_with fail
  have hbw : (wq.setCell ⟨p, 1, none⟩ (.int .i64 (k + 1))).heap[p]? = some (.cells #[.slice (some ⟨b, off, none⟩) len cap, .int .i64 (k + 1)] 69 (0, 0)) :=
   heap_setCell_eq (by rw [HQ.out.block p hplt (by simp)]; exact H1.out) 1 _
  have hg2 := grown_trans' (grown_weak HQ.out (some p)) (grown_setAt wq p 1 (.int .i64 (k + 1)))
  have ckw : (wq.setCell ⟨p, 1, none⟩ (.int .i64 (k + 1))).cell? ⟨b, off + k, none⟩ = some (.int .i64 x) := by
   rw [World.cell?_of_block (heap_setCell_ne _ _ _ _ (by show b ≠ p; omega))]; exact ckq
  obtain ⟨w2, hw2⟩ : ∃ w2, w2 = wq.setCell ⟨p, 1, none⟩ (.int .i64 (k + 1)) := ⟨_, rfl⟩
  rw [← hw2] at hbw hg2 ckw
  rw [← hw2]
  have d0 : ∀ w1, Gr w2 w1 → w1.cell? ⟨p, 0, none⟩ = some (.slice (some ⟨b, off, none⟩) len cap) := fun w1 h => h.cell (by rw [cell_of_block hbw]; rfl)
  have d1 : ∀ w1, Gr w2 w1 → w1.cell? ⟨p, 1, none⟩ = some (.int .i64 (k + 1)) := fun w1 h => h.cell (by rw [cell_of_block hbw]; rfl)
  have d2 : ∀ w1, Gr w2 w1 → w1.cell? ⟨b, off + k, none⟩ = some (.int .i64 x) := fun w1 h => h.cell ckw
  have HBW := zqd hbw
  have HG2 := zqd hg2
  clear hw2 hbw hg2 ckw c1' c0' ckq hfz
  refine Sched.wp_region_sched 14 [] [] (by kernel_rfl) (by kernel_rfl) ?_
  simp only [List.take_succ_cons, List.take_zero, List.drop_succ_cons, List.drop_zero]
  repeat (first | ((first | (refine Sched.walk1_no rfl rfl (fun K hK => ?_)) | (refine Sched.walk1_gr rfl rfl rfl (fun K hK => ?_); apply Exists.intro; refine ⟨fun w1 hw1 => ?_, ?_⟩; (focus (go_simp; (try go_ints); (try (simp only [IntWalk.iteOmega]; go_simp)); first | done | ((go_at_call 19; (with_reducible exact gr_same (mod_any _ _ _ (by omega))))) | (with_reducible rfl) | (with_reducible exact ⟨rfl, rfl⟩))))); simp only [Act.put, zqa, zqb, zqc]; refine hK _ ?_; clear hK K))
  refine Sched.walk1_nil ?_
  intro wq hwq
  dsimp only [Sched.EndN, List.nil_append, List.cons_append, Act.put]
  (try simp only [zqa, zqb, zqc])
  repeat (first | (refine Sched.walk2_no rfl (fun K hK => ?_); simp only [Act.put, zqa, zqb, zqc]; refine hK _ ?_; clear hK K) | (refine Sched.walk2_go rfl (fun K hK => ?_); go_simp; (try go_ints); (try (simp only [IntWalk.iteOmega]; go_simp)); (refine hK _ _ ?_; clear hK K)))
  refine Sched.walk2_nil ?_
  go_wp2_with fail
  go_ret
  have hg3 := grown_trans' HG2.out (grown_weak hwq (some p))
  refine ⟨modF x n, rfl, modF_lo _ _, modF_hi _ _ hn, ⟨some ⟨b, off, none⟩, len, cap, ts, k + 1, ?_, rd_keptBut H2.out hg3 ?_, by omega, H4.out⟩, hg3⟩
  ·rw [hwq.block p (heap_lt HBW.out) (by simp), HBW.out]; rfl
  ·intro b' off' h0 he h
   injection h with h
   have := H4.out b' off' h0 he
   omega
 ·go_wp2_with fail
  go_ret
  exact ⟨0, rfl, by omega, by omega, HD.out.kept hwq (by simp), grown_weak hwq _⟩
end Go.Proofs.YtlnkofpcidngoaaDoor
/- Dice: One; dice that are rolled; light lists. -/
namespace Go.Proofs.YtlnkofpcidngoaaDoor
open Go.ChangeShapes Go.WideShapes Go.ChangeAt Go.RowKit
def OnePost (p : Nat) (w : World) (e : Ending) (w' : World) : Prop := ∃ b : Bool, e = .returned (.bool b) ∧ Die w' p ∧ w.grownBy w' (some p)
set_option maxRecDepth 20000 in
set_option maxHeartbeats 2000000 in
theorem one_any (p : Nat) (n : Int) (w : World) (hd : Die w p) (hn : 1 ≤ n) (hn2 : n ≤ 9223372036854775807) :
  Calls Tryd.prog 13 #[.pointer (some ⟨p, 0, none⟩), .int .i64 n] w (OnePost p w) := by
 go_enter Tryd.func13, Tryd.ntmps13
 go_wp2_with fail
 refine (next_any p n _ hd hn hn2).mono ?_
 rintro e w' ⟨v, rfl, v1, v2, hd', hg⟩
 have HG := zqd hg
 clear hg
 go_wp2_with fail
 go_ret
 exact ⟨_, rfl, hd', HG.out⟩
set_option maxRecDepth 20000 in
set_option maxHeartbeats 2000000 in
theorem light_any (a : Option Addr) (len cap : Nat) (w : World) (hm : len ≤ 9223372036854775807) : Calls Tryd.prog 7 #[.slice a len cap] w fun e w' => e = .returned (.bool (decide (len ≤ 400))) ∧ w = w' := by
 go_enter Tryd.func7, Tryd.ntmps7
 go_wp2
 go_ret
 exact ⟨ret_bool (by rw [Bool.eq_iff_iff]; simp; omega), rfl⟩
def RollPost (w : World) (e : Ending) (w' : World) : Prop := ∃ p, e = .returned (.pointer (some ⟨p, 0, none⟩)) ∧ Die w' p ∧ Gr w w' ∧ w.heap.size ≤ p
set_option maxRecDepth 20000 in
set_option maxHeartbeats 2000000 in
theorem roll_any (a : Option Addr) (len cap : Nat) (ts : List Int) (w : World) (hr : Rd .i64 w a len ts) : Calls Tryd.prog 9 #[.slice a len cap] w (RollPost w) := by
 have HR := zqd hr
 clear hr
 go_enter Tryd.func9, Tryd.ntmps9
 go_wp2_with fail
 go_ret
 refine ⟨w.heap.size, rfl, ?_, Gr.alloc _ _, Nat.le_refl _⟩
 refine ⟨a, len, cap, ts, 0, heap_alloc_new _ _, HR.out.kept (Gr.alloc _ _), by omega, ?_⟩
 intro b' off' h0 he
 obtain ⟨b, off, rfl, hb, hc⟩ := HR.out.some h0
 injection he with he
 injection he
 omega
end Go.Proofs.YtlnkofpcidngoaaDoor
/- Dice: bytes, filled bytes, spoilt bytes. -/
namespace Go.Proofs.YtlnkofpcidngoaaDoor
open Go.ChangeShapes Go.WideShapes Go.ChangeAt Go.RowKit
def DieB (w0 : World) (p : Nat) (a : Option Addr) (n cap : Nat) (xs : List Int) (wn : World) : Prop :=
 Die wn p ∧ OwnI w0.heap.size 5 .u8 wn a n cap xs ∧ w0.grownBy wn (some p) ∧ p < w0.heap.size
theorem DieB.turn {w0 wn w' : World} {p : Nat} {a a' : Option Addr} {n n' cap cap' : Nat} {xs ys : List Int} (h : DieB w0 p a n cap xs wn) (ho : OwnI w0.heap.size 5 .u8 w' a' n' cap' ys) (hg : wn.grownBy w' (Value.slice a n cap).ownBlock) : DieB w0 p a' n' cap' ys w' := by
 obtain ⟨h1, h2, h3, h4⟩ := h
 have hb : ∀ g, (Value.slice a n cap).ownBlock = some g → w0.heap.size ≤ g := fun g he => (h2.below g he).1
 refine ⟨h1.kept hg (fun g he => by have := hb g he; omega), ho, grownBy_trans h3 hg ?_, h4⟩
 cases hv : (Value.slice a n cap).ownBlock with
 | none => exact .inr (.inl rfl)
 | some g => exact .inr (.inr ⟨g, rfl, hb g hv⟩)
theorem DieB.gr {w0 wn w' : World} {p : Nat} {a : Option Addr} {n cap : Nat} {xs : List Int} (h : DieB w0 p a n cap xs wn) (hg : Gr wn w') : DieB w0 p a n cap xs w' :=
 ⟨h.1.kept hg (by simp), h.2.1.stay hg, grown_trans' h.2.2.1 (grown_weak hg _), h.2.2.2⟩
theorem DieB.dice {w0 wn w' : World} {p : Nat} {a : Option Addr} {n cap : Nat} {xs : List Int} (h : DieB w0 p a n cap xs wn) (hd : Die w' p) (hg : wn.grownBy w' (some p)) : DieB w0 p a n cap xs w' :=
 ⟨hd, h.2.1.kept hg (by
  cases hv : (Value.slice a n cap).ownBlock with
  | none => exact .inl rfl
  | some g => right; have := (h.2.1.below g hv).1; have := h.2.2.2; simp; omega), grown_trans' h.2.2.1 hg, h.2.2.2⟩
theorem DieB.app {w0 wn : World} {p : Nat} {a : Option Addr} {n cap : Nat} {xs : List Int} (h : DieB w0 p a n cap xs wn) (b : Option Addr) (m c : Nat) (ys : List Int) (N : Nat) (hN : N = n + m) (hr : Rd .u8 wn b m ys) (hm : n + m ≤ 140737488355328) :
  ∃ a' cap' w', (Builtin.append_ #[39, 39] 39 #[.slice a n cap, .slice b m c]).run Tryd.prog wn = .ok (.slice a' N cap') w' ∧ DieB w0 p a' N cap' (xs ++ ys) w' := by
 subst hN
 obtain ⟨a', cap', w', h1, h2, h3, _⟩ := app_u8 _ wn a n cap xs h.2.1 b m c ys hr hm h.2.2.1.size
 exact ⟨a', cap', w', h1, h.turn h2 h3⟩
theorem DieB.cut {w0 wn : World} {p g n cap : Nat} {xs : List Int} (h : DieB w0 p (some ⟨g, 0, none⟩) n cap xs wn) (m : Nat) (hm : m ≤ n) : DieB w0 p (some ⟨g, 0, none⟩) m cap (xs.take m) wn :=
 ⟨h.1, h.2.1.cut m hm, h.2.2⟩
def MBytesPost (p most : Nat) (w : World) (e : Ending) (w' : World) : Prop := ∃ a n cap xs, e = .returned (.slice a n cap) ∧ n ≤ most ∧ DieB w p a n cap xs w'
def BRel (p most : Nat) (w : World) (s i : Value) (wr : World) : Prop := ∃ (a : Option Addr) (cap j k : Nat) (xs : List Int), j + k ≤ most ∧ s = .slice a j cap ∧ i = .int .i64 k ∧ DieB w p a j cap xs wr
set_option maxRecDepth 20000 in
set_option maxHeartbeats 1000000 in
theorem bytes_any (p most : Nat) (M : Int) (w : World) (hM : M = most) (hd : Die w p) (hm : most ≤ 100000) : Calls Tryd.prog 29 #[.pointer (some ⟨p, 0, none⟩), .int .i64 M] w (MBytesPost p most w) := by
 subst hM
 have hplt := hd.lt
 have HD := zqd hd
 clear hd
 go_enter Tryd.func29, Tryd.ntmps29
 go_wp2_with fail
 refine (next_any p _ _ HD.out (by omega) (by omega)).mono ?_
 rintro e w1 ⟨v, rfl, v1, v2, hd1, hg1⟩
 obtain ⟨k0, rfl⟩ : ∃ n : Nat, v = n := ⟨v.toNat, by omega⟩
 have H1 := zqd (show DieB w p none 0 0 [] w1 from ⟨hd1, OwnI.nil _ _ _ _, hg1, hplt⟩)
 have hk0 : k0 ≤ most := by omega
 clear hd1 hg1 HD v1 v2
 go_wp2_with fail
 go_loopw [5, 6] (fun s i wr => BRel p most w s i wr) (fun _ i _ => (intOf i).toNat)
 case atStart => exact ⟨none, 0, 0, k0, [], by omega, rfl, rfl, H1.out⟩
 case round =>
  clear H1 hk0
  obtain ⟨a, cap, j, k, xs, hj, rfl, rfl, hb⟩ := hrel
  have HB := zqd hb
  clear hb
  by_cases hk : 0 < k
  ·go_wp2_with fail
   refine (next_any p 256 _ HB.out.1 (by omega) (by omega)).mono ?_
   rintro e w2 ⟨u, rfl, u1, u2, hd2, hg2⟩
   have hb2 := HB.out.dice hd2 hg2
   have hrd := rd_new (k := .u8) (w := w2) [u] 5 (0, 0) 1 rfl (by simp [maxLen]) (by intro z hz; simp at hz; subst hz; exact WalkArith.wf_u8 (by omega))
   obtain ⟨a5, c5, w5, hrun, hb5⟩ := (hb2.gr (Gr.alloc w2 (.cells ([u].map (Value.int .u8)).toArray 5))).app _ 1 1 _ (j + 1) rfl hrd (by omega)
   simp only [List.map_cons, List.map_nil] at hrun
   have HR := zqd hrun
   have HB5 := zqd hb5
   obtain ⟨q, rfl⟩ : ∃ q, k = q + 1 := ⟨k - 1, by omega⟩
   clear hrun hb5 hrd hb2 hd2 hg2 HB
   go_wp2_with (at_builtin; refine wpList_app rfl _ _ _ rfl rfl rfl HR.out ?_)
   go_roundw
   case rel => exact ⟨a5, c5, j + 1, q, _, by omega, rfl, by go_num, HB5.out⟩
   case measure => (simp [intOf] <;> omega)
  ·obtain rfl : k = 0 := by omega
   go_wp2_with fail
   go_ret
   exact ⟨a, j, cap, xs, rfl, by omega, HB.out⟩
end Go.Proofs.YtlnkofpcidngoaaDoor
