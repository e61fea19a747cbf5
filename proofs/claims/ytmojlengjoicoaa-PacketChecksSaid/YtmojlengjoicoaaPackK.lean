/- Dice: bytes, filled bytes, spoilt bytes. -/
import Derived.Test.YtmojlengjoicoaaPackE
import Derived.Test.YtmojlengjoicoaaSched2
import Derived.Test.YtmojlengjoicoaaNews
import Derived.Test.YtmojlengjoicoaaDiceO
namespace Go.Proofs.Ytmojlengjoicoaa
open Go.ChangeShapes Go.WideShapes Go.ChangeAt Go.RowKit

/-- Dice, and owned bytes that are newer. -/
def DieB (w0 : World) (p : Nat) (a : Option Addr) (n cap : Nat) (xs : List Int) (wn : World) : Prop :=
  Die wn p ∧ OwnI w0.heap.size 5 .u8 wn a n cap xs ∧ w0.grownBy wn (some p) ∧ p < w0.heap.size
theorem DieB.turn {w0 wn w' : World} {p : Nat} {a a' : Option Addr} {n n' cap cap' : Nat} {xs ys : List Int} (h : DieB w0 p a n cap xs wn) (ho : OwnI w0.heap.size 5 .u8 w' a' n' cap' ys) (hg : wn.grownBy w' (Value.slice a n cap).ownBlock) : DieB w0 p a' n' cap' ys w' := by
  obtain ⟨h1, h2, h3, h4⟩ := h
  have hb : ∀ g, (Value.slice a n cap).ownBlock = some g → w0.heap.size ≤ g := fun g he => (h2.below g he).1
  refine ⟨h1.kept hg (fun g he => by have := hb g he; omega), ho, grownBy_trans h3 hg ?_, h4⟩
  cases hv : (Value.slice a n cap).ownBlock with
  | none => exact .inr (.inl rfl)
  | some g => exact .inr (.inr ⟨g, rfl, hb g hv⟩)
theorem DieB.gr {w0 wn w' : World} {p : Nat} {a : Option Addr} {n cap : Nat} {xs : List Int} (h : DieB w0 p a n cap xs wn) (hg : Gr wn w') : DieB w0 p a n cap xs w' :=
  ⟨h.1.kept hg (by simp), h.2.1.stay hg, grown_trans' h.2.2.1 (grown_weak hg _), h.2.2.2⟩
theorem DieB.dice {w0 wn w' : World} {p : Nat} {a : Option Addr} {n cap : Nat} {xs : List Int} (h : DieB w0 p a n cap xs wn) (hd : Die w' p) (hg : wn.grownBy w' (some p)) : DieB w0 p a n cap xs w' :=
  ⟨hd, h.2.1.kept hg (by
    cases hv : (Value.slice a n cap).ownBlock with
    | none => exact .inl rfl
    | some g => right; have := (h.2.1.below g hv).1; have := h.2.2.2; simp; omega), grown_trans' h.2.2.1 hg, h.2.2.2⟩
theorem DieB.app {w0 wn : World} {p : Nat} {a : Option Addr} {n cap : Nat} {xs : List Int} (h : DieB w0 p a n cap xs wn) (b : Option Addr) (m c : Nat) (ys : List Int) (N : Nat) (hN : N = n + m) (hr : Rd .u8 wn b m ys) (hm : n + m ≤ 140737488355328) :
    ∃ a' cap' w', (Builtin.append_ #[52, 52] 52 #[.slice a n cap, .slice b m c]).run Try.prog wn = .ok (.slice a' N cap') w' ∧ DieB w0 p a' N cap' (xs ++ ys) w' := by
  subst hN
  obtain ⟨a', cap', w', h1, h2, h3, _⟩ := app_u8 _ wn a n cap xs h.2.1 b m c ys hr hm h.2.2.1.size
  exact ⟨a', cap', w', h1, h.turn h2 h3⟩
theorem DieB.cut {w0 wn : World} {p g n cap : Nat} {xs : List Int} (h : DieB w0 p (some ⟨g, 0, none⟩) n cap xs wn) (m : Nat) (hm : m ≤ n) : DieB w0 p (some ⟨g, 0, none⟩) m cap (xs.take m) wn :=
  ⟨h.1, h.2.1.cut m hm, h.2.2⟩
theorem own_blk {B : Nat} {w : World} {g n : Nat} {xs : List Int} (h : w.heap[g]? = some (.cells (xs.map (Value.int .u8)).toArray 5 (0, 0))) (hB : B ≤ g) (hn : xs.length = n) (hm : n ≤ 100) (hb : bytesOk xs) : OwnI B 5 .u8 w (some ⟨g, 0, none⟩) n n xs := by
  refine ⟨⟨by simpa using hn, .inr ⟨g, n, (xs.map (Value.int .u8)).toArray, rfl, hB, h, Nat.le_refl _, by simp only [maxLen]; omega, by simp [hn], ?_⟩⟩, fun y hy => WalkArith.wf_u8 (hb y hy)⟩
  rw [List.take_of_length_le (by simp [hn])]
theorem rd_atK {w : World} {g n : Nat} {xs : List Int} (h : Rd .u8 w (some ⟨g, 0, none⟩) n xs) (N : Nat) (hN : N ≤ n) : Rd .u8 w (some ⟨g, N, none⟩) (n - N) (xs.drop N) := by
  obtain ⟨h1, h2, h3, h4⟩ := h
  refine ⟨by simp; omega, fun x hx => h2 x (List.mem_of_mem_drop hx), by omega, ?_⟩
  rcases h4 with h0 | ⟨b, off, e, hb, hcc⟩
  · exact .inl (by omega)
  · by_cases hz : n - N = 0
    · exact .inl hz
    · right
      injection e with e
      injection e with e1 e2
      subst e1 e2
      exact ⟨g, N, rfl, hb, fun i hi => by
        have := hcc (N + i) (by omega)
        rw [Nat.zero_add] at this
        rw [this, List.getElem?_drop]⟩
def MBytesPost (p most : Nat) (w : World) (e : Ending) (w' : World) : Prop := ∃ a n cap xs, e = .returned (.slice a n cap) ∧ n ≤ most ∧ DieB w p a n cap xs w'
def BRel (p most : Nat) (w : World) (s i : Value) (wr : World) : Prop := ∃ (a : Option Addr) (cap j k : Nat) (xs : List Int), j + k ≤ most ∧ s = .slice a j cap ∧ i = .int .i64 k ∧ DieB w p a j cap xs wr
set_option maxHeartbeats 1000000 in
theorem bytes_any (p most : Nat) (M : Int) (w : World) (hM : M = most) (hd : Die w p) (hm : most ≤ 100000) : Calls Try.prog 44 #[.pointer (some ⟨p, 0, none⟩), .int .i64 M] w (MBytesPost p most w) := by
  subst hM
  have hplt := hd.lt
  have HD := Lib.hid hd
  clear hd
  go_enter Try.func44, Try.ntmps44
  go_wp2_with fail
  refine (next_any p _ _ HD.out (by omega) (by omega)).mono ?_
  rintro e w1 ⟨v, rfl, v1, v2, hd1, hg1⟩
  obtain ⟨k0, rfl⟩ : ∃ n : Nat, v = n := ⟨v.toNat, by omega⟩
  have H1 := Lib.hid (show DieB w p none 0 0 [] w1 from ⟨hd1, OwnI.nil _ _ _ _, hg1, hplt⟩)
  have hk0 : k0 ≤ most := by omega
  clear hd1 hg1 HD v1 v2
  go_wp2_with fail
  go_loopw [5, 6] (fun s i wr => BRel p most w s i wr) (fun _ i _ => (intOf i).toNat)
  case atStart => exact ⟨none, 0, 0, k0, [], by omega, rfl, rfl, H1.out⟩
  case round =>
    clear H1 hk0
    obtain ⟨a, cap, j, k, xs, hj, rfl, rfl, hb⟩ := hrel
    have HB := Lib.hid hb
    clear hb
    by_cases hk : 0 < k
    · go_wp2_with fail
      refine (next_any p 256 _ HB.out.1 (by omega) (by omega)).mono ?_
      rintro e w2 ⟨u, rfl, u1, u2, hd2, hg2⟩
      have hb2 := HB.out.dice hd2 hg2
      have hrd := rd_new (k := .u8) (w := w2) [u] 5 (0, 0) 1 rfl (by simp [maxLen]) (by intro z hz; simp at hz; subst hz; exact WalkArith.wf_u8 (by omega))
      obtain ⟨a5, c5, w5, hrun, hb5⟩ := (hb2.gr (Gr.alloc w2 (.cells ([u].map (Value.int .u8)).toArray 5))).app _ 1 1 _ (j + 1) rfl hrd (by omega)
      simp only [List.map_cons, List.map_nil] at hrun
      have HR := Lib.hid hrun
      have HB5 := Lib.hid hb5
      obtain ⟨q, rfl⟩ : ∃ q, k = q + 1 := ⟨k - 1, by omega⟩
      clear hrun hb5 hrd hb2 hd2 hg2 HB
      go_wp2_with (at_builtin; refine wpList_app rfl _ _ _ rfl rfl rfl HR.out ?_)
      go_roundw
      case rel => exact ⟨a5, c5, j + 1, q, _, by omega, rfl, by go_num, HB5.out⟩
      case measure => (simp [intOf] <;> omega)
    · obtain rfl : k = 0 := by omega
      go_wp2_with fail
      go_ret
      exact ⟨a, j, cap, xs, rfl, by omega, HB.out⟩
/-- Filled bytes, whatever the seed is. -/
def FillPost (n : Nat) (w : World) (e : Ending) (w' : World) : Prop := ∃ (a : Option Addr) (cap : Nat) (xs : List Int), e = .returned (.slice a n cap) ∧ BytI w a n cap xs w'
set_option maxHeartbeats 1000000 in
theorem fill_any (L : Nat) (s : Int) (w : World) (hL : L ≤ 1000000) (_hs : i64 s) : Calls Try.prog 52 #[.int .i64 L, .int .i64 s] w (FillPost L w) := by
  go_enter Try.func52, Try.ntmps52
  go_wp2_with fail
  go_loopw [5, 6] (fun s i wr => ∃ (a' : Option Addr) (cap' j : Nat) (ys : List Int), j ≤ L ∧ s = .slice a' j cap' ∧ i = .int .i64 j ∧ BytI w a' j cap' ys wr) (fun _ i _ => L - (intOf i).toNat)
  case atStart => exact ⟨none, 0, 0, [], by omega, rfl, rfl, BytI.nil _ _ (Gr.refl _)⟩
  case round =>
    obtain ⟨a', cap', j, ys, hj, rfl, rfl, hb⟩ := hrel
    have HB := Lib.hid hb
    clear hb
    by_cases hlt : j < L
    · obtain ⟨y, hy⟩ : ∃ y, wrap64 (wrap64 (s + 7 * (j : Int)) + (j : Int) / 16) % 256 = y := ⟨_, rfl⟩
      have y1 : 0 ≤ y ∧ y ≤ 255 := by omega
      have hrd := rd_new (k := .u8) (w := wr) [y] 5 (0, 0) 1 rfl (by simp [maxLen]) (by intro z hz; simp at hz; subst hz; exact WalkArith.wf_u8 y1)
      obtain ⟨a2, c2, w2, hrun, hb2⟩ := (HB.out.gr (Gr.alloc wr (.cells ([y].map (Value.int .u8)).toArray 5))).app _ 1 1 _ (j + 1) rfl hrd (by omega)
      simp only [List.map_cons, List.map_nil] at hrun
      have HR := Lib.hid hrun
      have HB2 := Lib.hid hb2
      clear hrun hrd hb2 HB
      go_wp2_with (at_builtin; refine wpList_app rfl _ _ _ rfl rfl rfl HR.out ?_)
      go_roundw
      case rel => exact ⟨a2, c2, j + 1, _, by omega, rfl, by go_num, HB2.out⟩
      case measure => simp [intOf]; omega
    · obtain rfl : j = L := by omega
      go_wp2_with fail
      go_ret
      exact ⟨a', cap', ys, rfl, HB.out⟩
set_option maxRecDepth 100000 in
set_option maxHeartbeats 2000000 in
theorem spoil_any (p : Nat) (b : Option Addr) (m c : Nat) (ys : List Int) (w : World) (hd : Die w p) (hr : Rd .u8 w b m ys) (hm : m ≤ 100000) : Calls Try.prog 45 #[.pointer (some ⟨p, 0, none⟩), .slice b m c] w (MBytesPost p (m + 1) w) := by
  have hplt := hd.lt
  obtain ⟨a1, c1, w1, hrun, ho1, hg1, _⟩ := app_u8_nil w.heap.size w b m c ys hr (by omega) (Nat.le_refl _)
  have HRUN := Lib.hid hrun
  have H1 := Lib.hid (show DieB w p a1 m c1 ys w1 from ⟨hd.kept hg1 (by simp), ho1, grown_weak hg1 _, hplt⟩)
  clear hrun ho1 hg1 hd hr
  go_enter Try.func45, Try.ntmps45
  go_upto_region 2 with (at_builtin; refine wpList_app rfl _ _ _ rfl rfl rfl HRUN.out ?_)
  clear HRUN
  go_wp2_with fail
  refine (next_any p 256 _ H1.out.1 (by omega) (by omega)).mono ?_
  rintro e w2 ⟨cc, rfl, cc1, cc2, hd2, hg2⟩
  have H2 := Lib.hid (H1.out.dice hd2 hg2)
  clear hd2 hg2 H1
  by_cases h0 : m = 0
  · have hm0 : ((m : Int) == 0) = true := by simp [h0]
    go_wp2_with fail
    go_ret
    have hb := H2.out.gr (Gr.alloc w2 (.cells ([cc].map (Value.int .u8)).toArray 5))
    refine ⟨_, 1, 1, [cc], rfl, by omega, hb.1, own_lit w.heap.size w2 [cc] 1 H2.out.2.2.1.size rfl (by omega) (by intro y hy; simp at hy; omega), hb.2.2.1, hb.2.2.2⟩
  · have hm0 : ((m : Int) == 0) = false := by simp [h0]
    obtain ⟨g, hg, _⟩ := H2.out.2.1.some (by omega)
    subst hg
    have hc1 : m ≤ c1 := H2.out.2.1.le_cap
    go_wp2_with fail
    refine (next_any p _ _ H2.out.1 (by omega) (by omega)).mono ?_
    rintro e w3 ⟨k', rfl, k1, k2, hd3, hg3⟩
    obtain ⟨k, rfl⟩ : ∃ n : Nat, k' = n := ⟨k'.toNat, by omega⟩
    have H3 := Lib.hid (H2.out.dice hd3 hg3)
    have hk : k < m := by omega
    clear hd3 hg3 H2 k1 k2
    go_wp2_with fail
    refine (next_any p 4 _ H3.out.1 (by omega) (by omega)).mono ?_
    rintro e w4 ⟨q, rfl, q1, q2, hd4, hg4⟩
    have H4 := Lib.hid (H3.out.dice hd4 hg4)
    clear hd4 hg4 H3
    have hq : q = 0 ∨ q = 1 ∨ q = 2 ∨ q = 3 := by omega
    clear q1 q2
    rcases hq with rfl | rfl | rfl | rfl
    · obtain ⟨x1, f1⟩ := H4.out.2.1.at k hk
      go_wp2_with fail
      go_ret
      exact ⟨_, m, c1, _, rfl, by omega, H4.out.turn (H4.out.2.1.set k cc (WalkArith.wf_u8 (by omega))) (grown_setAt w4 g k _)⟩
    · obtain ⟨x1, f1⟩ := H4.out.2.1.at k hk
      obtain ⟨y, hy⟩ : ∃ y, ys[k]?.getD 0 = y := ⟨_, rfl⟩
      rw [hy] at x1
      have HX := Lib.hid x1
      have HY := Lib.hid hy
      clear hy x1 f1
      go_upto_region 11 with (fail)
      refine Sched2.wp_region_sched (fun u => u.cell? ⟨g, k, none⟩ = some (.int .u8 y)) [0, 1, 2, 3, 9] [] [5, 6, 7, 8, 10] true (fun u hu => hu.cell HX.out) (by kernel_rfl) (by kernel_rfl) ?_
      repeat (first | (refine Sched2.walk1_ord rfl ?_) | (refine Sched2.walk1_no rfl rfl rfl (fun K hK => ?_); simp only [Act.put, List.setIfInBounds_toArray, List.set_cons_zero, List.set_cons_succ]; refine hK _ ?_; clear hK K) | (refine Sched2.walk1_gr rfl rfl rfl rfl (fun K hK => ?_); apply Exists.intro; refine ⟨fun w1 hw1 => ?_, ?_⟩; (focus (go_simp; (try go_ints); (try (simp only [IntWalk.iteOmega]; go_simp)); first | done | fail | (with_reducible rfl) | (with_reducible exact ⟨rfl, rfl⟩))); simp only [Act.put, List.setIfInBounds_toArray, List.set_cons_zero, List.set_cons_succ]; refine hK _ ?_; clear hK K) | (refine Sched2.walk1_late rfl rfl rfl rfl (fun K hK => ?_); apply Exists.intro; refine ⟨fun w1 hw1 => ?_, ?_⟩; (focus (go_simp; (try go_ints); (try (simp only [IntWalk.iteOmega]; go_simp)); first | done | fail | (with_reducible rfl) | (with_reducible exact ⟨rfl, rfl⟩))); simp only [Act.put, List.setIfInBounds_toArray, List.set_cons_zero, List.set_cons_succ]; refine hK _ ?_; clear hK K) | (refine Sched2.walk1_box rfl rfl rfl ?_; apply Exists.intro; refine ⟨fun w1 hw1 => ?_, ?_⟩; (focus (go_simp; exact ⟨Gr.alloc _ _, rfl, by simp, heap_alloc_new _ _⟩))))
      refine Sched2.walk1_nil ?_
      intro wq hwq
      have HQ := Lib.hid (H4.out.gr hwq)
      have hx : wq.cell? ⟨g, k, none⟩ = some (.int .u8 y) := hwq.cell HX.out
      clear hwq
      dsimp only [Sched.EndN, List.nil_append, List.cons_append, Act.put]
      (try simp only [List.setIfInBounds_toArray, List.set_cons_zero, List.set_cons_succ])
      simp only [Sched2.lasts, List.filterMap_cons, List.filterMap_nil, List.getElem?_toArray, List.getElem?_cons_succ, List.getElem?_cons_zero]
      repeat (first | (refine Sched2.walk2_no rfl (fun K hK => ?_); simp only [Act.put, List.setIfInBounds_toArray, List.set_cons_zero, List.set_cons_succ]; refine hK _ ?_; clear hK K) | (refine Sched2.walk2_go rfl (fun K hK => ?_); go_simp; (try go_ints); (try (simp only [IntWalk.iteOmega]; go_simp)); first | (refine hK _ _ (by first | exact .inl ⟨rfl, rfl⟩ | exact .inr ((by assumption))) ?_; clear hK K) | (go_at_call 18; refine (next_any p 8 wq HQ.out.1 (by omega) (by omega)).mono ?_; rintro e w9 ⟨u, rfl, u1, u2, hd9, hg9⟩; have H9 := Lib.hid (HQ.out.dice hd9 hg9); clear hd9 hg9 hx; obtain ⟨x9, f9⟩ := H9.out.2.1.at k hk; rw [HY.out] at x9; refine ⟨_, rfl, ?_⟩; refine hK _ _ (.inr x9) ?_; clear hK K)))
      refine Sched2.walk2_nil ?_
      obtain ⟨v, hv⟩ : ∃ v, bits .xor .u8 y (2 ^ u.toNat % 256) = v := ⟨_, rfl⟩
      have hvw : (Lit.int .u8 v).wf = true := by rw [← hv]; exact wf_bits _ _ _ _
      rw [hv]
      clear hv x9 f9 HX HY HQ
      go_wp2_with fail
      go_ret
      exact ⟨_, m, c1, _, rfl, by omega, H9.out.turn (H9.out.2.1.set k v hvw) (grown_setAt w9 g k _)⟩
    · by_cases hck : c1 = k + 1
      · have hmk : m = k + 1 := by omega
        subst hmk
        subst hck
        go_upto_region 13 with (fail)
        refine Sched.wp_region_sched 7 [] [] (by kernel_rfl) (by kernel_rfl) ?_
        simp only [List.take_succ_cons, List.take_zero, List.drop_succ_cons, List.drop_zero]
        repeat (first | (refine Sched.walk1_no rfl rfl (fun K hK => ?_); simp only [Act.put, List.setIfInBounds_toArray, List.set_cons_zero, List.set_cons_succ]; refine hK _ ?_; clear hK K) | (refine Sched.walk1_gr rfl rfl rfl (fun K hK => ?_); apply Exists.intro; refine ⟨fun w1 hw1 => ?_, ?_⟩; (focus (go_simp; (try go_ints); (try (simp only [IntWalk.iteOmega]; go_simp)); first | done | fail | (with_reducible rfl) | (with_reducible exact ⟨rfl, rfl⟩))); simp only [Act.put, List.setIfInBounds_toArray, List.set_cons_zero, List.set_cons_succ]; refine hK _ ?_; clear hK K) | (refine Sched.walk1_pure rfl rfl rfl (fun K hK => ?_); apply Exists.intro; refine ⟨fun w1 => ?_, ?_⟩; (focus (go_simp; (try go_ints); (try (simp only [IntWalk.iteOmega]; go_simp)); first | done | (with_reducible rfl) | (with_reducible exact ⟨rfl, rfl⟩))); simp only [Act.put, List.setIfInBounds_toArray, List.set_cons_zero, List.set_cons_succ]; refine hK _ ?_; clear hK K) | (refine Sched.walk1_box rfl rfl ?_; apply Exists.intro; refine ⟨fun w1 hw1 => ?_, ?_⟩; (focus (go_simp; exact ⟨Gr.alloc _ _, rfl, by simp, heap_alloc_new _ _⟩))))
        refine Sched.walk1_nil ?_
        intro wq hwq
        have hq := H4.out.gr hwq
        obtain ⟨a5, c5, w5, hrun, ho5, hg5, _⟩ := app_u8 w.heap.size wq (some ⟨g, 0, none⟩) k _ _ (hq.2.1.cut k (by omega)) (some ⟨g, 0, none⟩) 0 0 (ys.drop (k + 1)) (⟨by simp [hq.2.1.len], by intro x hx; exact hq.2.1.wf x (List.mem_of_mem_drop hx), by simp [maxLen], .inl rfl⟩) (by omega) hq.2.2.1.size
        have H5 := Lib.hid ((hq.cut k (by omega)).turn ho5 hg5)
        clear ho5 hg5 hq hwq
        dsimp only [Sched.EndN, List.nil_append, List.cons_append, Act.put]
        (try simp only [List.setIfInBounds_toArray, List.set_cons_zero, List.set_cons_succ])
        refine Sched.walk2_app rfl _ _ _ rfl rfl rfl hrun ?_
        clear hrun
        dsimp only [Act.put]
        (try simp only [List.setIfInBounds_toArray, List.set_cons_zero, List.set_cons_succ])
        repeat (first | (refine Sched.walk2_no rfl (fun K hK => ?_); simp only [Act.put, List.setIfInBounds_toArray, List.set_cons_zero, List.set_cons_succ]; refine hK _ ?_; clear hK K) | (refine Sched.walk2_go rfl (fun K hK => ?_); go_simp; (try go_ints); (try (simp only [IntWalk.iteOmega]; go_simp)); first | (refine hK _ _ ?_; clear hK K) | fail))
        refine Sched.walk2_nil ?_
        go_wp2_with fail
        go_ret
        exact ⟨a5, _, c5, _, rfl, by omega, H5.out⟩
      · have hck2 : (c1 == k + 1) = false := by simpa using hck
        go_upto_region 13 with (fail)
        refine Sched.wp_region_sched 7 [] [] (by kernel_rfl) (by kernel_rfl) ?_
        simp only [List.take_succ_cons, List.take_zero, List.drop_succ_cons, List.drop_zero]
        repeat (first | (refine Sched.walk1_no rfl rfl (fun K hK => ?_); simp only [Act.put, List.setIfInBounds_toArray, List.set_cons_zero, List.set_cons_succ]; refine hK _ ?_; clear hK K) | (refine Sched.walk1_gr rfl rfl rfl (fun K hK => ?_); apply Exists.intro; refine ⟨fun w1 hw1 => ?_, ?_⟩; (focus (go_simp; (try go_ints); (try (simp only [IntWalk.iteOmega]; go_simp)); first | done | fail | (with_reducible rfl) | (with_reducible exact ⟨rfl, rfl⟩))); simp only [Act.put, List.setIfInBounds_toArray, List.set_cons_zero, List.set_cons_succ]; refine hK _ ?_; clear hK K) | (refine Sched.walk1_pure rfl rfl rfl (fun K hK => ?_); apply Exists.intro; refine ⟨fun w1 => ?_, ?_⟩; (focus (go_simp; (try go_ints); (try (simp only [IntWalk.iteOmega]; go_simp)); first | done | (with_reducible rfl) | (with_reducible exact ⟨rfl, rfl⟩))); simp only [Act.put, List.setIfInBounds_toArray, List.set_cons_zero, List.set_cons_succ]; refine hK _ ?_; clear hK K) | (refine Sched.walk1_box rfl rfl ?_; apply Exists.intro; refine ⟨fun w1 hw1 => ?_, ?_⟩; (focus (go_simp; exact ⟨Gr.alloc _ _, rfl, by simp, heap_alloc_new _ _⟩))))
        refine Sched.walk1_nil ?_
        intro wq hwq
        have hq := H4.out.gr hwq
        obtain ⟨a5, c5, w5, hrun, ho5, hg5, _⟩ := app_u8 w.heap.size wq (some ⟨g, 0, none⟩) k _ _ (hq.2.1.cut k (by omega)) (some ⟨g, k + 1, none⟩) (m - (k + 1)) (c1 - (k + 1)) (ys.drop (k + 1)) (rd_atK hq.2.1.rd (k + 1) (by omega)) (by omega) hq.2.2.1.size
        have H5 := Lib.hid ((hq.cut k (by omega)).turn ho5 hg5)
        clear ho5 hg5 hq hwq
        dsimp only [Sched.EndN, List.nil_append, List.cons_append, Act.put]
        (try simp only [List.setIfInBounds_toArray, List.set_cons_zero, List.set_cons_succ])
        refine Sched.walk2_app rfl _ _ _ rfl rfl rfl hrun ?_
        clear hrun
        dsimp only [Act.put]
        (try simp only [List.setIfInBounds_toArray, List.set_cons_zero, List.set_cons_succ])
        repeat (first | (refine Sched.walk2_no rfl (fun K hK => ?_); simp only [Act.put, List.setIfInBounds_toArray, List.set_cons_zero, List.set_cons_succ]; refine hK _ ?_; clear hK K) | (refine Sched.walk2_go rfl (fun K hK => ?_); go_simp; (try go_ints); (try (simp only [IntWalk.iteOmega]; go_simp)); first | (refine hK _ _ ?_; clear hK K) | fail))
        refine Sched.walk2_nil ?_
        go_wp2_with fail
        go_ret
        exact ⟨a5, _, c5, _, rfl, by omega, H5.out⟩
    · have hck2 : ¬ c1 = k := by omega
      have hk1 : k ≤ c1 := by omega
      go_upto_region 7 with (fail)
      refine Sched.wp_region_sched 8 [0, 1, 2] [4] (by kernel_rfl) (by kernel_rfl) ?_
      simp only [List.take_succ_cons, List.take_zero, List.drop_succ_cons, List.drop_zero]
      repeat (first | (refine Sched.walk1_no rfl rfl (fun K hK => ?_); simp only [Act.put, List.setIfInBounds_toArray, List.set_cons_zero, List.set_cons_succ]; refine hK _ ?_; clear hK K) | (refine Sched.walk1_gr rfl rfl rfl (fun K hK => ?_); apply Exists.intro; refine ⟨fun w1 hw1 => ?_, ?_⟩; (focus (go_simp; (try go_ints); (try (simp only [IntWalk.iteOmega]; go_simp)); first | done | fail | (with_reducible rfl) | (with_reducible exact ⟨rfl, rfl⟩))); simp only [Act.put, List.setIfInBounds_toArray, List.set_cons_zero, List.set_cons_succ]; refine hK _ ?_; clear hK K) | (refine Sched.walk1_pure rfl rfl rfl (fun K hK => ?_); apply Exists.intro; refine ⟨fun w1 => ?_, ?_⟩; (focus (go_simp; (try go_ints); (try (simp only [IntWalk.iteOmega]; go_simp)); first | done | (with_reducible rfl) | (with_reducible exact ⟨rfl, rfl⟩))); simp only [Act.put, List.setIfInBounds_toArray, List.set_cons_zero, List.set_cons_succ]; refine hK _ ?_; clear hK K) | (refine Sched.walk1_box rfl rfl ?_; apply Exists.intro; refine ⟨fun w1 hw1 => ?_, ?_⟩; (focus (go_simp; exact ⟨Gr.alloc _ _, rfl, by simp, heap_alloc_new _ _⟩))))
      refine Sched.walk1_new (NRow1 (fun lo => .slice (some ⟨lo, 0, none⟩) 1 1) (.cells #[.int .u8 cc] 5)) rfl rfl (NRow1.stable _ _) (fun u hu => ?_) ?_
      · go_simp
        exact ⟨Gr.alloc _ _, rfl, by simp, heap_alloc_new _ _⟩
      repeat (first | (refine Sched.walk1_no rfl rfl (fun K hK => ?_); simp only [Act.put, List.setIfInBounds_toArray, List.set_cons_zero, List.set_cons_succ]; refine hK _ ?_; clear hK K) | (refine Sched.walk1_gr rfl rfl rfl (fun K hK => ?_); apply Exists.intro; refine ⟨fun w1 hw1 => ?_, ?_⟩; (focus (go_simp; (try go_ints); (try (simp only [IntWalk.iteOmega]; go_simp)); first | done | fail | (with_reducible rfl) | (with_reducible exact ⟨rfl, rfl⟩))); simp only [Act.put, List.setIfInBounds_toArray, List.set_cons_zero, List.set_cons_succ]; refine hK _ ?_; clear hK K) | (refine Sched.walk1_pure rfl rfl rfl (fun K hK => ?_); apply Exists.intro; refine ⟨fun w1 => ?_, ?_⟩; (focus (go_simp; (try go_ints); (try (simp only [IntWalk.iteOmega]; go_simp)); first | done | (with_reducible rfl) | (with_reducible exact ⟨rfl, rfl⟩))); simp only [Act.put, List.setIfInBounds_toArray, List.set_cons_zero, List.set_cons_succ]; refine hK _ ?_; clear hK K) | (refine Sched.walk1_box rfl rfl ?_; apply Exists.intro; refine ⟨fun w1 hw1 => ?_, ?_⟩; (focus (go_simp; exact ⟨Gr.alloc _ _, rfl, by simp, heap_alloc_new _ _⟩))))
      refine Sched.walk1_nil ?_
      intro wq hwq
      dsimp only [Sched.EndN, List.nil_append, List.cons_append, Act.put]
      rintro lo hi v ⟨rfl, hlt, hblk⟩ hlo - - -
      (try simp only [List.setIfInBounds_toArray, List.set_cons_zero, List.set_cons_succ])
      have hq := H4.out.gr hwq
      have hlo2 : w.heap.size ≤ lo := Nat.le_trans H4.out.2.2.1.size hlo
      have hglt : g < lo := Nat.lt_of_lt_of_le (H4.out.2.1.below g rfl).2 hlo
      have hol := own_blk (B := w.heap.size) (xs := [cc]) (n := 1) hblk hlo2 rfl (by omega) (by intro y hy; simp at hy; omega)
      have hdl : DieB w p (some ⟨lo, 0, none⟩) 1 1 [cc] wq := ⟨hq.1, hol, hq.2.2⟩
      obtain ⟨a5, c5, w5, hrun5, ho5, hg5, hf5⟩ := app_u8 w.heap.size wq (some ⟨lo, 0, none⟩) 1 1 _ hol (some ⟨g, k, none⟩) (m - k) (c1 - k) _ (rd_atK hq.2.1.rd k (by omega)) (by omega) hq.2.2.1.size
      have h5 := hdl.turn ho5 hg5
      have hout : DieB w p (some ⟨g, 0, none⟩) k c1 (ys.take k) w5 := ⟨h5.1, (hq.2.1.cut k (by omega)).kept hg5 (.inr (by show some g ≠ some lo; simp; omega)), h5.2.2⟩
      obtain ⟨a6, c6, w6, hrun6, ho6, hg6, _⟩ := app_u8 w.heap.size w5 (some ⟨g, 0, none⟩) k c1 _ hout.2.1 a5 (1 + (m - k)) c5 _ h5.2.1.rd (by omega) hout.2.2.1.size
      have H6 := Lib.hid (hout.turn ho6 hg6)
      clear ho6 hg6 hout h5 ho5 hg5 hf5 hdl hol hblk hlt hq hwq hlo hlo2 hglt
      refine Sched.walk2_app rfl _ _ _ rfl rfl rfl hrun5 ?_
      dsimp only [Act.put]
      (try simp only [List.setIfInBounds_toArray, List.set_cons_zero, List.set_cons_succ])
      refine Sched.walk2_app rfl _ _ _ rfl rfl rfl hrun6 ?_
      clear hrun5 hrun6
      dsimp only [Act.put]
      (try simp only [List.setIfInBounds_toArray, List.set_cons_zero, List.set_cons_succ])
      repeat (first | (refine Sched.walk2_no rfl (fun K hK => ?_); simp only [Act.put, List.setIfInBounds_toArray, List.set_cons_zero, List.set_cons_succ]; refine hK _ ?_; clear hK K) | (refine Sched.walk2_go rfl (fun K hK => ?_); go_simp; (try go_ints); (try (simp only [IntWalk.iteOmega]; go_simp)); first | (refine hK _ _ ?_; clear hK K) | fail))
      refine Sched.walk2_nil ?_
      go_wp2_with fail
      go_ret
      exact ⟨a6, _, c6, _, rfl, by omega, H6.out⟩
end Go.Proofs.Ytmojlengjoicoaa
