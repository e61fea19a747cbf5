/- Several texts in one. -/
import Derived.Test.YtlnkofpcidngoaaDoorK0
import Derived.Test.YtlnkofpcidngoaaDoorK42
import Derived.Test.YtlnkofpcidngoaaDoorK2
import Derived.Test.YtlnkofpcidngoaaDoorK10
import Derived.Test.YtlnkofpcidngoaaDoorK8
import Derived.Test.YtlnkofpcidngoaaDoorK9
namespace Go.Proofs.YtlnkofpcidngoaaDoor
open Go.ChangeShapes Go.WideShapes Go.ChangeAt Go.RowKit
def OnePost (p : Nat) (w : World) (e : Ending) (w' : World) : Prop := ∃ b : Bool, e = .returned (.bool b) ∧ Die w' p ∧ w.grownBy w' (some p)
set_option maxRecDepth 20000 in
set_option maxHeartbeats 2000000 in
theorem one_any (p : Nat) (n : Int) (w : World) (hd : Die w p) (hn : 1 ≤ n) (hn2 : n ≤ 9223372036854775807) :
   Calls Tryd.prog 13 #[.pointer (some ⟨p, 0, none⟩), .int .i64 n] w (OnePost p w) := by
 go_enter Tryd.func13, Tryd.ntmps13
 go_wp2_with fail
 refine (next_any p n _ hd hn hn2).mono ?_
 rintro e w' ⟨v, rfl, v1, v2, hd', hg⟩
 have HG := zqd hg
 clear hg
 go_wp2_with fail
 go_ret
 exact ⟨_, rfl, hd', HG.out⟩
set_option maxRecDepth 20000 in
set_option maxHeartbeats 2000000 in
theorem light_any (a : Option Addr) (len cap : Nat) (w : World) (hm : len ≤ 9223372036854775807) : Calls Tryd.prog 7 #[.slice a len cap] w fun e w' => e = .returned (.bool (decide (len ≤ 400))) ∧ w = w' := by
 go_enter Tryd.func7, Tryd.ntmps7
 go_wp2
 go_ret
 exact ⟨ret_bool (by rw [Bool.eq_iff_iff]; simp; omega), rfl⟩
def RollPost (w : World) (e : Ending) (w' : World) : Prop := ∃ p, e = .returned (.pointer (some ⟨p, 0, none⟩)) ∧ Die w' p ∧ Gr w w' ∧ w.heap.size ≤ p
set_option maxRecDepth 20000 in
set_option maxHeartbeats 2000000 in
theorem roll_any (a : Option Addr) (len cap : Nat) (ts : List Int) (w : World) (hr : Rd .i64 w a len ts) : Calls Tryd.prog 9 #[.slice a len cap] w (RollPost w) := by
 have HR := zqd hr
 clear hr
 go_enter Tryd.func9, Tryd.ntmps9
 go_wp2_with fail
 go_ret
 refine ⟨w.heap.size, rfl, ?_, Gr.alloc _ _, Nat.le_refl _⟩
 refine ⟨a, len, cap, ts, 0, heap_alloc_new _ _, HR.out.kept (Gr.alloc _ _), by omega, ?_⟩
 intro b' off' h0 he
 obtain ⟨b, off, rfl, hb, hc⟩ := HR.out.some h0
 injection he with he
 injection he
 omega
def DieB (w0 : World) (p : Nat) (a : Option Addr) (n cap : Nat) (xs : List Int) (wn : World) : Prop :=
 Die wn p ∧ OwnI w0.heap.size 5 .u8 wn a n cap xs ∧ w0.grownBy wn (some p) ∧ p < w0.heap.size
theorem DieB.turn {w0 wn w' : World} {p : Nat} {a a' : Option Addr} {n n' cap cap' : Nat} {xs ys : List Int} (h : DieB w0 p a n cap xs wn) (ho : OwnI w0.heap.size 5 .u8 w' a' n' cap' ys) (hg : wn.grownBy w' (Value.slice a n cap).ownBlock) : DieB w0 p a' n' cap' ys w' := by
 obtain ⟨h1, h2, h3, h4⟩ := h
 have hb : ∀ g, (Value.slice a n cap).ownBlock = some g → w0.heap.size ≤ g := fun g he => (h2.below g he).1
 refine ⟨h1.kept hg (fun g he => by have := hb g he; omega), ho, grownBy_trans h3 hg ?_, h4⟩
 cases hv : (Value.slice a n cap).ownBlock with
 | none => exact .inr (.inl rfl)
 | some g => exact .inr (.inr ⟨g, rfl, hb g hv⟩)
theorem DieB.gr {w0 wn w' : World} {p : Nat} {a : Option Addr} {n cap : Nat} {xs : List Int} (h : DieB w0 p a n cap xs wn) (hg : Gr wn w') : DieB w0 p a n cap xs w' :=
 ⟨h.1.kept hg (by simp), h.2.1.stay hg, grown_trans' h.2.2.1 (grown_weak hg _), h.2.2.2⟩
theorem DieB.dice {w0 wn w' : World} {p : Nat} {a : Option Addr} {n cap : Nat} {xs : List Int} (h : DieB w0 p a n cap xs wn) (hd : Die w' p) (hg : wn.grownBy w' (some p)) : DieB w0 p a n cap xs w' :=
 ⟨hd, h.2.1.kept hg (by
   cases hv : (Value.slice a n cap).ownBlock with
   | none => exact .inl rfl
   | some g => right; have := (h.2.1.below g hv).1; have := h.2.2.2; simp; omega), grown_trans' h.2.2.1 hg, h.2.2.2⟩
theorem DieB.app {w0 wn : World} {p : Nat} {a : Option Addr} {n cap : Nat} {xs : List Int} (h : DieB w0 p a n cap xs wn) (b : Option Addr) (m c : Nat) (ys : List Int) (N : Nat) (hN : N = n + m) (hr : Rd .u8 wn b m ys) (hm : n + m ≤ 140737488355328) :
   ∃ a' cap' w', (Builtin.append_ #[39, 39] 39 #[.slice a n cap, .slice b m c]).run Tryd.prog wn = .ok (.slice a' N cap') w' ∧ DieB w0 p a' N cap' (xs ++ ys) w' := by
 subst hN
 obtain ⟨a', cap', w', h1, h2, h3, _⟩ := app_u8 _ wn a n cap xs h.2.1 b m c ys hr hm h.2.2.1.size
 exact ⟨a', cap', w', h1, h.turn h2 h3⟩
theorem DieB.cut {w0 wn : World} {p g n cap : Nat} {xs : List Int} (h : DieB w0 p (some ⟨g, 0, none⟩) n cap xs wn) (m : Nat) (hm : m ≤ n) : DieB w0 p (some ⟨g, 0, none⟩) m cap (xs.take m) wn :=
 ⟨h.1, h.2.1.cut m hm, h.2.2⟩
def MBytesPost (p most : Nat) (w : World) (e : Ending) (w' : World) : Prop := ∃ a n cap xs, e = .returned (.slice a n cap) ∧ n ≤ most ∧ DieB w p a n cap xs w'
def BRel (p most : Nat) (w : World) (s i : Value) (wr : World) : Prop := ∃ (a : Option Addr) (cap j k : Nat) (xs : List Int), j + k ≤ most ∧ s = .slice a j cap ∧ i = .int .i64 k ∧ DieB w p a j cap xs wr
set_option maxRecDepth 20000 in
set_option maxHeartbeats 1000000 in
theorem bytes_any (p most : Nat) (M : Int) (w : World) (hM : M = most) (hd : Die w p) (hm : most ≤ 100000) : Calls Tryd.prog 29 #[.pointer (some ⟨p, 0, none⟩), .int .i64 M] w (MBytesPost p most w) := by
 subst hM
 have hplt := hd.lt
 have HD := zqd hd
 clear hd
 go_enter Tryd.func29, Tryd.ntmps29
 go_wp2_with fail
 refine (next_any p _ _ HD.out (by omega) (by omega)).mono ?_
 rintro e w1 ⟨v, rfl, v1, v2, hd1, hg1⟩
 obtain ⟨k0, rfl⟩ : ∃ n : Nat, v = n := ⟨v.toNat, by omega⟩
 have H1 := zqd (show DieB w p none 0 0 [] w1 from ⟨hd1, OwnI.nil _ _ _ _, hg1, hplt⟩)
 have hk0 : k0 ≤ most := by omega
 clear hd1 hg1 HD v1 v2
 go_wp2_with fail
 go_loopw [5, 6] (fun s i wr => BRel p most w s i wr) (fun _ i _ => (intOf i).toNat)
 case atStart => exact ⟨none, 0, 0, k0, [], by omega, rfl, rfl, H1.out⟩
 case round =>
   clear H1 hk0
   obtain ⟨a, cap, j, k, xs, hj, rfl, rfl, hb⟩ := hrel
   have HB := zqd hb
   clear hb
   by_cases hk : 0 < k
   · go_wp2_with fail
     refine (next_any p 256 _ HB.out.1 (by omega) (by omega)).mono ?_
     rintro e w2 ⟨u, rfl, u1, u2, hd2, hg2⟩
     have hb2 := HB.out.dice hd2 hg2
     have hrd := rd_new (k := .u8) (w := w2) [u] 5 (0, 0) 1 rfl (by simp [maxLen]) (by intro z hz; simp at hz; subst hz; exact WalkArith.wf_u8 (by omega))
     obtain ⟨a5, c5, w5, hrun, hb5⟩ := (hb2.gr (Gr.alloc w2 (.cells ([u].map (Value.int .u8)).toArray 5))).app _ 1 1 _ (j + 1) rfl hrd (by omega)
     simp only [List.map_cons, List.map_nil] at hrun
     have HR := zqd hrun
     have HB5 := zqd hb5
     obtain ⟨q, rfl⟩ : ∃ q, k = q + 1 := ⟨k - 1, by omega⟩
     clear hrun hb5 hrd hb2 hd2 hg2 HB
     go_wp2_with (at_builtin; refine wpList_app rfl _ _ _ rfl rfl rfl HR.out ?_)
     go_roundw
     case rel => exact ⟨a5, c5, j + 1, q, _, by omega, rfl, by go_num, HB5.out⟩
     case measure => (simp [intOf] <;> omega)
   · obtain rfl : k = 0 := by omega
     go_wp2_with fail
     go_ret
     exact ⟨a, j, cap, xs, rfl, by omega, HB.out⟩
end Go.Proofs.YtlnkofpcidngoaaDoor
