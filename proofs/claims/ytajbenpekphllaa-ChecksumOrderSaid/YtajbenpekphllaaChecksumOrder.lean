/- The law ChecksumOrder: its walk. -/
import Derived.Test.YtajbenpekphllaaChecksumLaws
import Derived.Test.YtajbenpekphllaaSched
namespace Go.Proofs.Ytajbenpekphllaa
open Go.ChangeShapes Go.WideShapes Go.ChangeAt Go.RowKit

theorem swap_words (l : List Int) (i k : Nat) (hi : i % 2 = 0) (hk : k % 2 = 0) (h1 : i + 1 < l.length) (h2 : k + 1 < l.length) :
    words ((((l.set i (l[k]?.getD 0)).set (i + 1) (l[k + 1]?.getD 0)).set k (l[i]?.getD 0)).set (k + 1) (l[i + 1]?.getD 0)) = words l := by
  rw [words_set _ k _ _ hk (by simpa using h2), words_set l i _ _ hi h1]
  by_cases hik : i = k
  · subst hik
    rw [List.getElem?_set_ne (by omega), List.getElem?_set_self (by omega), List.getElem?_set_self (by simpa using h1)]
    simp
  · rw [List.getElem?_set_ne (by omega), List.getElem?_set_ne (by omega), List.getElem?_set_ne (by omega), List.getElem?_set_ne (by omega)]
    omega

theorem order_zero (a : Option Addr) (len cap : Nat) (p q : Int) (w : World) (hlen : len < 2) :
    Calls Try.prog 4 #[.slice a len cap, .agg #[.int .i64 p, .int .i64 q]] w fun e w' => e = .returned (.bool true) ∧ w.grownBy w' none := by
  have h2 : (len : Int) / 2 = 0 := by omega
  go_enter Try.func4, Try.ntmps4
  go_wp2_with fail
  refine (awake4 _).mono ?_
  rintro e w4 ⟨rfl, hg4⟩
  have HG := Lib.hid hg4
  clear hg4
  go_wp2_with fail
  go_ret
  exact ⟨rfl, (Gr.alloc w _).trans HG.out⟩

set_option maxRecDepth 100000 in
set_option maxHeartbeats 1000000 in
theorem order_walk (a : Option Addr) (len cap : Nat) (bs : List Int) (p q : Int) (w : World) (hr : Rd .u8 w a len bs) (hL : len ≤ 140737488351232) (hlen : 2 ≤ len) :
    Calls Try.prog 4 #[.slice a len cap, .agg #[.int .i64 p, .int .i64 q]] w fun e w' => e = .returned (.bool true) ∧ w.grownBy w' none := by
  obtain ⟨gb, off, rfl, hgb, hcb⟩ := hr.some (by omega)
  have hbl := hr.len
  have hby := hr.bytes
  have m1 := modF_lo p ((len : Int) / 2)
  have m2 := modF_hi p ((len : Int) / 2) (by omega)
  have m3 := modF_lo q ((len : Int) / 2)
  have m4 := modF_hi q ((len : Int) / 2) (by omega)
  obtain ⟨I, hI⟩ : ∃ I : Nat, 2 * modF p ((len : Int) / 2) = (I : Int) := ⟨(2 * modF p ((len : Int) / 2)).toNat, by omega⟩
  obtain ⟨K, hK⟩ : ∃ K : Nat, 2 * modF q ((len : Int) / 2) = (K : Int) := ⟨(2 * modF q ((len : Int) / 2)).toNat, by omega⟩
  have hIe : I % 2 = 0 := by omega
  have hKe : K % 2 = 0 := by omega
  have hI1 : I + 1 < len := by omega
  have hK1 : K + 1 < len := by omega
  have hI0 : I < len := by omega
  have hK0 : K < len := by omega
  have hn0 : ((len : Int) / 2 == 0) = false := by simp; omega
  have c0 : ∀ w1, Gr (w.alloc (.cells #[.int .i64 p, .int .i64 q] 27)) w1 → w1.cell? ⟨w.heap.size, 0, none⟩ = some (.int .i64 p) := fun w1 h => h.cell (by rw [cell_new]; rfl)
  have c1 : ∀ w1, Gr (w.alloc (.cells #[.int .i64 p, .int .i64 q] 27)) w1 → w1.cell? ⟨w.heap.size, 1, none⟩ = some (.int .i64 q) := fun w1 h => h.cell (by rw [cell_new]; rfl)
  have bI := hcb I hI0
  have bI1 := hcb (I + 1) hI1
  have bK := hcb K hK0
  have bK1 := hcb (K + 1) hK1
  have HR := Lib.hid hr
  have HIE := Lib.hid hIe
  have HKE := Lib.hid hKe
  have HBL := Lib.hid hbl
  have HBY := Lib.hid hby
  clear hcb hr hIe hKe hbl hby
  go_enter Try.func4, Try.ntmps4
  go_wp2_with fail
  refine Sched.wp_region_sched 12 [] [] (by kernel_rfl) (by kernel_rfl) ?_
  simp only [List.take_succ_cons, List.take_zero, List.drop_succ_cons, List.drop_zero]
  repeat (first | (refine Sched.walk1_no rfl rfl (fun K hK => ?_); simp only [Act.put, List.setIfInBounds_toArray, List.set_cons_zero, List.set_cons_succ]; refine hK _ ?_; clear hK K) | (refine Sched.walk1_gr rfl rfl rfl (fun K hK => ?_); apply Exists.intro; refine ⟨fun w1 hw1 => ?_, ?_⟩; (focus (go_simp; (try go_ints); (try (simp only [IntWalk.iteOmega]; go_simp)); first | done | ((go_at_call 15; exact gr_same (mod_any _ _ _ (by omega)))) | (with_reducible rfl) | (with_reducible exact ⟨rfl, rfl⟩))); simp only [Act.put, List.setIfInBounds_toArray, List.set_cons_zero, List.set_cons_succ]; refine hK _ ?_; clear hK K) | (refine Sched.walk1_pure rfl rfl rfl (fun K hK => ?_); apply Exists.intro; refine ⟨fun w1 => ?_, ?_⟩; (focus (go_simp; (try go_ints); (try (simp only [IntWalk.iteOmega]; go_simp)); first | done | (with_reducible rfl) | (with_reducible exact ⟨rfl, rfl⟩))); simp only [Act.put, List.setIfInBounds_toArray, List.set_cons_zero, List.set_cons_succ]; refine hK _ ?_; clear hK K) | (refine Sched.walk1_box rfl rfl ?_; apply Exists.intro; refine ⟨fun w1 hw1 => ?_, ?_⟩; (focus (go_simp; exact ⟨Gr.alloc _ _, rfl, by simp, heap_alloc_new _ _⟩))))
  refine Sched.walk1_nil ?_
  intro wq hwq
  dsimp only [Sched.EndN, List.nil_append, List.cons_append, Act.put]
  (try simp only [List.setIfInBounds_toArray, List.set_cons_zero, List.set_cons_succ])
  repeat (first | (refine Sched.walk2_no rfl (fun K hK => ?_); simp only [Act.put, List.setIfInBounds_toArray, List.set_cons_zero, List.set_cons_succ]; refine hK _ ?_; clear hK K) | (refine Sched.walk2_go rfl (fun K hK => ?_); go_simp; (try go_ints); (try (simp only [IntWalk.iteOmega]; go_simp)); first | (refine hK _ _ ?_; clear hK K) | fail))
  refine Sched.walk2_nil ?_
  have hG0 : Gr w wq := (Gr.alloc w _).trans hwq
  obtain ⟨a1, n1, w1, hrun1, ho1, hg1, hf1⟩ := app_u8_nil wq.heap.size wq (some ⟨gb, off, none⟩) len cap bs (HR.out.kept hG0) (by omega) (Nat.le_refl _)
  obtain ⟨g, rfl, hBg, hgl, hcg, hfz⟩ := ho1.some (by omega)
  have HR1 := Lib.hid hrun1
  have hG1 : Gr w w1 := hG0.trans hg1
  have HG1 := Lib.hid hG1
  have hwg : w.heap.size ≤ g := Nat.le_trans hG0.size hBg
  clear hrun1 hf1 hwq hg1 c0 c1 m1 m2 m3 m4 hG0
  go_wp2_with (at_builtin; refine wpList_app rfl _ _ _ rfl rfl rfl HR1.out ?_)
  have l0 : ∀ x, Gr w1 x → x.cell? ⟨gb, off + I, none⟩ = some (.int .u8 (bs[I]?.getD 0)) := fun x h => (hG1.trans h).cell bI
  have l1 : ∀ x, Gr w1 x → x.cell? ⟨gb, off + (I + 1), none⟩ = some (.int .u8 (bs[I + 1]?.getD 0)) := fun x h => (hG1.trans h).cell bI1
  have l2 : ∀ x, Gr w1 x → x.cell? ⟨gb, off + K, none⟩ = some (.int .u8 (bs[K]?.getD 0)) := fun x h => (hG1.trans h).cell bK
  have l3 : ∀ x, Gr w1 x → x.cell? ⟨gb, off + (K + 1), none⟩ = some (.int .u8 (bs[K + 1]?.getD 0)) := fun x h => (hG1.trans h).cell bK1
  clear bI bI1 bK bK1
  refine Sched.wp_region_sched 29 [2, 3, 4, 5, 6, 7, 8, 9] [] (by kernel_rfl) (by kernel_rfl) ?_
  simp only [List.take_succ_cons, List.take_zero, List.drop_succ_cons, List.drop_zero]
  repeat (first | (refine Sched.walk1_no rfl rfl (fun K hK => ?_); simp only [Act.put, List.setIfInBounds_toArray, List.set_cons_zero, List.set_cons_succ]; refine hK _ ?_; clear hK K) | (refine Sched.walk1_gr rfl rfl rfl (fun K hK => ?_); apply Exists.intro; refine ⟨fun w1 hw1 => ?_, ?_⟩; (focus (go_simp; (try go_ints); (try (simp only [IntWalk.iteOmega]; go_simp)); first | done | fail | (with_reducible rfl) | (with_reducible exact ⟨rfl, rfl⟩))); simp only [Act.put, List.setIfInBounds_toArray, List.set_cons_zero, List.set_cons_succ]; refine hK _ ?_; clear hK K) | (refine Sched.walk1_pure rfl rfl rfl (fun K hK => ?_); apply Exists.intro; refine ⟨fun w1 => ?_, ?_⟩; (focus (go_simp; (try go_ints); (try (simp only [IntWalk.iteOmega]; go_simp)); first | done | (with_reducible rfl) | (with_reducible exact ⟨rfl, rfl⟩))); simp only [Act.put, List.setIfInBounds_toArray, List.set_cons_zero, List.set_cons_succ]; refine hK _ ?_; clear hK K) | (refine Sched.walk1_box rfl rfl ?_; apply Exists.intro; refine ⟨fun w1 hw1 => ?_, ?_⟩; (focus (go_simp; exact ⟨Gr.alloc _ _, rfl, by simp, heap_alloc_new _ _⟩))))
  refine Sched.walk1_nil ?_
  intro wq hwq
  have wb : ∀ j, (Lit.int .u8 (bs[j]?.getD 0)).wf = true := fun j => by have := getD_byte HBY.out j; exact WalkArith.wf_u8 (by omega)
  have o1 := ho1.stay hwq
  have o2 := o1.set I (bs[K]?.getD 0) (wb _)
  have o3 := o2.set (I + 1) (bs[K + 1]?.getD 0) (wb _)
  have o4 := o3.set K (bs[I]?.getD 0) (wb _)
  have o5 := o4.set (K + 1) (bs[I + 1]?.getD 0) (wb _)
  obtain ⟨s1, f1⟩ := o1.at I hI0
  obtain ⟨s2, f2⟩ := o2.at (I + 1) hI1
  obtain ⟨s3, f3⟩ := o3.at K hK0
  obtain ⟨s4, f4⟩ := o4.at (K + 1) hK1
  clear o1 o2 o3 o4 l0 l1 l2 l3 wb
  dsimp only [Sched.EndN, List.nil_append, List.cons_append, Act.put]
  (try simp only [List.setIfInBounds_toArray, List.set_cons_zero, List.set_cons_succ])
  repeat (first | (refine Sched.walk2_no rfl (fun K hK => ?_); simp only [Act.put, List.setIfInBounds_toArray, List.set_cons_zero, List.set_cons_succ]; refine hK _ ?_; clear hK K) | (refine Sched.walk2_go rfl (fun K hK => ?_); go_simp; (try go_ints); (try (simp only [IntWalk.iteOmega]; go_simp)); first | (refine hK _ _ ?_; clear hK K) | fail))
  refine Sched.walk2_nil ?_
  obtain ⟨w5, hw5⟩ : ∃ x, x = (((wq.setCell ⟨g, I, none⟩ (.int .u8 (bs[K]?.getD 0))).setCell ⟨g, I + 1, none⟩ (.int .u8 (bs[K + 1]?.getD 0))).setCell ⟨g, K, none⟩ (.int .u8 (bs[I]?.getD 0))).setCell ⟨g, K + 1, none⟩ (.int .u8 (bs[I + 1]?.getD 0)) := ⟨_, rfl⟩
  rw [← hw5]
  have hG5 : Gr w w5 := by
    rw [hw5]
    exact grown_set (grown_set (grown_set (grown_set (hG1.trans hwq) (a := ⟨g, I, none⟩) hwg _) (a := ⟨g, I + 1, none⟩) hwg _) (a := ⟨g, K, none⟩) hwg _) (a := ⟨g, K + 1, none⟩) hwg _
  rw [← hw5] at o5
  have hrd := o5.rd
  have hrb := HR.out.kept hG5
  have law : addS 0 ((((bs.set I (bs[K]?.getD 0)).set (I + 1) (bs[K + 1]?.getD 0)).set K (bs[I]?.getD 0)).set (K + 1) (bs[I + 1]?.getD 0)) = addS 0 bs := by
    unfold addS
    rw [swap_words bs I K HIE.out HKE.out (by rw [HBL.out]; exact hI1) (by rw [HBL.out]; exact hK1)]
  have HLAW := Lib.hid law
  have HG5 := Lib.hid hG5
  clear hw5 o5 hG5 law hwq hG1 hn0 hI hK
  go_wp2_with fail
  refine (awake4 _).mono ?_
  rintro e w6 ⟨rfl, hg6⟩
  have hrd6 := hrd.kept hg6
  have hrb6 := hrb.kept hg6
  have HG6 := Lib.hid hg6
  clear hg6 hrd hrb
  go_wp2_with fail
  refine (sum_any _ len cap bs _ hrb6 (by omega)).mono ?_
  rintro e w7 ⟨rfl, rfl⟩
  go_wp2_with fail
  refine (sum_any _ len _ _ _ hrd6 (by omega)).mono ?_
  rintro e w7 ⟨rfl, rfl⟩
  rw [HLAW.out]
  go_wp2_with fail
  go_ret
  exact ⟨by simp, HG5.out.trans HG6.out⟩

theorem order_fit (a : Option Addr) (len cap : Nat) (bs : List Int) (p q : Int) (w : World) (hr : Rd .u8 w a len bs) (_hc : len ≤ cap) (hL : len ≤ 140737488351232) (_h0 : i64 p) (_h1 : i64 q) :
    Calls Try.prog 4 #[.slice a len cap, .agg #[.int .i64 p, .int .i64 q]] w fun e w' => e = .returned (.bool true) ∧ Below w.heap.size w w' := by
  by_cases h : len < 2
  · exact (order_zero a len cap p q w h).mono fun _ _ ⟨he, hg⟩ => ⟨he, Below.of_none hg⟩
  · exact (order_walk a len cap bs p q w hr hL (by omega)).mono fun _ _ ⟨he, hg⟩ => ⟨he, Below.of_none hg⟩
end Go.Proofs.Ytajbenpekphllaa
