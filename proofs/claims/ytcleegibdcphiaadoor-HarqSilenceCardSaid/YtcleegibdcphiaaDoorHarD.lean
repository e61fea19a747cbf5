/- Layer 29 (harq): pack of the program, bytes of the reference. -/
import Derived.Test.YtcleegibdcphiaaDoorHarC
import Derived.Test.YtcleegibdcphiaaDoorBools
import Derived.Test.YtcleegibdcphiaaDoorSched2
namespace Go.Proofs.YtcleegibdcphiaaDoor
open Go.ChangeShapes Go.WideShapes Go.ChangeAt Go.RowKit

theorem make_bytes29 (m : Nat) (hm : m ≤ 100000) (w : World) : (Instr.makeSlice 22 (.int .i64 (m : Int)) (.int .i64 (m : Int))).run Tryd.prog w = .ok (.slice (some ⟨w.heap.size, 0, none⟩) m m) (w.alloc (.cells (Array.replicate m (.int .u8 0)) 5)) := by
  obtain ⟨i0, hi, hz0, hz1, hz2⟩ := info_parts info_u8
  have := run_make (P := Tryd.prog) w 22 5 i0 _ Tryd.underlying22 hi hz0 .i64 .i64 m m (by omega) (by omega) (by rw [hz2]; omega) (by omega)
  rw [hz1] at this
  have e : madeCells (Value.int .u8 0).cells m = Array.replicate m (.int .u8 0) := by
    apply Array.ext
    · simp [madeCells]
    · intro i h1 h2
      have h3 : i % 1 = 0 := Nat.mod_one i
      simp [madeCells, Value.cells, h3]
  simp only [Int.toNat_natCast, Nat.mul_one] at this
  rw [e] at this
  exact this
theorem own_made_u8 (B m : Nat) (w : World) (hB : B ≤ w.heap.size) (hm : m ≤ maxLen) : OwnI B 5 .u8 (w.alloc (.cells (Array.replicate m (.int .u8 0)) 5)) (some ⟨w.heap.size, 0, none⟩) m m (List.replicate m 0) := by
  refine ⟨?_, ?_⟩
  · refine ⟨by simp, .inr ⟨w.heap.size, m, _, rfl, hB, heap_alloc_new _ _, Nat.le_refl _, hm, by simp, ?_⟩⟩
    simp
  · intro x hx
    rw [List.eq_of_mem_replicate hx]; decide
def PackPost (L : List Int) (n : Nat) (w : World) (e : Ending) (w' : World) : Prop := ∃ (a : Option Addr), e = .returned (.slice a n n) ∧ OwnI w.heap.size 5 .u8 w' a n n (packL L n) ∧ Gr w w'
set_option maxRecDepth 20000 in
set_option maxHeartbeats 2000000 in
theorem pack_any (a : Option Addr) (n cap : Nat) (xs : List Int) (w : World) (hr : Rd .i64 w a (8 * n) xs) (hb : ∀ x ∈ xs, x = 0 ∨ x = 1) (hn : n ≤ 10000) (hcap : 8 * n ≤ cap) :
    Calls Tryd.prog 53 #[.slice a (8 * n) cap] w (PackPost xs n w) := by
  have hrl := hr.1
  have hmk := fun u => make_bytes29 n (by omega) u
  have HR := Lib.hid hr
  have HRL := Lib.hid hrl
  have HB := Lib.hid hb
  clear hr hrl hb
  go_enter Tryd.func53, Tryd.ntmps53
  go_upto_region 2 with (fail)
  obtain ⟨w1, hw1⟩ : ∃ y, y = w.alloc (.cells (Array.replicate n (.int .u8 0)) 5) := ⟨_, rfl⟩
  have ho0 := own_made_u8 w.heap.size n w (Nat.le_refl _) (by simp only [maxLen]; omega)
  have hg1 : Gr w w1 := by rw [hw1]; exact Gr.alloc _ _
  rw [← hw1] at ho0
  rw [← hw1]
  rw [← stP_zero xs] at ho0
  have HG1 := Lib.hid hg1
  have HO0 := Lib.hid ho0
  clear hw1 ho0 hg1 hmk
  go_wp2_with fail
  go_loopw [16] (fun t wr => ∃ i : Nat, i ≤ 8 * n ∧ t = .int .i64 i ∧ OwnI w.heap.size 5 .u8 wr (some ⟨w.heap.size, 0, none⟩) n n (stP xs n i) ∧ Gr w wr) (fun t _ => 8 * n - (intOf t).toNat)
  case atStart => exact ⟨0, by omega, rfl, HO0.out, HG1.out⟩
  case round =>
    clear HO0 HG1
    obtain ⟨i, hi, rfl, ho, hg⟩ := hrel
    have HO := Lib.hid ho
    have HG := Lib.hid hg
    clear ho hg
    by_cases hlt : i < 8 * n
    · obtain ⟨b, off, ea, _, hc⟩ := HR.out.some (by omega)
      subst ea
      have ck := HG.out.cell (hc i hlt)
      obtain ⟨x, hx⟩ : ∃ x, xs[i]?.getD 0 = x := ⟨_, rfl⟩
      rw [hx] at ck
      clear hc
      have hx01 := HB.out x (by rw [← hx, List.getElem?_eq_getElem (by rw [HRL.out]; exact hlt)]; exact List.getElem_mem _)
      have hst := stP_step xs n i (by rw [HRL.out]; exact hlt)
      have hat := stP_at xs n i hlt
      have hrg := gotL_rng xs i (by rw [HRL.out]; exact hlt) HB.out
      rw [hx] at hst
      obtain ⟨V, hV⟩ : ∃ V, valL (gotL xs i (i / 8)) = V := ⟨_, rfl⟩
      rw [hV] at hst hat hrg
      obtain ⟨q, hq⟩ : ∃ q, i / 8 = q := ⟨_, rfl⟩
      obtain ⟨j, hj⟩ : ∃ j, i % 8 = j := ⟨_, rfl⟩
      rw [hq] at hst hat
      rw [hj] at hst hat hrg
      have hqn : q < n := by omega
      obtain ⟨c3, _⟩ := HO.out.at q hqn
      rw [hat] at c3
      have c4 : ∀ w1, Gr wr w1 → w1.cell? ⟨w.heap.size, q, none⟩ = some (.int .u8 (V * 2 ^ (8 - j))) := fun w1 h => h.cell c3
      have hqi : (i : Int) / 8 = (q : Int) := by omega
      have hji : (i : Int) % 8 = (j : Int) := by omega
      have hj7 : j < 8 := by omega
      have HST := Lib.hid hst
      clear hst hat hV hq hj hx c3
      go_upto_region 5 with (fail)
      refine Sched.wp_region_sched 13 [] [] (by kernel_rfl) (by kernel_rfl) ?_
      simp only [List.take_succ_cons, List.take_zero, List.drop_succ_cons, List.drop_zero]
      repeat (first | (refine Sched.walk1_no rfl rfl (fun K hK => ?_); simp only [Act.put, List.setIfInBounds_toArray, List.set_cons_zero, List.set_cons_succ]; refine hK _ ?_; clear hK K) | (refine Sched.walk1_gr rfl rfl rfl (fun K hK => ?_); apply Exists.intro; refine ⟨fun w1 hw1 => ?_, ?_⟩; (focus (go_simp; (try go_ints); (try (simp only [IntWalk.iteOmega]; go_simp)); first | done | fail | (with_reducible rfl) | (with_reducible exact ⟨rfl, rfl⟩))); simp only [Act.put, List.setIfInBounds_toArray, List.set_cons_zero, List.set_cons_succ]; refine hK _ ?_; clear hK K) | (refine Sched.walk1_pure rfl rfl rfl (fun K hK => ?_); apply Exists.intro; refine ⟨fun w1 => ?_, ?_⟩; (focus (go_simp; (try go_ints); (try (simp only [IntWalk.iteOmega]; go_simp)); first | done | (with_reducible rfl) | (with_reducible exact ⟨rfl, rfl⟩))); simp only [Act.put, List.setIfInBounds_toArray, List.set_cons_zero, List.set_cons_succ]; refine hK _ ?_; clear hK K) | (refine Sched.walk1_box rfl rfl ?_; apply Exists.intro; refine ⟨fun w1 hw1 => ?_, ?_⟩; (focus (go_simp; exact ⟨Gr.alloc _ _, rfl, by simp, heap_alloc_new _ _⟩))))
      refine Sched.walk1_nil ?_
      intro wq hwq
      have ho2 := HO.out.stay hwq
      obtain ⟨_, f5⟩ := ho2.at q hqn
      have HO2 := Lib.hid ho2
      have HW := Lib.hid hwq
      clear ho2 hwq c4 HO
      have hor := or_bit hrg hx01 hj7
      have hrng := or_rng hrg hx01 hj7
      have ho3 := HO2.out.set q ((2 * V + x) * 2 ^ (7 - j)) (WalkArith.wf_u8 hrng)
      rw [← HST.out] at ho3
      have hg3 := grown_set (HG.out.trans HW.out) (a := ⟨w.heap.size, q, none⟩) (Nat.le_refl _) (Value.int .u8 ((2 * V + x) * 2 ^ (7 - j)))
      have HO3 := Lib.hid ho3
      have HG3 := Lib.hid hg3
      have HOR := Lib.hid hor
      clear ho3 hg3 hrng hrg hor HO2
      dsimp only [Sched.EndN, List.nil_append, List.cons_append, Act.put]
      (try simp only [List.setIfInBounds_toArray, List.set_cons_zero, List.set_cons_succ])
      repeat (first | (refine Sched.walk2_no rfl (fun K hK => ?_); simp only [Act.put, List.setIfInBounds_toArray, List.set_cons_zero, List.set_cons_succ]; refine hK _ ?_; clear hK K) | (refine Sched.walk2_go rfl (fun K hK => ?_); go_simp; (try go_ints); (try (simp only [IntWalk.iteOmega]; go_simp)); first | (refine hK _ _ ?_; clear hK K) | fail))
      refine Sched.walk2_nil ?_
      rw [HOR.out]
      go_wp2_with fail
      go_roundw
      case rel => exact ⟨i + 1, by omega, by go_num, HO3.out, HG3.out⟩
      case measure => (simp [intOf] <;> omega)
    · obtain rfl : i = 8 * n := by omega
      have ho := HO.out
      rw [stP_all] at ho
      have HO2 := Lib.hid ho
      clear ho HO
      go_wp2_with fail
      go_ret
      exact ⟨_, rfl, HO2.out, HG.out⟩
set_option maxRecDepth 20000 in
set_option maxHeartbeats 2000000 in
theorem rbytes_any (a : Option Addr) (n cap : Nat) (xs : List Int) (w : World) (hr : Rd .i64 w a (8 * n) xs) (hb : ∀ x ∈ xs, x = 0 ∨ x = 1) (hn : n ≤ 10000) :
    Calls Tryd.prog 59 #[.slice a (8 * n) cap] w (PackPost xs n w) := by
  have hrl := hr.1
  have hmk := fun u => make_bytes29 n (by omega) u
  have HR := Lib.hid hr
  have HRL := Lib.hid hrl
  have HB := Lib.hid hb
  clear hr hrl hb
  go_enter Tryd.func59, Tryd.ntmps59
  go_upto_region 2 with (fail)
  obtain ⟨w1, hw1⟩ : ∃ y, y = w.alloc (.cells (Array.replicate n (.int .u8 0)) 5) := ⟨_, rfl⟩
  have ho0 := own_made_u8 w.heap.size n w (Nat.le_refl _) (by simp only [maxLen]; omega)
  have hg1 : Gr w w1 := by rw [hw1]; exact Gr.alloc _ _
  rw [← hw1] at ho0
  rw [← hw1]
  rw [← stR_zero xs] at ho0
  have HG1 := Lib.hid hg1
  have HO0 := Lib.hid ho0
  clear hw1 ho0 hg1 hmk
  go_wp2_with fail
  go_loopw [4] (fun t wr => ∃ i : Nat, i ≤ 8 * n ∧ t = .int .i64 i ∧ OwnI w.heap.size 5 .u8 wr (some ⟨w.heap.size, 0, none⟩) n n (stR xs n i) ∧ Gr w wr) (fun t _ => 8 * n - (intOf t).toNat)
  case atStart => exact ⟨0, by omega, rfl, HO0.out, HG1.out⟩
  case round =>
    clear HO0 HG1
    obtain ⟨i, hi, rfl, ho, hg⟩ := hrel
    have HO := Lib.hid ho
    have HG := Lib.hid hg
    clear ho hg
    by_cases hlt : i < 8 * n
    · obtain ⟨b, off, ea, _, hc⟩ := HR.out.some (by omega)
      subst ea
      have ck0 := HG.out.cell (hc i hlt)
      obtain ⟨x, hx⟩ : ∃ x, xs[i]?.getD 0 = x := ⟨_, rfl⟩
      rw [hx] at ck0
      clear hc
      have hx01 := HB.out x (by rw [← hx, List.getElem?_eq_getElem (by rw [HRL.out]; exact hlt)]; exact List.getElem_mem _)
      have hst := stR_step xs n i (by rw [HRL.out]; exact hlt)
      have hat := stR_at xs n i hlt
      have hrg := gotL_rng xs i (by rw [HRL.out]; exact hlt) HB.out
      rw [hx] at hst
      obtain ⟨V, hV⟩ : ∃ V, valL (gotL xs i (i / 8)) = V := ⟨_, rfl⟩
      rw [hV] at hst hat hrg
      have hV7 : 0 ≤ V ∧ V ≤ 127 := v_127 hrg (Nat.mod_lt _ (by decide))
      obtain ⟨q, hq⟩ : ∃ q, i / 8 = q := ⟨_, rfl⟩
      rw [hq] at hst hat
      have hqn : q < n := by omega
      obtain ⟨c3, _⟩ := HO.out.at q hqn
      rw [hat] at c3
      have c4 : ∀ w1, Gr wr w1 → w1.cell? ⟨w.heap.size, q, none⟩ = some (.int .u8 V) := fun w1 h => h.cell c3
      have ck : ∀ w1, Gr wr w1 → w1.cell? ⟨b, off + i, none⟩ = some (.int .i64 x) := fun w1 h => h.cell ck0
      have hqi : (i : Int) / 8 = (q : Int) := by omega
      have HST := Lib.hid hst
      clear hst hat hV hq hx c3 ck0 hrg
      go_upto_region 5 with (fail)
      refine Sched.wp_region_sched 16 [] [] (by kernel_rfl) (by kernel_rfl) ?_
      simp only [List.take_succ_cons, List.take_zero, List.drop_succ_cons, List.drop_zero]
      repeat (first | (refine Sched.walk1_no rfl rfl (fun K hK => ?_); simp only [Act.put, List.setIfInBounds_toArray, List.set_cons_zero, List.set_cons_succ]; refine hK _ ?_; clear hK K) | (refine Sched.walk1_gr rfl rfl rfl (fun K hK => ?_); apply Exists.intro; refine ⟨fun w1 hw1 => ?_, ?_⟩; (focus (go_simp; (try go_ints); (try (simp only [IntWalk.iteOmega]; go_simp)); first | done | fail | (with_reducible rfl) | (with_reducible exact ⟨rfl, rfl⟩))); simp only [Act.put, List.setIfInBounds_toArray, List.set_cons_zero, List.set_cons_succ]; refine hK _ ?_; clear hK K) | (refine Sched.walk1_pure rfl rfl rfl (fun K hK => ?_); apply Exists.intro; refine ⟨fun w1 => ?_, ?_⟩; (focus (go_simp; (try go_ints); (try (simp only [IntWalk.iteOmega]; go_simp)); first | done | (with_reducible rfl) | (with_reducible exact ⟨rfl, rfl⟩))); simp only [Act.put, List.setIfInBounds_toArray, List.set_cons_zero, List.set_cons_succ]; refine hK _ ?_; clear hK K) | (refine Sched.walk1_box rfl rfl ?_; apply Exists.intro; refine ⟨fun w1 hw1 => ?_, ?_⟩; (focus (go_simp; exact ⟨Gr.alloc _ _, rfl, by simp, heap_alloc_new _ _⟩))))
      refine Sched.walk1_nil ?_
      intro wq hwq
      have ho2 := HO.out.stay hwq
      obtain ⟨_, f5⟩ := ho2.at q hqn
      have HO2 := Lib.hid ho2
      have HW := Lib.hid hwq
      clear ho2 hwq c4 ck HO
      have hor := orr_bit hV7 hx01
      have hrng : 0 ≤ 2 * V + x ∧ 2 * V + x ≤ 255 := by omega
      have ho3 := HO2.out.set q (2 * V + x) (WalkArith.wf_u8 hrng)
      rw [← HST.out] at ho3
      have hg3 := grown_set (HG.out.trans HW.out) (a := ⟨w.heap.size, q, none⟩) (Nat.le_refl _) (Value.int .u8 (2 * V + x))
      have HO3 := Lib.hid ho3
      have HG3 := Lib.hid hg3
      have HOR := Lib.hid hor
      clear ho3 hg3 hrng hor HO2
      dsimp only [Sched.EndN, List.nil_append, List.cons_append, Act.put]
      (try simp only [List.setIfInBounds_toArray, List.set_cons_zero, List.set_cons_succ])
      repeat (first | (refine Sched.walk2_no rfl (fun K hK => ?_); simp only [Act.put, List.setIfInBounds_toArray, List.set_cons_zero, List.set_cons_succ]; refine hK _ ?_; clear hK K) | (refine Sched.walk2_go rfl (fun K hK => ?_); go_simp; (try go_ints); (try (simp only [IntWalk.iteOmega]; go_simp)); first | (refine hK _ _ ?_; clear hK K) | fail))
      refine Sched.walk2_nil ?_
      rw [HOR.out]
      go_wp2_with fail
      go_roundw
      case rel => exact ⟨i + 1, by omega, by go_num, HO3.out, HG3.out⟩
      case measure => (simp [intOf] <;> omega)
    · obtain rfl : i = 8 * n := by omega
      have ho := HO.out
      rw [stR_all] at ho
      have HO2 := Lib.hid ho
      clear ho HO
      go_wp2_with fail
      go_ret
      exact ⟨_, rfl, HO2.out, HG.out⟩
end Go.Proofs.YtcleegibdcphiaaDoor
