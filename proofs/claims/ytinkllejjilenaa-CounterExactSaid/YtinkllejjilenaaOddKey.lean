/- Dice: odd keys. -/
import Derived.Test.YtinkllejjilenaaDiceKey
import Derived.Test.YtinkllejjilenaaSched2
import Derived.Deep.Cut
namespace Go.Proofs.Ytinkllejjilenaa
open Go.ChangeShapes Go.WideShapes Go.ChangeAt Go.RowKit

def OddPost (p : Nat) (w : World) (e : Ending) (w' : World) : Prop := ∃ (a : Option Addr) (l c : Nat) (a' : Option Addr) (l' c' : Nat) (n b d : Int),
  e = .returned (KeyVal a l c a' l' c' n b d) ∧ i64 n ∧ i64 b ∧ i64 d ∧ Die w' p ∧ w.grownBy w' (some p)
set_option maxHeartbeats 2000000 in
theorem oddkey_any (p : Nat) (a : Option Addr) (c : Nat) (xs : List Int) (a' : Option Addr) (c' : Nat) (xs' : List Int) (n b d : Int) (w : World) (hd : Die w p) (_ha : Rd .u8 w a 32 xs) (hc : 32 ≤ c) (ha' : Rd .u8 w a' 16 xs')
    (hn : 0 ≤ n ∧ n < 5) (hb : 0 ≤ b ∧ b < 3) (hdd : 0 ≤ d ∧ d < 2) (hp' : ∀ b off, a' = some ⟨b, off, none⟩ → p < b) :
    Calls Try.prog 32 #[.pointer (some ⟨p, 0, none⟩), KeyVal a 32 c a' 16 c' n b d] w (OddPost p w) := by
  have hplt := hd.lt
  have HC := Lib.hid ha'
  go_enter Try.func32, Try.ntmps32
  go_wp2_with fail
  obtain ⟨w1, hw1⟩ : ∃ x, x = (w.alloc (.cells #[.slice a 32 c, .slice a' 16 c', .int .i64 n, .int .i64 b, .int .i64 d] 50)).alloc (.cells #[.slice none 0 0, .slice none 0 0, .int .i64 0, .int .i64 0, .int .i64 0] 50) := ⟨_, rfl⟩
  rw [← hw1]
  have hg1 : Gr w w1 := by rw [hw1]; exact (Gr.alloc _ _).trans (Gr.alloc _ _)
  have hk1 : w1.heap[w.heap.size]? = some (.cells #[.slice a 32 c, .slice a' 16 c', .int .i64 n, .int .i64 b, .int .i64 d] 50 (0, 0)) := by rw [hw1]; exact heap_alloc2_old _ _ _
  have hr1 : w1.heap[w.heap.size + 1]? = some (.cells #[.slice none 0 0, .slice none 0 0, .int .i64 0, .int .i64 0, .int .i64 0] 50 (0, 0)) := by rw [hw1]; exact heap_alloc2_new _ _ _
  clear hw1
  refine (next_any p 5 w1 (hd.kept hg1 (by simp)) (by omega) (by omega)).mono ?_
  rintro e w2 ⟨v, rfl, v1, v2, hd2, hg2⟩
  have hK2 := (hg2.block _ (heap_lt hk1) (by simp; omega)).trans hk1
  have hR2 := (hg2.block _ (heap_lt hr1) (by simp; omega)).trans hr1
  have hC2 := rd_keptBut (HC.out.kept hg1) hg2 (fun b off _ h e => by have := hp' b off h; injection e; omega)
  have HK2 := Lib.hid hK2
  have HR2 := Lib.hid hR2
  have HC2 := Lib.hid hC2
  have HG2 := Lib.hid (grown_trans' (grown_weak hg1 (some p)) hg2)
  have hz2 : w.heap.size + 1 < w2.heap.size := heap_lt hR2
  clear hg1 hk1 hr1 hg2 hK2 hR2 hC2 ha' hp'
  have hv : v = 0 ∨ v = 1 ∨ v = 2 ∨ v = 3 ∨ v = 4 := by omega
  rcases hv with rfl | rfl | rfl | rfl | rfl
  · have hI2 : ∀ u, Gr w2 u → u.cell? ⟨w.heap.size, 0, none⟩ = some (.slice a 32 c) := fun u h => h.cell (by rw [cell_of_block HK2.out]; rfl)
    go_wp2_with fail
    refine Sched2.wp_region_sched (fun u => u.cell? ⟨w.heap.size, 0, none⟩ = some (.slice a 32 c)) [0, 1, 2, 5] [] [3, 4, 6] true hI2 (by kernel_rfl) (by kernel_rfl) ?_
    repeat (first | (refine Sched2.walk1_ord rfl ?_) | (refine Sched2.walk1_no rfl rfl rfl (fun K hK => ?_); simp only [Act.put, List.setIfInBounds_toArray, List.set_cons_zero, List.set_cons_succ]; refine hK _ ?_; clear hK K) | (refine Sched2.walk1_gr rfl rfl rfl rfl (fun K hK => ?_); apply Exists.intro; refine ⟨fun w1 hw1 => ?_, ?_⟩; (focus (go_simp; (try go_ints); (try (simp only [IntWalk.iteOmega]; go_simp)); first | done | fail | (with_reducible rfl) | (with_reducible exact ⟨rfl, rfl⟩))); simp only [Act.put, List.setIfInBounds_toArray, List.set_cons_zero, List.set_cons_succ]; refine hK _ ?_; clear hK K) | (refine Sched2.walk1_late rfl rfl rfl rfl (fun K hK => ?_); apply Exists.intro; refine ⟨fun w1 hw1 => ?_, ?_⟩; (focus (go_simp; (try go_ints); (try (simp only [IntWalk.iteOmega]; go_simp)); first | done | fail | (with_reducible rfl) | (with_reducible exact ⟨rfl, rfl⟩))); simp only [Act.put, List.setIfInBounds_toArray, List.set_cons_zero, List.set_cons_succ]; refine hK _ ?_; clear hK K) | (refine Sched2.walk1_box rfl rfl rfl ?_; apply Exists.intro; refine ⟨fun w1 hw1 => ?_, ?_⟩; (focus (go_simp; exact ⟨Gr.alloc _ _, rfl, by simp, heap_alloc_new _ _⟩))))
    refine Sched2.walk1_nil ?_
    intro wq hwq
    have hKq := (hwq.block _ (heap_lt HK2.out) (by simp)).trans HK2.out
    have hRq := (hwq.block _ (heap_lt HR2.out) (by simp)).trans HR2.out
    have HKQ := Lib.hid hKq
    have HRQ := Lib.hid hRq
    have HGQ := Lib.hid (grown_trans' HG2.out (grown_weak hwq (some p)))
    have hdq := hd2.kept hwq (by simp)
    have f_o := frozen_of_block hKq 0
    have x_o : wq.cell? ⟨w.heap.size, 0, none⟩ = some (.slice a 32 c) := by rw [cell_of_block hKq]; rfl
    clear hKq hRq hwq hI2
    dsimp only [Sched.EndN, List.nil_append, List.cons_append, Act.put]
    (try simp only [List.setIfInBounds_toArray, List.set_cons_zero, List.set_cons_succ])
    simp only [Sched2.lasts, List.filterMap_cons, List.filterMap_nil, List.getElem?_toArray, List.getElem?_cons_succ, List.getElem?_cons_zero]
    repeat (first | (refine Sched2.walk2_no rfl (fun K hK => ?_); simp only [Act.put, List.setIfInBounds_toArray, List.set_cons_zero, List.set_cons_succ]; refine hK _ ?_; clear hK K) | (refine Sched2.walk2_go rfl (fun K hK => ?_); go_simp; (try go_ints); (try (simp only [IntWalk.iteOmega]; go_simp)); first | (refine hK _ _ (by first | exact .inl ⟨rfl, rfl⟩ | exact .inr ((by assumption))) ?_; clear hK K) | (go_at_call 51; refine (next_any p 32 wq hdq (by omega) (by omega)).mono ?_; rintro e w4 ⟨u, rfl, u1, u2, hd4, hg4⟩; have hK4 := (hg4.block _ (heap_lt HKQ.out) (by simp; omega)).trans HKQ.out; have hR4 := (hg4.block _ (heap_lt HRQ.out) (by simp; omega)).trans HRQ.out; have x_4 : w4.cell? ⟨w.heap.size, 0, none⟩ = some (.slice a 32 c) := (by rw [cell_of_block hK4]; rfl); have f_4 := frozen_of_block hK4 0; have HK4 := Lib.hid hK4; have HR4 := Lib.hid hR4; have HG4 := Lib.hid (grown_trans' HGQ.out hg4); clear hK4 hR4 hg4 x_o f_o; refine ⟨_, rfl, ?_⟩; refine hK _ _ (.inr x_4) ?_; clear hK K)))
    refine Sched2.walk2_nil ?_
    clear x_4 f_4
    have hkn := heap_setCell_eq HK4.out 0 (.slice a u.toNat c)
    simp only [List.setIfInBounds_toArray] at hkn
    dsimp only [List.set] at hkn
    have hrn := (heap_setCell_ne w4 ⟨w.heap.size, 0, none⟩ (.slice a u.toNat c) (w.heap.size + 1) (by simp)).trans HR4.out
    have hgn := grown_new HG4.out (a := ⟨w.heap.size, 0, none⟩) (Nat.le_refl _) (.slice a u.toNat c)
    have hdn := hd4.kept (grown_setAt w4 w.heap.size 0 (.slice a u.toNat c)) (by simp; omega)
    obtain ⟨w5, hwn⟩ : ∃ x, x = w4.setCell ⟨w.heap.size, 0, none⟩ (.slice a u.toNat c) := ⟨_, rfl⟩
    rw [← hwn] at hkn hrn hgn hdn
    rw [← hwn]
    have HKN := Lib.hid hkn
    have HRN := Lib.hid hrn
    have HGN := Lib.hid hgn
    clear hwn hkn hrn hgn
    have hk_ := HKN.out
    have hr_ := HRN.out
    have x_0 : w5.cell? ⟨w.heap.size, 0, none⟩ = some (.slice a u.toNat c) := by rw [cell_of_block hk_]; rfl
    have x_1 : w5.cell? ⟨w.heap.size, 1, none⟩ = some (.slice a' 16 c') := by rw [cell_of_block hk_]; rfl
    have x_2 : w5.cell? ⟨w.heap.size, 2, none⟩ = some (.int .i64 n) := by rw [cell_of_block hk_]; rfl
    have x_3 : w5.cell? ⟨w.heap.size, 3, none⟩ = some (.int .i64 b) := by rw [cell_of_block hk_]; rfl
    have x_4 : w5.cell? ⟨w.heap.size, 4, none⟩ = some (.int .i64 d) := by rw [cell_of_block hk_]; rfl
    have y_0 : w5.cell? ⟨w.heap.size + 1, 0, none⟩ = some (.slice none 0 0) := by rw [cell_of_block hr_]; rfl
    have y_1 : w5.cell? ⟨w.heap.size + 1, 1, none⟩ = some (.slice none 0 0) := by rw [cell_of_block hr_]; rfl
    have y_2 : w5.cell? ⟨w.heap.size + 1, 2, none⟩ = some (.int .i64 0) := by rw [cell_of_block hr_]; rfl
    have y_3 : w5.cell? ⟨w.heap.size + 1, 3, none⟩ = some (.int .i64 0) := by rw [cell_of_block hr_]; rfl
    have y_4 : w5.cell? ⟨w.heap.size + 1, 4, none⟩ = some (.int .i64 0) := by rw [cell_of_block hr_]; rfl
    have f_ := frozen_of_block hr_
    have f_0 := f_ 0
    have f_1 := f_ 1
    have f_2 := f_ 2
    have f_3 := f_ 3
    have f_4 := f_ 4
    clear f_ hk_ hr_
    go_wp2_with fail
    clear x_0 x_1 x_2 x_3 x_4 y_0 y_1 y_2 y_3 y_4 f_0 f_1 f_2 f_3 f_4
    have hb8 := block_set5 HRN.out (.slice a u.toNat c) (.slice a' 16 c') (.int .i64 n) (.int .i64 b) (.int .i64 d)
    have hG8 := grown_set5 w5 (w.heap.size + 1) (.slice a u.toNat c) (.slice a' 16 c') (.int .i64 n) (.int .i64 b) (.int .i64 d)
    refine bodyPost_ret (v := .agg #[(.slice a u.toNat c), (.slice a' 16 c'), .int .i64 n, .int .i64 b, .int .i64 d]) (results_cell_row Try.results32 _ _ (w.heap.size + 1) _ _ _ _ rfl hb8 Try.underlying50 rfl (by kernel_rfl)) rfl ⟨_, _, _, _, _, _, n, b, d, rfl, by constructor <;> omega, by constructor <;> omega, by constructor <;> omega, hdn.kept hG8 (by simp; omega), ?_⟩
    exact grown_new (grown_new (grown_new (grown_new (grown_new HGN.out (by simp) _) (by simp) _) (by simp) _) (by simp) _) (by simp) _
  · have x_o : w2.cell? ⟨w.heap.size, 1, none⟩ = some (.slice a' 16 c') := by rw [cell_of_block HK2.out]; rfl
    have f_o := frozen_of_block HK2.out 1
    obtain ⟨a3, c3, w3, hrun3, ho3, hg3, hf3⟩ := app_u8_nil w2.heap.size w2 a' 16 c' xs' HC2.out (by omega) (Nat.le_refl _)
    have hrd := rd_new (k := .u8) (w := w3) [1] 5 (0, 0) 1 rfl (by simp [maxLen]) (by intro z hz; simp at hz; subst hz; exact WalkArith.wf_u8 (by omega))
    obtain ⟨a4, c4, w4, hrun4, ho4, hg4, hf4⟩ := app_u8 w2.heap.size (w3.alloc (.cells ([1].map (Value.int .u8)).toArray 5)) a3 16 c3 xs' (ho3.stay (World.grownBy_alloc _ _ _)) (some ⟨w3.heap.size, 0, none⟩) 1 1 _ hrd (by omega) (by have := hg3.size; simp; omega)
    simp only [List.map_cons, List.map_nil] at hrun4 hg4 hf4
    have hg34 : Gr w2 w4 := grown_own (Gr.trans hg3 (Gr.alloc _ _)) (ho3.stay (World.grownBy_alloc _ _ _)) (Nat.le_refl _) hg4
    have HRN3 := Lib.hid hrun3
    have HRN4 := Lib.hid hrun4
    have hK4 := (hg34.block _ (heap_lt HK2.out) (by simp)).trans HK2.out
    have hR4 := (hg34.block _ (heap_lt HR2.out) (by simp)).trans HR2.out
    have HK4 := Lib.hid hK4
    have HR4 := Lib.hid hR4
    have HG4 := Lib.hid (grown_trans' HG2.out (grown_weak hg34 (some p)))
    have hd4 := hd2.kept hg34 (by simp)
    have x_4 : w4.cell? ⟨w.heap.size, 1, none⟩ = some (.slice a' 16 c') := by rw [cell_of_block HK4.out]; rfl
    have f_4 := frozen_of_block HK4.out 1
    clear hrun3 hrun4 ho3 ho4 hg3 hg4 hf3 hf4 hrd hg34 hK4 hR4
    go_upto_region 11 with (first | (at_builtin; refine wpList_app rfl _ _ _ rfl rfl rfl HRN3.out ?_) | (at_builtin; refine wpList_app rfl _ _ _ rfl rfl rfl HRN4.out ?_))
    clear x_4 f_4 x_o f_o
    have hkn := heap_setCell_eq HK4.out 1 (.slice a4 17 c4)
    simp only [List.setIfInBounds_toArray] at hkn
    dsimp only [List.set] at hkn
    have hrn := (heap_setCell_ne w4 ⟨w.heap.size, 1, none⟩ (.slice a4 17 c4) (w.heap.size + 1) (by simp)).trans HR4.out
    have hgn := grown_new HG4.out (a := ⟨w.heap.size, 1, none⟩) (Nat.le_refl _) (.slice a4 17 c4)
    have hdn := hd4.kept (grown_setAt w4 w.heap.size 1 (.slice a4 17 c4)) (by simp; omega)
    obtain ⟨w5, hwn⟩ : ∃ x, x = w4.setCell ⟨w.heap.size, 1, none⟩ (.slice a4 17 c4) := ⟨_, rfl⟩
    rw [← hwn] at hkn hrn hgn hdn
    rw [← hwn]
    have HKN := Lib.hid hkn
    have HRN := Lib.hid hrn
    have HGN := Lib.hid hgn
    clear hwn hkn hrn hgn
    have hk_ := HKN.out
    have hr_ := HRN.out
    have x_0 : w5.cell? ⟨w.heap.size, 0, none⟩ = some (.slice a 32 c) := by rw [cell_of_block hk_]; rfl
    have x_1 : w5.cell? ⟨w.heap.size, 1, none⟩ = some (.slice a4 17 c4) := by rw [cell_of_block hk_]; rfl
    have x_2 : w5.cell? ⟨w.heap.size, 2, none⟩ = some (.int .i64 n) := by rw [cell_of_block hk_]; rfl
    have x_3 : w5.cell? ⟨w.heap.size, 3, none⟩ = some (.int .i64 b) := by rw [cell_of_block hk_]; rfl
    have x_4 : w5.cell? ⟨w.heap.size, 4, none⟩ = some (.int .i64 d) := by rw [cell_of_block hk_]; rfl
    have y_0 : w5.cell? ⟨w.heap.size + 1, 0, none⟩ = some (.slice none 0 0) := by rw [cell_of_block hr_]; rfl
    have y_1 : w5.cell? ⟨w.heap.size + 1, 1, none⟩ = some (.slice none 0 0) := by rw [cell_of_block hr_]; rfl
    have y_2 : w5.cell? ⟨w.heap.size + 1, 2, none⟩ = some (.int .i64 0) := by rw [cell_of_block hr_]; rfl
    have y_3 : w5.cell? ⟨w.heap.size + 1, 3, none⟩ = some (.int .i64 0) := by rw [cell_of_block hr_]; rfl
    have y_4 : w5.cell? ⟨w.heap.size + 1, 4, none⟩ = some (.int .i64 0) := by rw [cell_of_block hr_]; rfl
    have f_ := frozen_of_block hr_
    have f_0 := f_ 0
    have f_1 := f_ 1
    have f_2 := f_ 2
    have f_3 := f_ 3
    have f_4 := f_ 4
    clear f_ hk_ hr_
    go_wp2_with fail
    clear x_0 x_1 x_2 x_3 x_4 y_0 y_1 y_2 y_3 y_4 f_0 f_1 f_2 f_3 f_4
    have hb8 := block_set5 HRN.out (.slice a 32 c) (.slice a4 17 c4) (.int .i64 n) (.int .i64 b) (.int .i64 d)
    have hG8 := grown_set5 w5 (w.heap.size + 1) (.slice a 32 c) (.slice a4 17 c4) (.int .i64 n) (.int .i64 b) (.int .i64 d)
    refine bodyPost_ret (v := .agg #[(.slice a 32 c), (.slice a4 17 c4), .int .i64 n, .int .i64 b, .int .i64 d]) (results_cell_row Try.results32 _ _ (w.heap.size + 1) _ _ _ _ rfl hb8 Try.underlying50 rfl (by kernel_rfl)) rfl ⟨_, _, _, _, _, _, n, b, d, rfl, by constructor <;> omega, by constructor <;> omega, by constructor <;> omega, hdn.kept hG8 (by simp; omega), ?_⟩
    exact grown_new (grown_new (grown_new (grown_new (grown_new HGN.out (by simp) _) (by simp) _) (by simp) _) (by simp) _) (by simp) _
  · have x_o : w2.cell? ⟨w.heap.size, 2, none⟩ = some (.int .i64 n) := by rw [cell_of_block HK2.out]; rfl
    have f_o := frozen_of_block HK2.out 2
    go_wp2_with fail
    obtain ⟨w3, hw3⟩ : ∃ x, x = w2.alloc (.cells #[.int .i64 (-1), .int .i64 4294967296, .int .i64 4294967295] 3) := ⟨_, rfl⟩
    rw [← hw3]
    have hg3 : Gr w2 w3 := by rw [hw3]; exact Gr.alloc _ _
    have hl3 : w3.heap[w2.heap.size]? = some (.cells #[.int .i64 (-1), .int .i64 4294967296, .int .i64 4294967295] 3 (0, 0)) := by rw [hw3]; exact heap_alloc_new _ _
    clear hw3 x_o f_o
    have hp2 : p < w2.heap.size := hd2.lt
    refine (next_any p 3 w3 (hd2.kept hg3 (by simp)) (by omega) (by omega)).mono ?_
    rintro e w4 ⟨u, rfl, u1, u2, hd4, hg4⟩
    have hg24 := grown_trans' (grown_weak hg3 (some p)) hg4
    have hL4 := (hg4.block _ (heap_lt hl3) (by simp; omega)).trans hl3
    have hK4 := (hg24.block _ (heap_lt HK2.out) (by simp; omega)).trans HK2.out
    have hR4 := (hg24.block _ (heap_lt HR2.out) (by simp; omega)).trans HR2.out
    have HL4 := Lib.hid hL4
    have HK4 := Lib.hid hK4
    have HR4 := Lib.hid hR4
    have HG4 := Lib.hid (grown_trans' HG2.out hg24)
    clear hg3 hl3 hg4 hg24 hL4 hK4 hR4
    have x_o : w4.cell? ⟨w.heap.size, 2, none⟩ = some (.int .i64 n) := by rw [cell_of_block HK4.out]; rfl
    have f_o := frozen_of_block HK4.out 2
    have hu : u = 0 ∨ u = 1 ∨ u = 2 := by omega
    rcases hu with rfl | rfl | rfl
    · have l_o : w4.cell? ⟨w2.heap.size, 0, none⟩ = some (.int .i64 (-1)) := by rw [cell_of_block HL4.out]; rfl
      go_upto_region 11 with (fail)
      clear x_o f_o l_o
      have hkn := heap_setCell_eq HK4.out 2 (.int .i64 (-1))
      simp only [List.setIfInBounds_toArray] at hkn
      dsimp only [List.set] at hkn
      have hrn := (heap_setCell_ne w4 ⟨w.heap.size, 2, none⟩ (.int .i64 (-1)) (w.heap.size + 1) (by simp)).trans HR4.out
      have hgn := grown_new HG4.out (a := ⟨w.heap.size, 2, none⟩) (Nat.le_refl _) (.int .i64 (-1))
      have hdn := hd4.kept (grown_setAt w4 w.heap.size 2 (.int .i64 (-1))) (by simp; omega)
      obtain ⟨w5, hwn⟩ : ∃ x, x = w4.setCell ⟨w.heap.size, 2, none⟩ (.int .i64 (-1)) := ⟨_, rfl⟩
      rw [← hwn] at hkn hrn hgn hdn
      rw [← hwn]
      have HKN := Lib.hid hkn
      have HRN := Lib.hid hrn
      have HGN := Lib.hid hgn
      clear hwn hkn hrn hgn
      have hk_ := HKN.out
      have hr_ := HRN.out
      have x_0 : w5.cell? ⟨w.heap.size, 0, none⟩ = some (.slice a 32 c) := by rw [cell_of_block hk_]; rfl
      have x_1 : w5.cell? ⟨w.heap.size, 1, none⟩ = some (.slice a' 16 c') := by rw [cell_of_block hk_]; rfl
      have x_2 : w5.cell? ⟨w.heap.size, 2, none⟩ = some (.int .i64 (-1)) := by rw [cell_of_block hk_]; rfl
      have x_3 : w5.cell? ⟨w.heap.size, 3, none⟩ = some (.int .i64 b) := by rw [cell_of_block hk_]; rfl
      have x_4 : w5.cell? ⟨w.heap.size, 4, none⟩ = some (.int .i64 d) := by rw [cell_of_block hk_]; rfl
      have y_0 : w5.cell? ⟨w.heap.size + 1, 0, none⟩ = some (.slice none 0 0) := by rw [cell_of_block hr_]; rfl
      have y_1 : w5.cell? ⟨w.heap.size + 1, 1, none⟩ = some (.slice none 0 0) := by rw [cell_of_block hr_]; rfl
      have y_2 : w5.cell? ⟨w.heap.size + 1, 2, none⟩ = some (.int .i64 0) := by rw [cell_of_block hr_]; rfl
      have y_3 : w5.cell? ⟨w.heap.size + 1, 3, none⟩ = some (.int .i64 0) := by rw [cell_of_block hr_]; rfl
      have y_4 : w5.cell? ⟨w.heap.size + 1, 4, none⟩ = some (.int .i64 0) := by rw [cell_of_block hr_]; rfl
      have f_ := frozen_of_block hr_
      have f_0 := f_ 0
      have f_1 := f_ 1
      have f_2 := f_ 2
      have f_3 := f_ 3
      have f_4 := f_ 4
      clear f_ hk_ hr_
      go_wp2_with fail
      clear x_0 x_1 x_2 x_3 x_4 y_0 y_1 y_2 y_3 y_4 f_0 f_1 f_2 f_3 f_4
      have hb8 := block_set5 HRN.out (.slice a 32 c) (.slice a' 16 c') (.int .i64 (-1)) (.int .i64 b) (.int .i64 d)
      have hG8 := grown_set5 w5 (w.heap.size + 1) (.slice a 32 c) (.slice a' 16 c') (.int .i64 (-1)) (.int .i64 b) (.int .i64 d)
      refine bodyPost_ret (v := .agg #[(.slice a 32 c), (.slice a' 16 c'), .int .i64 (-1), .int .i64 b, .int .i64 d]) (results_cell_row Try.results32 _ _ (w.heap.size + 1) _ _ _ _ rfl hb8 Try.underlying50 rfl (by kernel_rfl)) rfl ⟨_, _, _, _, _, _, (-1), b, d, rfl, by constructor <;> omega, by constructor <;> omega, by constructor <;> omega, hdn.kept hG8 (by simp; omega), ?_⟩
      exact grown_new (grown_new (grown_new (grown_new (grown_new HGN.out (by simp) _) (by simp) _) (by simp) _) (by simp) _) (by simp) _
    · have l_o : w4.cell? ⟨w2.heap.size, 1, none⟩ = some (.int .i64 4294967296) := by rw [cell_of_block HL4.out]; rfl
      go_upto_region 11 with (fail)
      clear x_o f_o l_o
      have hkn := heap_setCell_eq HK4.out 2 (.int .i64 4294967296)
      simp only [List.setIfInBounds_toArray] at hkn
      dsimp only [List.set] at hkn
      have hrn := (heap_setCell_ne w4 ⟨w.heap.size, 2, none⟩ (.int .i64 4294967296) (w.heap.size + 1) (by simp)).trans HR4.out
      have hgn := grown_new HG4.out (a := ⟨w.heap.size, 2, none⟩) (Nat.le_refl _) (.int .i64 4294967296)
      have hdn := hd4.kept (grown_setAt w4 w.heap.size 2 (.int .i64 4294967296)) (by simp; omega)
      obtain ⟨w5, hwn⟩ : ∃ x, x = w4.setCell ⟨w.heap.size, 2, none⟩ (.int .i64 4294967296) := ⟨_, rfl⟩
      rw [← hwn] at hkn hrn hgn hdn
      rw [← hwn]
      have HKN := Lib.hid hkn
      have HRN := Lib.hid hrn
      have HGN := Lib.hid hgn
      clear hwn hkn hrn hgn
      have hk_ := HKN.out
      have hr_ := HRN.out
      have x_0 : w5.cell? ⟨w.heap.size, 0, none⟩ = some (.slice a 32 c) := by rw [cell_of_block hk_]; rfl
      have x_1 : w5.cell? ⟨w.heap.size, 1, none⟩ = some (.slice a' 16 c') := by rw [cell_of_block hk_]; rfl
      have x_2 : w5.cell? ⟨w.heap.size, 2, none⟩ = some (.int .i64 4294967296) := by rw [cell_of_block hk_]; rfl
      have x_3 : w5.cell? ⟨w.heap.size, 3, none⟩ = some (.int .i64 b) := by rw [cell_of_block hk_]; rfl
      have x_4 : w5.cell? ⟨w.heap.size, 4, none⟩ = some (.int .i64 d) := by rw [cell_of_block hk_]; rfl
      have y_0 : w5.cell? ⟨w.heap.size + 1, 0, none⟩ = some (.slice none 0 0) := by rw [cell_of_block hr_]; rfl
      have y_1 : w5.cell? ⟨w.heap.size + 1, 1, none⟩ = some (.slice none 0 0) := by rw [cell_of_block hr_]; rfl
      have y_2 : w5.cell? ⟨w.heap.size + 1, 2, none⟩ = some (.int .i64 0) := by rw [cell_of_block hr_]; rfl
      have y_3 : w5.cell? ⟨w.heap.size + 1, 3, none⟩ = some (.int .i64 0) := by rw [cell_of_block hr_]; rfl
      have y_4 : w5.cell? ⟨w.heap.size + 1, 4, none⟩ = some (.int .i64 0) := by rw [cell_of_block hr_]; rfl
      have f_ := frozen_of_block hr_
      have f_0 := f_ 0
      have f_1 := f_ 1
      have f_2 := f_ 2
      have f_3 := f_ 3
      have f_4 := f_ 4
      clear f_ hk_ hr_
      go_wp2_with fail
      clear x_0 x_1 x_2 x_3 x_4 y_0 y_1 y_2 y_3 y_4 f_0 f_1 f_2 f_3 f_4
      have hb8 := block_set5 HRN.out (.slice a 32 c) (.slice a' 16 c') (.int .i64 4294967296) (.int .i64 b) (.int .i64 d)
      have hG8 := grown_set5 w5 (w.heap.size + 1) (.slice a 32 c) (.slice a' 16 c') (.int .i64 4294967296) (.int .i64 b) (.int .i64 d)
      refine bodyPost_ret (v := .agg #[(.slice a 32 c), (.slice a' 16 c'), .int .i64 4294967296, .int .i64 b, .int .i64 d]) (results_cell_row Try.results32 _ _ (w.heap.size + 1) _ _ _ _ rfl hb8 Try.underlying50 rfl (by kernel_rfl)) rfl ⟨_, _, _, _, _, _, 4294967296, b, d, rfl, by constructor <;> omega, by constructor <;> omega, by constructor <;> omega, hdn.kept hG8 (by simp; omega), ?_⟩
      exact grown_new (grown_new (grown_new (grown_new (grown_new HGN.out (by simp) _) (by simp) _) (by simp) _) (by simp) _) (by simp) _
    · have l_o : w4.cell? ⟨w2.heap.size, 2, none⟩ = some (.int .i64 4294967295) := by rw [cell_of_block HL4.out]; rfl
      go_upto_region 11 with (fail)
      clear x_o f_o l_o
      have hkn := heap_setCell_eq HK4.out 2 (.int .i64 4294967295)
      simp only [List.setIfInBounds_toArray] at hkn
      dsimp only [List.set] at hkn
      have hrn := (heap_setCell_ne w4 ⟨w.heap.size, 2, none⟩ (.int .i64 4294967295) (w.heap.size + 1) (by simp)).trans HR4.out
      have hgn := grown_new HG4.out (a := ⟨w.heap.size, 2, none⟩) (Nat.le_refl _) (.int .i64 4294967295)
      have hdn := hd4.kept (grown_setAt w4 w.heap.size 2 (.int .i64 4294967295)) (by simp; omega)
      obtain ⟨w5, hwn⟩ : ∃ x, x = w4.setCell ⟨w.heap.size, 2, none⟩ (.int .i64 4294967295) := ⟨_, rfl⟩
      rw [← hwn] at hkn hrn hgn hdn
      rw [← hwn]
      have HKN := Lib.hid hkn
      have HRN := Lib.hid hrn
      have HGN := Lib.hid hgn
      clear hwn hkn hrn hgn
      have hk_ := HKN.out
      have hr_ := HRN.out
      have x_0 : w5.cell? ⟨w.heap.size, 0, none⟩ = some (.slice a 32 c) := by rw [cell_of_block hk_]; rfl
      have x_1 : w5.cell? ⟨w.heap.size, 1, none⟩ = some (.slice a' 16 c') := by rw [cell_of_block hk_]; rfl
      have x_2 : w5.cell? ⟨w.heap.size, 2, none⟩ = some (.int .i64 4294967295) := by rw [cell_of_block hk_]; rfl
      have x_3 : w5.cell? ⟨w.heap.size, 3, none⟩ = some (.int .i64 b) := by rw [cell_of_block hk_]; rfl
      have x_4 : w5.cell? ⟨w.heap.size, 4, none⟩ = some (.int .i64 d) := by rw [cell_of_block hk_]; rfl
      have y_0 : w5.cell? ⟨w.heap.size + 1, 0, none⟩ = some (.slice none 0 0) := by rw [cell_of_block hr_]; rfl
      have y_1 : w5.cell? ⟨w.heap.size + 1, 1, none⟩ = some (.slice none 0 0) := by rw [cell_of_block hr_]; rfl
      have y_2 : w5.cell? ⟨w.heap.size + 1, 2, none⟩ = some (.int .i64 0) := by rw [cell_of_block hr_]; rfl
      have y_3 : w5.cell? ⟨w.heap.size + 1, 3, none⟩ = some (.int .i64 0) := by rw [cell_of_block hr_]; rfl
      have y_4 : w5.cell? ⟨w.heap.size + 1, 4, none⟩ = some (.int .i64 0) := by rw [cell_of_block hr_]; rfl
      have f_ := frozen_of_block hr_
      have f_0 := f_ 0
      have f_1 := f_ 1
      have f_2 := f_ 2
      have f_3 := f_ 3
      have f_4 := f_ 4
      clear f_ hk_ hr_
      go_wp2_with fail
      clear x_0 x_1 x_2 x_3 x_4 y_0 y_1 y_2 y_3 y_4 f_0 f_1 f_2 f_3 f_4
      have hb8 := block_set5 HRN.out (.slice a 32 c) (.slice a' 16 c') (.int .i64 4294967295) (.int .i64 b) (.int .i64 d)
      have hG8 := grown_set5 w5 (w.heap.size + 1) (.slice a 32 c) (.slice a' 16 c') (.int .i64 4294967295) (.int .i64 b) (.int .i64 d)
      refine bodyPost_ret (v := .agg #[(.slice a 32 c), (.slice a' 16 c'), .int .i64 4294967295, .int .i64 b, .int .i64 d]) (results_cell_row Try.results32 _ _ (w.heap.size + 1) _ _ _ _ rfl hb8 Try.underlying50 rfl (by kernel_rfl)) rfl ⟨_, _, _, _, _, _, 4294967295, b, d, rfl, by constructor <;> omega, by constructor <;> omega, by constructor <;> omega, hdn.kept hG8 (by simp; omega), ?_⟩
      exact grown_new (grown_new (grown_new (grown_new (grown_new HGN.out (by simp) _) (by simp) _) (by simp) _) (by simp) _) (by simp) _
  · have x_o : w2.cell? ⟨w.heap.size, 3, none⟩ = some (.int .i64 b) := by rw [cell_of_block HK2.out]; rfl
    have f_o := frozen_of_block HK2.out 3
    go_wp2_with fail
    obtain ⟨w3, hw3⟩ : ∃ x, x = w2.alloc (.cells #[.int .i64 (-1), .int .i64 255, .int .i64 256] 3) := ⟨_, rfl⟩
    rw [← hw3]
    have hg3 : Gr w2 w3 := by rw [hw3]; exact Gr.alloc _ _
    have hl3 : w3.heap[w2.heap.size]? = some (.cells #[.int .i64 (-1), .int .i64 255, .int .i64 256] 3 (0, 0)) := by rw [hw3]; exact heap_alloc_new _ _
    clear hw3 x_o f_o
    have hp2 : p < w2.heap.size := hd2.lt
    refine (next_any p 3 w3 (hd2.kept hg3 (by simp)) (by omega) (by omega)).mono ?_
    rintro e w4 ⟨u, rfl, u1, u2, hd4, hg4⟩
    have hg24 := grown_trans' (grown_weak hg3 (some p)) hg4
    have hL4 := (hg4.block _ (heap_lt hl3) (by simp; omega)).trans hl3
    have hK4 := (hg24.block _ (heap_lt HK2.out) (by simp; omega)).trans HK2.out
    have hR4 := (hg24.block _ (heap_lt HR2.out) (by simp; omega)).trans HR2.out
    have HL4 := Lib.hid hL4
    have HK4 := Lib.hid hK4
    have HR4 := Lib.hid hR4
    have HG4 := Lib.hid (grown_trans' HG2.out hg24)
    clear hg3 hl3 hg4 hg24 hL4 hK4 hR4
    have x_o : w4.cell? ⟨w.heap.size, 3, none⟩ = some (.int .i64 b) := by rw [cell_of_block HK4.out]; rfl
    have f_o := frozen_of_block HK4.out 3
    have hu : u = 0 ∨ u = 1 ∨ u = 2 := by omega
    rcases hu with rfl | rfl | rfl
    · have l_o : w4.cell? ⟨w2.heap.size, 0, none⟩ = some (.int .i64 (-1)) := by rw [cell_of_block HL4.out]; rfl
      go_upto_region 11 with (fail)
      clear x_o f_o l_o
      have hkn := heap_setCell_eq HK4.out 3 (.int .i64 (-1))
      simp only [List.setIfInBounds_toArray] at hkn
      dsimp only [List.set] at hkn
      have hrn := (heap_setCell_ne w4 ⟨w.heap.size, 3, none⟩ (.int .i64 (-1)) (w.heap.size + 1) (by simp)).trans HR4.out
      have hgn := grown_new HG4.out (a := ⟨w.heap.size, 3, none⟩) (Nat.le_refl _) (.int .i64 (-1))
      have hdn := hd4.kept (grown_setAt w4 w.heap.size 3 (.int .i64 (-1))) (by simp; omega)
      obtain ⟨w5, hwn⟩ : ∃ x, x = w4.setCell ⟨w.heap.size, 3, none⟩ (.int .i64 (-1)) := ⟨_, rfl⟩
      rw [← hwn] at hkn hrn hgn hdn
      rw [← hwn]
      have HKN := Lib.hid hkn
      have HRN := Lib.hid hrn
      have HGN := Lib.hid hgn
      clear hwn hkn hrn hgn
      have hk_ := HKN.out
      have hr_ := HRN.out
      have x_0 : w5.cell? ⟨w.heap.size, 0, none⟩ = some (.slice a 32 c) := by rw [cell_of_block hk_]; rfl
      have x_1 : w5.cell? ⟨w.heap.size, 1, none⟩ = some (.slice a' 16 c') := by rw [cell_of_block hk_]; rfl
      have x_2 : w5.cell? ⟨w.heap.size, 2, none⟩ = some (.int .i64 n) := by rw [cell_of_block hk_]; rfl
      have x_3 : w5.cell? ⟨w.heap.size, 3, none⟩ = some (.int .i64 (-1)) := by rw [cell_of_block hk_]; rfl
      have x_4 : w5.cell? ⟨w.heap.size, 4, none⟩ = some (.int .i64 d) := by rw [cell_of_block hk_]; rfl
      have y_0 : w5.cell? ⟨w.heap.size + 1, 0, none⟩ = some (.slice none 0 0) := by rw [cell_of_block hr_]; rfl
      have y_1 : w5.cell? ⟨w.heap.size + 1, 1, none⟩ = some (.slice none 0 0) := by rw [cell_of_block hr_]; rfl
      have y_2 : w5.cell? ⟨w.heap.size + 1, 2, none⟩ = some (.int .i64 0) := by rw [cell_of_block hr_]; rfl
      have y_3 : w5.cell? ⟨w.heap.size + 1, 3, none⟩ = some (.int .i64 0) := by rw [cell_of_block hr_]; rfl
      have y_4 : w5.cell? ⟨w.heap.size + 1, 4, none⟩ = some (.int .i64 0) := by rw [cell_of_block hr_]; rfl
      have f_ := frozen_of_block hr_
      have f_0 := f_ 0
      have f_1 := f_ 1
      have f_2 := f_ 2
      have f_3 := f_ 3
      have f_4 := f_ 4
      clear f_ hk_ hr_
      go_wp2_with fail
      clear x_0 x_1 x_2 x_3 x_4 y_0 y_1 y_2 y_3 y_4 f_0 f_1 f_2 f_3 f_4
      have hb8 := block_set5 HRN.out (.slice a 32 c) (.slice a' 16 c') (.int .i64 n) (.int .i64 (-1)) (.int .i64 d)
      have hG8 := grown_set5 w5 (w.heap.size + 1) (.slice a 32 c) (.slice a' 16 c') (.int .i64 n) (.int .i64 (-1)) (.int .i64 d)
      refine bodyPost_ret (v := .agg #[(.slice a 32 c), (.slice a' 16 c'), .int .i64 n, .int .i64 (-1), .int .i64 d]) (results_cell_row Try.results32 _ _ (w.heap.size + 1) _ _ _ _ rfl hb8 Try.underlying50 rfl (by kernel_rfl)) rfl ⟨_, _, _, _, _, _, n, (-1), d, rfl, by constructor <;> omega, by constructor <;> omega, by constructor <;> omega, hdn.kept hG8 (by simp; omega), ?_⟩
      exact grown_new (grown_new (grown_new (grown_new (grown_new HGN.out (by simp) _) (by simp) _) (by simp) _) (by simp) _) (by simp) _
    · have l_o : w4.cell? ⟨w2.heap.size, 1, none⟩ = some (.int .i64 255) := by rw [cell_of_block HL4.out]; rfl
      go_upto_region 11 with (fail)
      clear x_o f_o l_o
      have hkn := heap_setCell_eq HK4.out 3 (.int .i64 255)
      simp only [List.setIfInBounds_toArray] at hkn
      dsimp only [List.set] at hkn
      have hrn := (heap_setCell_ne w4 ⟨w.heap.size, 3, none⟩ (.int .i64 255) (w.heap.size + 1) (by simp)).trans HR4.out
      have hgn := grown_new HG4.out (a := ⟨w.heap.size, 3, none⟩) (Nat.le_refl _) (.int .i64 255)
      have hdn := hd4.kept (grown_setAt w4 w.heap.size 3 (.int .i64 255)) (by simp; omega)
      obtain ⟨w5, hwn⟩ : ∃ x, x = w4.setCell ⟨w.heap.size, 3, none⟩ (.int .i64 255) := ⟨_, rfl⟩
      rw [← hwn] at hkn hrn hgn hdn
      rw [← hwn]
      have HKN := Lib.hid hkn
      have HRN := Lib.hid hrn
      have HGN := Lib.hid hgn
      clear hwn hkn hrn hgn
      have hk_ := HKN.out
      have hr_ := HRN.out
      have x_0 : w5.cell? ⟨w.heap.size, 0, none⟩ = some (.slice a 32 c) := by rw [cell_of_block hk_]; rfl
      have x_1 : w5.cell? ⟨w.heap.size, 1, none⟩ = some (.slice a' 16 c') := by rw [cell_of_block hk_]; rfl
      have x_2 : w5.cell? ⟨w.heap.size, 2, none⟩ = some (.int .i64 n) := by rw [cell_of_block hk_]; rfl
      have x_3 : w5.cell? ⟨w.heap.size, 3, none⟩ = some (.int .i64 255) := by rw [cell_of_block hk_]; rfl
      have x_4 : w5.cell? ⟨w.heap.size, 4, none⟩ = some (.int .i64 d) := by rw [cell_of_block hk_]; rfl
      have y_0 : w5.cell? ⟨w.heap.size + 1, 0, none⟩ = some (.slice none 0 0) := by rw [cell_of_block hr_]; rfl
      have y_1 : w5.cell? ⟨w.heap.size + 1, 1, none⟩ = some (.slice none 0 0) := by rw [cell_of_block hr_]; rfl
      have y_2 : w5.cell? ⟨w.heap.size + 1, 2, none⟩ = some (.int .i64 0) := by rw [cell_of_block hr_]; rfl
      have y_3 : w5.cell? ⟨w.heap.size + 1, 3, none⟩ = some (.int .i64 0) := by rw [cell_of_block hr_]; rfl
      have y_4 : w5.cell? ⟨w.heap.size + 1, 4, none⟩ = some (.int .i64 0) := by rw [cell_of_block hr_]; rfl
      have f_ := frozen_of_block hr_
      have f_0 := f_ 0
      have f_1 := f_ 1
      have f_2 := f_ 2
      have f_3 := f_ 3
      have f_4 := f_ 4
      clear f_ hk_ hr_
      go_wp2_with fail
      clear x_0 x_1 x_2 x_3 x_4 y_0 y_1 y_2 y_3 y_4 f_0 f_1 f_2 f_3 f_4
      have hb8 := block_set5 HRN.out (.slice a 32 c) (.slice a' 16 c') (.int .i64 n) (.int .i64 255) (.int .i64 d)
      have hG8 := grown_set5 w5 (w.heap.size + 1) (.slice a 32 c) (.slice a' 16 c') (.int .i64 n) (.int .i64 255) (.int .i64 d)
      refine bodyPost_ret (v := .agg #[(.slice a 32 c), (.slice a' 16 c'), .int .i64 n, .int .i64 255, .int .i64 d]) (results_cell_row Try.results32 _ _ (w.heap.size + 1) _ _ _ _ rfl hb8 Try.underlying50 rfl (by kernel_rfl)) rfl ⟨_, _, _, _, _, _, n, 255, d, rfl, by constructor <;> omega, by constructor <;> omega, by constructor <;> omega, hdn.kept hG8 (by simp; omega), ?_⟩
      exact grown_new (grown_new (grown_new (grown_new (grown_new HGN.out (by simp) _) (by simp) _) (by simp) _) (by simp) _) (by simp) _
    · have l_o : w4.cell? ⟨w2.heap.size, 2, none⟩ = some (.int .i64 256) := by rw [cell_of_block HL4.out]; rfl
      go_upto_region 11 with (fail)
      clear x_o f_o l_o
      have hkn := heap_setCell_eq HK4.out 3 (.int .i64 256)
      simp only [List.setIfInBounds_toArray] at hkn
      dsimp only [List.set] at hkn
      have hrn := (heap_setCell_ne w4 ⟨w.heap.size, 3, none⟩ (.int .i64 256) (w.heap.size + 1) (by simp)).trans HR4.out
      have hgn := grown_new HG4.out (a := ⟨w.heap.size, 3, none⟩) (Nat.le_refl _) (.int .i64 256)
      have hdn := hd4.kept (grown_setAt w4 w.heap.size 3 (.int .i64 256)) (by simp; omega)
      obtain ⟨w5, hwn⟩ : ∃ x, x = w4.setCell ⟨w.heap.size, 3, none⟩ (.int .i64 256) := ⟨_, rfl⟩
      rw [← hwn] at hkn hrn hgn hdn
      rw [← hwn]
      have HKN := Lib.hid hkn
      have HRN := Lib.hid hrn
      have HGN := Lib.hid hgn
      clear hwn hkn hrn hgn
      have hk_ := HKN.out
      have hr_ := HRN.out
      have x_0 : w5.cell? ⟨w.heap.size, 0, none⟩ = some (.slice a 32 c) := by rw [cell_of_block hk_]; rfl
      have x_1 : w5.cell? ⟨w.heap.size, 1, none⟩ = some (.slice a' 16 c') := by rw [cell_of_block hk_]; rfl
      have x_2 : w5.cell? ⟨w.heap.size, 2, none⟩ = some (.int .i64 n) := by rw [cell_of_block hk_]; rfl
      have x_3 : w5.cell? ⟨w.heap.size, 3, none⟩ = some (.int .i64 256) := by rw [cell_of_block hk_]; rfl
      have x_4 : w5.cell? ⟨w.heap.size, 4, none⟩ = some (.int .i64 d) := by rw [cell_of_block hk_]; rfl
      have y_0 : w5.cell? ⟨w.heap.size + 1, 0, none⟩ = some (.slice none 0 0) := by rw [cell_of_block hr_]; rfl
      have y_1 : w5.cell? ⟨w.heap.size + 1, 1, none⟩ = some (.slice none 0 0) := by rw [cell_of_block hr_]; rfl
      have y_2 : w5.cell? ⟨w.heap.size + 1, 2, none⟩ = some (.int .i64 0) := by rw [cell_of_block hr_]; rfl
      have y_3 : w5.cell? ⟨w.heap.size + 1, 3, none⟩ = some (.int .i64 0) := by rw [cell_of_block hr_]; rfl
      have y_4 : w5.cell? ⟨w.heap.size + 1, 4, none⟩ = some (.int .i64 0) := by rw [cell_of_block hr_]; rfl
      have f_ := frozen_of_block hr_
      have f_0 := f_ 0
      have f_1 := f_ 1
      have f_2 := f_ 2
      have f_3 := f_ 3
      have f_4 := f_ 4
      clear f_ hk_ hr_
      go_wp2_with fail
      clear x_0 x_1 x_2 x_3 x_4 y_0 y_1 y_2 y_3 y_4 f_0 f_1 f_2 f_3 f_4
      have hb8 := block_set5 HRN.out (.slice a 32 c) (.slice a' 16 c') (.int .i64 n) (.int .i64 256) (.int .i64 d)
      have hG8 := grown_set5 w5 (w.heap.size + 1) (.slice a 32 c) (.slice a' 16 c') (.int .i64 n) (.int .i64 256) (.int .i64 d)
      refine bodyPost_ret (v := .agg #[(.slice a 32 c), (.slice a' 16 c'), .int .i64 n, .int .i64 256, .int .i64 d]) (results_cell_row Try.results32 _ _ (w.heap.size + 1) _ _ _ _ rfl hb8 Try.underlying50 rfl (by kernel_rfl)) rfl ⟨_, _, _, _, _, _, n, 256, d, rfl, by constructor <;> omega, by constructor <;> omega, by constructor <;> omega, hdn.kept hG8 (by simp; omega), ?_⟩
      exact grown_new (grown_new (grown_new (grown_new (grown_new HGN.out (by simp) _) (by simp) _) (by simp) _) (by simp) _) (by simp) _
  · have x_2 : w2.cell? ⟨w.heap.size, 2, none⟩ = some (.int .i64 n) := by rw [cell_of_block HK2.out]; rfl
    go_wp2_with fail
    refine (next_any p 4 w2 hd2 (by omega) (by omega)).mono ?_
    rintro e w3 ⟨u, rfl, u1, u2, hd3, hg3⟩
    have hK3 := (hg3.block _ (heap_lt HK2.out) (by simp; omega)).trans HK2.out
    have hR3 := (hg3.block _ (heap_lt HR2.out) (by simp; omega)).trans HR2.out
    have HK3 := Lib.hid hK3
    have HR3 := Lib.hid hR3
    have HG3 := Lib.hid (grown_trans' HG2.out hg3)
    have z_4 : w3.cell? ⟨w.heap.size, 4, none⟩ = some (.int .i64 d) := by rw [cell_of_block hK3]; rfl
    have zf4 := frozen_of_block hK3 4
    clear hK3 hR3 hg3 x_2
    go_upto_region 11 with (fail)
    clear z_4 zf4
    have hkn := heap_setCell_eq HK3.out 4 (.int .i64 (u - 1))
    simp only [List.setIfInBounds_toArray] at hkn
    dsimp only [List.set] at hkn
    have hrn := (heap_setCell_ne w3 ⟨w.heap.size, 4, none⟩ (.int .i64 (u - 1)) (w.heap.size + 1) (by simp)).trans HR3.out
    have hgn := grown_new HG3.out (a := ⟨w.heap.size, 4, none⟩) (Nat.le_refl _) (.int .i64 (u - 1))
    have hdn := hd3.kept (grown_setAt w3 w.heap.size 4 (.int .i64 (u - 1))) (by simp; omega)
    obtain ⟨w5, hwn⟩ : ∃ x, x = w3.setCell ⟨w.heap.size, 4, none⟩ (.int .i64 (u - 1)) := ⟨_, rfl⟩
    rw [← hwn] at hkn hrn hgn hdn
    rw [← hwn]
    have HKN := Lib.hid hkn
    have HRN := Lib.hid hrn
    have HGN := Lib.hid hgn
    clear hwn hkn hrn hgn
    have hk_ := HKN.out
    have hr_ := HRN.out
    have x_0 : w5.cell? ⟨w.heap.size, 0, none⟩ = some (.slice a 32 c) := by rw [cell_of_block hk_]; rfl
    have x_1 : w5.cell? ⟨w.heap.size, 1, none⟩ = some (.slice a' 16 c') := by rw [cell_of_block hk_]; rfl
    have x_2 : w5.cell? ⟨w.heap.size, 2, none⟩ = some (.int .i64 n) := by rw [cell_of_block hk_]; rfl
    have x_3 : w5.cell? ⟨w.heap.size, 3, none⟩ = some (.int .i64 b) := by rw [cell_of_block hk_]; rfl
    have x_4 : w5.cell? ⟨w.heap.size, 4, none⟩ = some (.int .i64 (u - 1)) := by rw [cell_of_block hk_]; rfl
    have y_0 : w5.cell? ⟨w.heap.size + 1, 0, none⟩ = some (.slice none 0 0) := by rw [cell_of_block hr_]; rfl
    have y_1 : w5.cell? ⟨w.heap.size + 1, 1, none⟩ = some (.slice none 0 0) := by rw [cell_of_block hr_]; rfl
    have y_2 : w5.cell? ⟨w.heap.size + 1, 2, none⟩ = some (.int .i64 0) := by rw [cell_of_block hr_]; rfl
    have y_3 : w5.cell? ⟨w.heap.size + 1, 3, none⟩ = some (.int .i64 0) := by rw [cell_of_block hr_]; rfl
    have y_4 : w5.cell? ⟨w.heap.size + 1, 4, none⟩ = some (.int .i64 0) := by rw [cell_of_block hr_]; rfl
    have f_ := frozen_of_block hr_
    have f_0 := f_ 0
    have f_1 := f_ 1
    have f_2 := f_ 2
    have f_3 := f_ 3
    have f_4 := f_ 4
    clear f_ hk_ hr_
    go_wp2_with fail
    clear x_0 x_1 x_2 x_3 x_4 y_0 y_1 y_2 y_3 y_4 f_0 f_1 f_2 f_3 f_4
    have hb8 := block_set5 HRN.out (.slice a 32 c) (.slice a' 16 c') (.int .i64 n) (.int .i64 b) (.int .i64 (u - 1))
    have hG8 := grown_set5 w5 (w.heap.size + 1) (.slice a 32 c) (.slice a' 16 c') (.int .i64 n) (.int .i64 b) (.int .i64 (u - 1))
    refine bodyPost_ret (v := .agg #[(.slice a 32 c), (.slice a' 16 c'), .int .i64 n, .int .i64 b, .int .i64 (u - 1)]) (results_cell_row Try.results32 _ _ (w.heap.size + 1) _ _ _ _ rfl hb8 Try.underlying50 rfl (by kernel_rfl)) rfl ⟨_, _, _, _, _, _, n, b, (u - 1), rfl, by constructor <;> omega, by constructor <;> omega, by constructor <;> omega, hdn.kept hG8 (by simp; omega), ?_⟩
    exact grown_new (grown_new (grown_new (grown_new (grown_new HGN.out (by simp) _) (by simp) _) (by simp) _) (by simp) _) (by simp) _
end Go.Proofs.Ytinkllejjilenaa
