/- Layer 06 (flow): when dynamic parameters are valid; the program's Changed. -/
import Derived.Test.YtmojlengjoicoaaFlowB
namespace Go.Proofs.Ytmojlengjoicoaa
open Go.ChangeShapes Go.WideShapes Go.ChangeAt Go.RowKit

abbrev DVal (s f : Int) : Value := .agg #[.int .i64 s, .int .i64 f]
def dynB (s f : Int) : Bool := decide (0 ≤ s) && (decide (s ≤ 65535) && (decide (f = 0) || decide (f = 1)))
theorem dyn_any (s f : Int) (w : World) : Calls Try.prog 56 #[DVal s f] w fun e w' => e = .returned (.bool (dynB s f)) ∧ Gr w w' := by
  by_cases h1 : s < 0
  · have hv : dynB s f = false := by unfold dynB; rw [decide_eq_false (by omega)]; rfl
    rw [hv]
    clear hv
    go_enter Try.func56, Try.ntmps56
    go_wp2
    go_ret
    exact ⟨rfl, Gr.alloc _ _⟩
  · by_cases h2 : 65535 < s
    · have hv : dynB s f = false := by unfold dynB; rw [decide_eq_false (show ¬ s ≤ 65535 by omega)]; simp
      rw [hv]
      clear hv
      go_enter Try.func56, Try.ntmps56
      go_wp2
      go_ret
      exact ⟨rfl, Gr.alloc _ _⟩
    · by_cases h3 : f = 0
      · subst h3
        have hv : dynB s 0 = true := by unfold dynB; rw [decide_eq_true (show 0 ≤ s by omega), decide_eq_true (show s ≤ 65535 by omega)]; rfl
        rw [hv]
        clear hv
        go_enter Try.func56, Try.ntmps56
        go_wp2
        go_ret
        exact ⟨rfl, Gr.alloc _ _⟩
      · by_cases h4 : f = 1
        · subst h4
          have hv : dynB s 1 = true := by unfold dynB; rw [decide_eq_true (show 0 ≤ s by omega), decide_eq_true (show s ≤ 65535 by omega)]; rfl
          rw [hv]
          clear hv
          go_enter Try.func56, Try.ntmps56
          go_wp2
          go_ret
          exact ⟨rfl, Gr.alloc _ _⟩
        · have hv : dynB s f = false := by unfold dynB; rw [decide_eq_false h3, decide_eq_false h4]; simp
          have e3 : (f == 0) = false := by simpa using h3
          have e4 : (f == 1) = false := by simpa using h4
          rw [hv]
          clear hv h3 h4
          go_enter Try.func56, Try.ntmps56
          go_wp2
          go_ret
          exact ⟨rfl, Gr.alloc _ _⟩
theorem rdyn_any (s f : Int) (w : World) : Calls Try.prog 38 #[DVal s f] w fun e w' => e = .returned (.bool (dynB s f)) ∧ Gr w w' := by
  by_cases h1 : s < 0
  · have hv : dynB s f = false := by unfold dynB; rw [decide_eq_false (by omega)]; rfl
    rw [hv]
    clear hv
    go_enter Try.func38, Try.ntmps38
    go_wp2
    go_ret
    exact ⟨rfl, Gr.alloc _ _⟩
  · by_cases h2 : 65535 < s
    · have hv : dynB s f = false := by unfold dynB; rw [decide_eq_false (show ¬ s ≤ 65535 by omega)]; simp
      rw [hv]
      clear hv
      go_enter Try.func38, Try.ntmps38
      go_wp2
      go_ret
      exact ⟨rfl, Gr.alloc _ _⟩
    · by_cases h3 : f = 0
      · subst h3
        have hv : dynB s 0 = true := by unfold dynB; rw [decide_eq_true (show 0 ≤ s by omega), decide_eq_true (show s ≤ 65535 by omega)]; rfl
        rw [hv]
        clear hv
        go_enter Try.func38, Try.ntmps38
        go_wp2
        go_ret
        exact ⟨rfl, Gr.alloc _ _⟩
      · by_cases h4 : f = 1
        · subst h4
          have hv : dynB s 1 = true := by unfold dynB; rw [decide_eq_true (show 0 ≤ s by omega), decide_eq_true (show s ≤ 65535 by omega)]; rfl
          rw [hv]
          clear hv
          go_enter Try.func38, Try.ntmps38
          go_wp2
          go_ret
          exact ⟨rfl, Gr.alloc _ _⟩
        · have hv : dynB s f = false := by unfold dynB; rw [decide_eq_false h3, decide_eq_false h4]; simp
          have e3 : (f == 0) = false := by simpa using h3
          have e4 : (f == 1) = false := by simpa using h4
          rw [hv]
          clear hv h3 h4
          go_enter Try.func38, Try.ntmps38
          go_wp2
          go_ret
          exact ⟨rfl, Gr.alloc _ _⟩
/-! ### Changed -/
def chAt (p q r s t : Bool) : Nat → Int
  | 0 => 0
  | 1 => if p then 1 else 0
  | 2 => (if p then 1 else 0) + (if q then 2 else 0)
  | 3 => (if p then 1 else 0) + ((if q then 2 else 0) + (if r then 4 else 0))
  | 4 => (if p then 1 else 0) + ((if q then 2 else 0) + ((if r then 4 else 0) + (if s then 8 else 0)))
  | _ => ch5 p q r s t
theorem chAt_rng (p q r s t : Bool) (k : Nat) (hk : k ≤ 5) : 0 ≤ chAt p q r s t k ∧ chAt p q r s t k ≤ 31 := by
  have h6 : k = 0 ∨ k = 1 ∨ k = 2 ∨ k = 3 ∨ k = 4 ∨ k = 5 := by omega
  rcases h6 with rfl | rfl | rfl | rfl | rfl | rfl <;> cases p <;> cases q <;> cases r <;> cases s <;> cases t <;> decide
theorem chAt_step (p q r s t : Bool) : chAt p q r s t 1 = chAt p q r s t 0 + (if p then 1 else 0) ∧ chAt p q r s t 2 = chAt p q r s t 1 + (if q then 2 else 0) ∧ chAt p q r s t 3 = chAt p q r s t 2 + (if r then 4 else 0) ∧ chAt p q r s t 4 = chAt p q r s t 3 + (if s then 8 else 0) ∧ chAt p q r s t 5 = chAt p q r s t 4 + (if t then 16 else 0) := by
  cases p <;> cases q <;> cases r <;> cases s <;> cases t <;> decide
theorem changed_any (a b : Hdr) (w : World) : Calls Try.prog 30 #[HVal a, HVal b] w fun e w' => e = .returned (.int .i64 (chH a b)) ∧ Gr w w' := by
  unfold chH
  obtain ⟨p, hp⟩ : ∃ p, (a.tos != b.tos) = p := ⟨_, rfl⟩
  obtain ⟨q, hq⟩ : ∃ p, (a.ttl != b.ttl) = p := ⟨_, rfl⟩
  obtain ⟨r, hr⟩ : ∃ p, (a.fixed != b.fixed) = p := ⟨_, rfl⟩
  obtain ⟨s, hs⟩ : ∃ p, (a.type != b.type) = p := ⟨_, rfl⟩
  obtain ⟨t, ht⟩ : ∃ p, (!((a.check == 0) == (b.check == 0))) = p := ⟨_, rfl⟩
  have ht2 : ((a.check == 0) != (b.check == 0)) = t := ht
  rw [hp, hq, hr, hs, ht2]
  clear ht2
  have i0 : ∀ u : World, (Instr.index 72 (.agg #[.bool p, .bool q, .bool r, .bool s, .bool t]) (.int .i64 0)).run Try.prog u = .ok (.bool p) u := fun u => run_index_cell (j := 0) u Try.underlying72 (by kernel_rfl) Try.underlying4 (by kernel_rfl) (by decide) rfl
  have i1 : ∀ u : World, (Instr.index 72 (.agg #[.bool p, .bool q, .bool r, .bool s, .bool t]) (.int .i64 1)).run Try.prog u = .ok (.bool q) u := fun u => run_index_cell (j := 1) u Try.underlying72 (by kernel_rfl) Try.underlying4 (by kernel_rfl) (by decide) rfl
  have i2 : ∀ u : World, (Instr.index 72 (.agg #[.bool p, .bool q, .bool r, .bool s, .bool t]) (.int .i64 2)).run Try.prog u = .ok (.bool r) u := fun u => run_index_cell (j := 2) u Try.underlying72 (by kernel_rfl) Try.underlying4 (by kernel_rfl) (by decide) rfl
  have i3 : ∀ u : World, (Instr.index 72 (.agg #[.bool p, .bool q, .bool r, .bool s, .bool t]) (.int .i64 3)).run Try.prog u = .ok (.bool s) u := fun u => run_index_cell (j := 3) u Try.underlying72 (by kernel_rfl) Try.underlying4 (by kernel_rfl) (by decide) rfl
  have i4 : ∀ u : World, (Instr.index 72 (.agg #[.bool p, .bool q, .bool r, .bool s, .bool t]) (.int .i64 4)).run Try.prog u = .ok (.bool t) u := fun u => run_index_cell (j := 4) u Try.underlying72 (by kernel_rfl) Try.underlying4 (by kernel_rfl) (by decide) rfl
  go_enter Try.func30, Try.ntmps30
  go_wp2_with fail
  clear hp hq hr hs ht
  go_loop [5, 6, 7, 36] (fun n _ _ i => ∃ k : Nat, k ≤ 5 ∧ i = .int .i64 k ∧ n = .int .i64 (chAt p q r s t k)) (fun _ _ _ i => 5 - (intOf i).toNat)
  case atStart => exact ⟨0, by omega, rfl, rfl⟩
  case round =>
    obtain ⟨k, hk, rfl, rfl⟩ := hrel
    have h6 : k = 0 ∨ k = 1 ∨ k = 2 ∨ k = 3 ∨ k = 4 ∨ k = 5 := by omega
    rcases h6 with rfl | rfl | rfl | rfl | rfl | rfl
    · obtain ⟨N, hN⟩ : ∃ N, chAt p q r s t 0 = N := ⟨_, rfl⟩
      have hrn := chAt_rng p q r s t 0 (by omega)
      have hst := (chAt_step p q r s t).1
      rw [hN] at hrn hst
      rw [hN]
      obtain ⟨r1, r2⟩ := hrn
      have HST := Lib.hid hst
      clear hN hst
      cases p
      · go_wp2_with fail
        go_round
        case rel => exact ⟨0 + 1, by omega, rfl, by rw [HST.out]; simp⟩
        case measure => simp [intOf]
      · go_wp2_with fail
        go_round
        case rel => exact ⟨0 + 1, by omega, rfl, by rw [HST.out]; simp⟩
        case measure => simp [intOf]
    · obtain ⟨N, hN⟩ : ∃ N, chAt p q r s t 1 = N := ⟨_, rfl⟩
      have hrn := chAt_rng p q r s t 1 (by omega)
      have hst := (chAt_step p q r s t).2.1
      rw [hN] at hrn hst
      rw [hN]
      obtain ⟨r1, r2⟩ := hrn
      have HST := Lib.hid hst
      clear hN hst
      cases q
      · go_wp2_with fail
        go_round
        case rel => exact ⟨1 + 1, by omega, rfl, by rw [HST.out]; simp⟩
        case measure => simp [intOf]
      · go_wp2_with fail
        go_round
        case rel => exact ⟨1 + 1, by omega, rfl, by rw [HST.out]; simp⟩
        case measure => simp [intOf]
    · obtain ⟨N, hN⟩ : ∃ N, chAt p q r s t 2 = N := ⟨_, rfl⟩
      have hrn := chAt_rng p q r s t 2 (by omega)
      have hst := (chAt_step p q r s t).2.2.1
      rw [hN] at hrn hst
      rw [hN]
      obtain ⟨r1, r2⟩ := hrn
      have HST := Lib.hid hst
      clear hN hst
      cases r
      · go_wp2_with fail
        go_round
        case rel => exact ⟨2 + 1, by omega, rfl, by rw [HST.out]; simp⟩
        case measure => simp [intOf]
      · go_wp2_with fail
        go_round
        case rel => exact ⟨2 + 1, by omega, rfl, by rw [HST.out]; simp⟩
        case measure => simp [intOf]
    · obtain ⟨N, hN⟩ : ∃ N, chAt p q r s t 3 = N := ⟨_, rfl⟩
      have hrn := chAt_rng p q r s t 3 (by omega)
      have hst := (chAt_step p q r s t).2.2.2.1
      rw [hN] at hrn hst
      rw [hN]
      obtain ⟨r1, r2⟩ := hrn
      have HST := Lib.hid hst
      clear hN hst
      cases s
      · go_wp2_with fail
        go_round
        case rel => exact ⟨3 + 1, by omega, rfl, by rw [HST.out]; simp⟩
        case measure => simp [intOf]
      · go_wp2_with fail
        go_round
        case rel => exact ⟨3 + 1, by omega, rfl, by rw [HST.out]; simp⟩
        case measure => simp [intOf]
    · obtain ⟨N, hN⟩ : ∃ N, chAt p q r s t 4 = N := ⟨_, rfl⟩
      have hrn := chAt_rng p q r s t 4 (by omega)
      have hst := (chAt_step p q r s t).2.2.2.2
      rw [hN] at hrn hst
      rw [hN]
      obtain ⟨r1, r2⟩ := hrn
      have HST := Lib.hid hst
      clear hN hst
      cases t
      · go_wp2_with fail
        go_round
        case rel => exact ⟨4 + 1, by omega, rfl, by rw [HST.out]; simp⟩
        case measure => simp [intOf]
      · go_wp2_with fail
        go_round
        case rel => exact ⟨4 + 1, by omega, rfl, by rw [HST.out]; simp⟩
        case measure => simp [intOf]
    · go_wp2_with fail
      go_ret
      exact ⟨rfl, (Gr.alloc _ _).trans (Gr.alloc _ _)⟩
end Go.Proofs.Ytmojlengjoicoaa
