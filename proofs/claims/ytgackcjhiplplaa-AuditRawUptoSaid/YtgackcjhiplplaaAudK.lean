/- Layer 44 (audit): the reference: is; a queue of slices. -/
import Derived.Test.YtgackcjhiplplaaAudI
import Derived.Test.YtgackcjhiplplaaAudR
import Derived.Test.YtgackcjhiplplaaAudS
import Derived.ArgAppend
namespace Go.Proofs.Ytgackcjhiplplaa
open Go.ChangeShapes Go.WideShapes Go.ChangeAt Go.RowKit

theorem ris_any (r : Rec) (k t b d : Int) (w : World) :
    Calls Try.prog 34 #[RVal r, .int .i64 k, .int .i64 t, .int .i64 b, .int .i64 d] w fun e w' => e = .returned (.bool (sel k t b d r)) ∧ Gr w w' := by
  go_enter Try.func34, Try.ntmps34
  go_upto_region 1 with (fail)
  obtain ⟨w1, hw1⟩ : ∃ y, y = w.alloc (.cells (RCells r).toArray 27) := ⟨_, rfl⟩
  have hb1 : RBlk w.heap.size r w1 := by rw [hw1]; exact heap_alloc_new _ _
  have hg1 : Gr w w1 := by rw [hw1]; exact Gr.alloc _ _
  simp only [RCells] at hw1
  first | rw [← hw1] | (go_show; fail)
  have c1 := hb1.at 1 rfl
  have c2 := hb1.at 2 rfl
  have c3 := hb1.at 3 rfl
  have c5 := hb1.at 5 rfl
  have HG1 := Lib.hid hg1
  clear hw1 hb1 hg1
  obtain ⟨B1, e1⟩ : ∃ q, (r.kind == k) = q := ⟨_, rfl⟩
  obtain ⟨B2, e2⟩ : ∃ q, (r.term == t) = q := ⟨_, rfl⟩
  obtain ⟨B3, e3⟩ : ∃ q, (r.bear == b) = q := ⟨_, rfl⟩
  obtain ⟨B4, e4⟩ : ∃ q, (r.num == d) = q := ⟨_, rfl⟩
  have HS := Lib.hid (show sel k t b d r = (B1 && (B2 && (B3 && B4))) by rw [sel, e1, e2, e3, e4])
  cases B1
  · go_wp2_with fail
    go_ret
    exact ⟨ret_bool HS.out.symm, HG1.out⟩
  cases B2
  · go_wp2_with fail
    go_ret
    exact ⟨ret_bool HS.out.symm, HG1.out⟩
  cases B3
  · go_wp2_with fail
    go_ret
    exact ⟨ret_bool HS.out.symm, HG1.out⟩
  · go_wp2_with fail
    go_ret
    exact ⟨ret_bool HS.out.symm, HG1.out⟩
theorem ris_is {r : Rec} {k t b d : Int} {V : Bool} (h : sel k t b d r = V) (w : World) :
    Calls Try.prog 34 #[RVal r, .int .i64 k, .int .i64 t, .int .i64 b, .int .i64 d] w fun e w' => e = .returned (.bool V) ∧ Gr w w' := h ▸ ris_any r k t b d w
theorem sameb_is {xs ys : List Int} {B : Bool} (h : decide (xs = ys) = B) (a b : Option Addr) (l c l' c' : Nat) (w : World) (hx : Rd .u8 w a l xs) (hy : Rd .u8 w b l' ys) :
    Calls Try.prog 38 #[.slice a l c, .slice b l' c'] w fun e w' => e = .returned (.bool B) ∧ Gr w w' := h ▸ same_bytes24 a b l c l' c' xs ys w hx hy
/-- A queue of slices: in a block of its own, from some place on. -/
def QRow (B : Nat) (w : World) (a : Option Addr) (n cap : Nat) (vs : List Value) : Prop :=
  vs.length = n ∧ ((a = none ∧ n = 0 ∧ cap = 0) ∨ ∃ g off cur, a = some ⟨g, off, none⟩ ∧ B ≤ g ∧ w.heap[g]? = some (.cells cur 22 (0, 0)) ∧ n ≤ cap ∧ off + cap ≤ cur.size ∧ cap ≤ maxLen ∧ ∀ i, i < n → cur[off + i]? = vs[i]?)
theorem QRow.nil (B : Nat) (w : World) : QRow B w none 0 0 [] := ⟨rfl, .inl ⟨rfl, rfl, rfl⟩⟩
theorem QRow.stay {B : Nat} {w w' : World} {a : Option Addr} {n cap : Nat} {vs : List Value} (h : QRow B w a n cap vs) (hg : Gr w w') : QRow B w' a n cap vs := by
  refine ⟨h.1, ?_⟩
  rcases h.2 with h0 | ⟨g, off, cur, h1, h2, h3, h4⟩
  · exact .inl h0
  · exact .inr ⟨g, off, cur, h1, h2, by rw [hg.block g (heap_lt h3) (by simp)]; exact h3, h4⟩
theorem QRow.cell {B : Nat} {w : World} {a : Option Addr} {n cap : Nat} {vs : List Value} (h : QRow B w a n cap vs) (hn : 0 < n) : ∃ g off, a = some ⟨g, off, none⟩ ∧ ∀ i v, vs[i]? = some v → w.cell? ⟨g, off + i, none⟩ = some v := by
  rcases h.2 with ⟨_, h0, _⟩ | ⟨g, off, cur, h1, h2, h3, h4, h5, h6, h7⟩
  · omega
  · refine ⟨g, off, h1, fun i v hv => ?_⟩
    have hi : i < n := by
      rw [← h.1]
      rcases Nat.lt_or_ge i vs.length with h | h
      · exact h
      · rw [List.getElem?_eq_none h] at hv; cases hv
    rw [cell_of_block h3, h7 i hi, hv]
theorem QRow.own {B : Nat} {w : World} {a : Option Addr} {n cap : Nat} {vs : List Value} (h : w.ownsRow B 22 1 (.slice a n cap) n vs) : QRow B w a n cap vs := by
  have hl := h.1
  refine ⟨by omega, ?_⟩
  rcases h.2 with ⟨hv, h0⟩ | ⟨g, cap', cur, hv, hb, hg, hn, hm, hs, ht⟩
  · injection hv with e1 e2 e3
    exact .inl ⟨e1, h0, e3⟩
  · injection hv with e1 e2 e3
    subst e3
    refine .inr ⟨g, 0, cur, e1, hb, hg, hn, by omega, hm, fun i hi => ?_⟩
    rw [← ht, List.getElem?_take_of_lt (by omega), Nat.zero_add]; simp
theorem QRow.app {B : Nat} {w : World} {a : Option Addr} {n cap : Nat} {vs : List Value} (h : QRow B w a n cap vs) (s : Sl) (q : Addr) (hq : Seg w (some q) [slv s]) (hn : n ≤ 1000000) (hB : B ≤ w.heap.size) :
    ∃ a' cap' w', (Builtin.append_ #[28, 28] 28 #[.slice a n cap, .slice (some q) 1 1]).run Try.prog w = .ok (.slice a' (n + 1) cap') w' ∧ QRow B w' a' (n + 1) cap' (vs ++ [slv s]) ∧ ∀ w0 : World, Gr w0 w → w0.heap.size ≤ B → Gr w0 w' := by
  obtain ⟨i0, hi, hz0, hz1, hz2⟩ := info_parts info_sl
  obtain ⟨hl, h⟩ := h
  have hqc : ∀ j u, [slv s][j]? = some u → w.cell? (q.add j) = some u := fun j u hj => by
    rcases hq with h0 | ⟨b, off, e, _, hc⟩
    · simp at h0
    · injection e with e
      subst e
      have hj0 : j = 0 := by
        rcases Nat.lt_or_ge j 1 with h | h
        · omega
        · rw [List.getElem?_eq_none (by simpa using h)] at hj; cases hj
      subst hj0
      have := hc 0 (by simp)
      rw [addr_add, this]; exact hj
  have hone : ∀ u ∈ [slv s], u.oneCell' = true := by intro u hu; simp at hu; subst hu; rfl
  have grow : ∀ {v' : Value} {w' : World}, w'.ownsRow B 22 1 v' (n + 1) (vs ++ [slv s]) → ∃ a' cap', v' = .slice a' (n + 1) cap' := fun {v' w'} ho => by
    rcases ho.2 with ⟨_, h0⟩ | ⟨g, cap', cur, rfl, _⟩
    · omega
    · exact ⟨_, _, rfl⟩
  rcases h with ⟨rfl, rfl, rfl⟩ | ⟨g, off, cur, rfl, h2, h3, h4, h5, h6, h7⟩
  · obtain rfl : vs = [] := List.eq_nil_of_length_eq_zero hl
    obtain ⟨v', w', hrun, ho, hg, _⟩ := run_append_own (P := Try.prog) w B 28 28 22 i0 (.slice none 0 0) 1 24 Try.underlying28 hi hz0 hz1 hz2 rfl (by omega) (.slice none 0 0) 0 [] (World.ownsRow_nil w _ _ 1) q 1 1 [slv s] rfl hqc hone (by simp only [maxLen]; omega) (by omega) hB
    obtain ⟨a', cap', rfl⟩ := grow ho
    exact ⟨a', cap', w', hrun, .own ho, fun w0 hg0 _ => hg0.trans hg⟩
  · by_cases hroom : n + 1 ≤ cap
    · have hcur : off + n < cur.size := by omega
      have hcl : w.cell? ⟨g, off + n, none⟩ = some cur[off + n] := by rw [cell_of_block h3]; simp [hcur]
      have hrun := run_append_room_cells (P := Try.prog) w 28 28 22 i0 Try.underlying28 hi g off n cap q 1 1 [slv s] (by rw [hz1]; rfl) hqc hone hroom (fun j hj => by
        obtain rfl : j = 0 := by simpa using hj
        rw [hz1, Nat.mul_one, Nat.add_zero, hcl]; rfl) (fun j hj => by
        obtain rfl : j = 0 := by simpa using hj
        exact frozen_of_block h3 _)
      rw [hz1, Nat.mul_one] at hrun
      obtain ⟨w', hw'⟩ : ∃ y, y = w.setCells g (off + n) [slv s] := ⟨_, rfl⟩
      rw [← hw'] at hrun
      have hb' : w'.heap[g]? = some (.cells (cur.setIfInBounds (off + n) (slv s)) 22 (0, 0)) := by
        rw [hw']; exact heap_setCell_eq h3 (off + n) (slv s)
      refine ⟨_, _, w', hrun, ⟨by simp [hl], .inr ⟨g, off, _, rfl, h2, hb', hroom, by simpa using h5, h6, fun i hi' => ?_⟩⟩, fun w0 hg0 hB0 => ?_⟩
      · by_cases hin : i = n
        · subst hin
          rw [Array.getElem?_setIfInBounds_self_of_lt hcur, List.getElem?_append_right (by omega), hl]; simp
        · rw [Array.getElem?_setIfInBounds_ne (by omega), h7 i (by omega), List.getElem?_append_left (by omega)]
      · rw [hw']; exact grown_setCells_new hg0 (Nat.le_trans hB0 h2) _ _
    · obtain ⟨v', w', hrun, ho, hg⟩ := run_append_arg_grows (P := Try.prog) w 28 28 22 i0 (.slice none 0 0) 1 24 Try.underlying28 hi hz0 hz1 hz2 rfl (by omega) ⟨g, off, none⟩ n cap vs (by omega) (fun j u hj => by
        have hjn : j < n := by
          rw [← hl]
          rcases Nat.lt_or_ge j vs.length with h | h
          · exact h
          · rw [List.getElem?_eq_none h] at hj; cases hj
        rw [addr_add, cell_of_block h3, h7 j hjn, hj]) q 1 1 [slv s] rfl hqc (by omega) (by simp only [maxLen]; omega) (by omega)
      have ho' : w'.ownsRow B 22 1 v' (n + 1) (vs ++ [slv s]) := by
        refine ⟨ho.1, ?_⟩
        rcases ho.2 with h0 | ⟨g', cap', cur', e1, e2, r⟩
        · exact .inl h0
        · exact .inr ⟨g', cap', cur', e1, Nat.le_trans hB e2, r⟩
      obtain ⟨a', cap', rfl⟩ := grow ho'
      exact ⟨a', cap', w', hrun, .own ho', fun w0 hg0 _ => hg0.trans hg⟩
end Go.Proofs.Ytgackcjhiplplaa
