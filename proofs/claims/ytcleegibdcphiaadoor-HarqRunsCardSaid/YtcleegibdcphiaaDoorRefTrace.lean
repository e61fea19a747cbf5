/- The reference's decoder of layer 28: trace. -/
import Derived.Test.YtcleegibdcphiaaDoorRefMem
import Derived.Laws.MakeOwn
namespace Go.Proofs.YtcleegibdcphiaaDoor
open Go.ChangeShapes Go.WideShapes Go.ChangeAt Go.RowKit
open Cod

/-- A slice of integers that is made, full. -/
def NFull (n : Nat) (xs : List Int) : Sched.NPred := fun _ _ v w => ∃ g, v = .slice (some ⟨g, 0, none⟩) n n ∧ Rd .i64 w (some ⟨g, 0, none⟩) n xs
theorem NFull.stable (n : Nat) (xs : List Int) : Sched.Stable (NFull n xs) := by
  rintro lo hi v w w' ⟨g, h1, h2⟩ hg
  exact ⟨g, h1, h2.kept hg⟩
/-- An append of one to a full slice: a new array. -/
theorem app_full (w : World) (g n : Nat) (xs : List Int) (hr : Rd .i64 w (some ⟨g, 0, none⟩) n xs) (b c : Nat) (y : Int) (hy : Rd .i64 w (some ⟨b, 0, none⟩) 1 [y]) (hn : n + 1 ≤ 17592186044416) :
    ∃ g' cap' w', (Builtin.append_ #[25, 25] 25 #[.slice (some ⟨g, 0, none⟩) n n, .slice (some ⟨b, 0, none⟩) 1 c]).run Tryd.prog w = .ok (.slice (some ⟨g', 0, none⟩) (n + 1) cap') w' ∧ Rd .i64 w' (some ⟨g', 0, none⟩) (n + 1) (xs ++ [y]) ∧ w.grownBy w' none := by
  obtain ⟨i0, hi, hz0, hz1, hz2⟩ := info_parts info_i64
  have h := run_append_grow (P := Tryd.prog) w 25 25 3 i0 _ Tryd.underlying25 hi hz0 ⟨g, 0, none⟩ n n (xs.map (Value.int .i64)) (by rw [hz1]; simp [hr.1]) hr.seg.cells ⟨b, 0, none⟩ 1 c ([y].map (Value.int .i64)) (by rw [hz1]; rfl) hy.seg.cells (by omega) (by omega) (growslice_fits (by omega) (by rw [hz2]; omega))
  refine ⟨_, _, _, h, ⟨by simp [hr.1], fun x hx => ?_, by simp only [maxLen]; omega, .inr ⟨_, 0, rfl, by rw [World.size_alloc]; exact Nat.lt_succ_self _, fun i hi => ?_⟩⟩, grownBy_alloc (grownBy_drew (grownBy_refl w none)) _⟩
  · rcases List.mem_append.1 hx with hx | hx
    · exact hr.2.1 x hx
    · exact hy.2.1 x hx
  · have e : (w.drew).heap.size = w.heap.size := rfl
    rw [Nat.zero_add, ← e, cell_new]
    have hl := hr.1
    rw [Array.getElem?_append_left (by simp [hl]; omega), List.append_toArray, ← List.map_append, List.getElem?_toArray, List.getElem?_map, List.getElem?_eq_getElem (show i < (xs ++ [y]).length by simp; omega)]
    rfl
theorem nq_app {P : Program} {o : Oper} {a : Act} {w : World} {N : Sched.NPred} (s x : Operand) (t : TypeId)
    (ho : o.op = .call { callee := .builtin .append, args := #[s, x], argTypes := #[t, t] }) {vs vx v' : Value} {w' : World} (hs : a.eval s = vs) (hx : a.eval x = vx)
    (hrun : (Builtin.append_ #[t, t] o.type #[vs, vx]).run P w = .ok v' w') (h : Gr w w' ∧ N w.heap.size w'.heap.size v' w') : Sched.nq P o a w N := by
  unfold Sched.nq execOp
  simp only [ho, resolve, invoke, builtin, Sem.run_bind, Sem.run_pure, Result.andThen_ok, List.map_toArray, List.map_cons, List.map_nil, hs, hx, hrun]
  exact h
theorem less_is {A C : List Int} {F : Bool} (h : lessL A C = F) (a : Option Addr) (len ca : Nat) (b : Option Addr) (cb : Nat) (w : World) (ha : Rd .i64 w a len A) (hb : Rd .i64 w b len C) :
    Calls Tryd.prog 69 #[.slice a len ca, .slice b len cb] w fun e w' => e = .returned (.bool F) ∧ Gr w w' := h ▸ less_any a len ca b cb A C w ha hb
def TrRel (w : World) (L : List (List Cod.Way)) (n s : Nat) (st i : Value) (wr : World) : Prop := ∃ (k z : Nat) (D : List Int), k ≤ n ∧ z < 4 ∧ i = .int .i64 ((k : Int) - 1) ∧ st = .int .i64 z ∧ D.length = n - k ∧ isBits D ∧ tr (L.take n).reverse s = tr (L.take k).reverse z ++ D ∧
  wr.heap[w.heap.size]? = some (.cells ((List.replicate k (0 : Int) ++ D).map (Value.int .i64)).toArray 3 (0, 0)) ∧ Gr w wr
def TrPost (w : World) (n : Nat) (xs : List Int) (e : Ending) (w' : World) : Prop := ∃ g, e = .returned (.slice (some ⟨g, 0, none⟩) n n) ∧ w.heap.size ≤ g ∧ Rd .i64 w' (some ⟨g, 0, none⟩) n xs ∧ Gr w w'
theorem tr_step {L : List (List Cod.Way)} {k : Nat} {T : List Cod.Way} (h : L[k]? = some T) (z : Int) : tr (L.take (k + 1)).reverse z = tr (L.take k).reverse (at4 T z).f ++ [(at4 T z).b] := by
  have hk : k < L.length := by
    rcases Nat.lt_or_ge k L.length with h1 | h1
    · exact h1
    · rw [List.getElem?_eq_none h1] at h; cases h
  rw [List.take_succ_eq_append_getElem hk, List.reverse_append]
  rw [List.getElem?_eq_getElem hk] at h
  cases h
  rfl
theorem seg_at {w : World} {b off : Nat} {xs : List Value} (hc : ∀ i, i < xs.length → w.cell? ⟨b, off + i, none⟩ = xs[i]?) {i : Nat} {v : Value} (h : xs[i]? = some v) : w.cell? ⟨b, off + i, none⟩ = some v := by
  rw [hc i, h]
  rcases Nat.lt_or_ge i xs.length with h1 | h1
  · exact h1
  · rw [List.getElem?_eq_none h1] at h; cases h
set_option maxHeartbeats 1000000 in
theorem trace_any (a : Option Addr) (len cap : Nat) (L : List (List Cod.Way)) (n s : Nat) (c : Int) (w : World) (hseg : Seg w a (lcells L)) (hL : L.length = len) (hok : ∀ T ∈ L, WOK c T) (hn : n ≤ len) (hs : s < 4) (hlen : len ≤ 100000) :
    Calls Tryd.prog 70 #[.slice a len cap, .int .i64 n, .int .i64 s] w (TrPost w n (tr (L.take n).reverse s)) := by
  have HSEG := Lib.hid hseg
  have HOK := Lib.hid hok
  have HL := Lib.hid hL
  have hmk : ∀ u : World, (Instr.makeSlice 25 (.int .i64 (n : Int)) (.int .i64 (n : Int))).run Tryd.prog u = .ok (.slice (some ⟨u.heap.size, 0, none⟩) n n) (u.alloc (.cells (Array.replicate n (.int .i64 0)) 3)) := fun u => make_ints n (by omega) u
  clear hseg hok hL
  go_enter Tryd.func70, Tryd.ntmps70
  go_wp2_with fail
  clear hmk
  go_loopw [2, 8] (fun st i wr => TrRel w L n s st i wr) (fun _ i _ => (intOf i + 1).toNat)
  case atStart => exact ⟨n, s, [], Nat.le_refl _, hs, by go_num, rfl, by simp, by simp [isBits], by simp, by rw [heap_alloc_new]; simp, Gr.alloc _ _⟩
  case round =>
    obtain ⟨k, z, D, hk, hz, rfl, rfl, hD, hDb, htr, hblk, hg⟩ := hrel
    have HD := Lib.hid hD
    have HDB := Lib.hid hDb
    have HTR := Lib.hid htr
    have HBLK := Lib.hid hblk
    have HG := Lib.hid hg
    clear hD hDb htr hblk hg
    by_cases hk0 : k = 0
    · subst hk0
      go_wp2_with fail
      go_ret
      refine ⟨w.heap.size, rfl, Nat.le_refl _, ?_, HG.out⟩
      have e : tr (L.take n).reverse s = D := by rw [HTR.out]; simp [tr]
      have hlen : D.length = n := by have := HD.out; omega
      rw [e]
      refine ⟨hlen, fun x hx => ?_, by simp only [maxLen]; omega, ?_⟩
      · rcases HDB.out x hx with rfl | rfl <;> decide
      · by_cases hn0 : n = 0
        · exact .inl hn0
        · refine .inr ⟨w.heap.size, 0, rfl, heap_lt HBLK.out, fun i hi => ?_⟩
          rw [Nat.zero_add, cell_of_block HBLK.out]
          simp [show i < D.length by omega]
    · obtain ⟨q, rfl⟩ : ∃ q, k = q + 1 := ⟨k - 1, by omega⟩
      have hq1 : ((q + 1 : Nat) : Int) - 1 = (q : Int) := by omega
      rw [hq1]
      obtain ⟨T, hT⟩ : ∃ T, L[q]? = some T := ⟨_, List.getElem?_eq_getElem (by rw [HL.out]; omega)⟩
      have hTok := HOK.out T (List.mem_of_getElem? hT)
      have hall : ∀ T ∈ L, T.length = 4 := fun T hT => (HOK.out T hT).1
      have hlc := lcells_len hall
      obtain ⟨hz1, hz2, -, -⟩ := hTok.2 z (isSt_nat hz)
      obtain ⟨z', hz4, hz5⟩ := isSt_to hz1
      obtain ⟨bb, hbb⟩ : ∃ x, (at4 T z).b = x := ⟨_, rfl⟩
      rw [hbb] at hz2
      have hst := tr_step hT z
      rw [hz5, hbb] at hst
      have htr2 : tr (L.take n).reverse s = tr (L.take q).reverse z' ++ (bb :: D) := by rw [HTR.out, hst]; simp
      rcases HSEG.out with he | ⟨b, off, rfl, hb, hc⟩
      · rw [he, HL.out] at hlc; simp at hlc; omega
      · have c3 : wr.cell? ⟨b, off + q * 16 + z * 4 + 3, none⟩ = some (.int .i64 bb) := by
          rw [show off + q * 16 + z * 4 + 3 = off + (q * 16 + z * 4 + 3) by omega]
          refine HG.out.cell (seg_at hc ?_)
          rw [lcells_at hall hT hz (by omega)]
          simp [wcl, hbb]
        have c2 : wr.cell? ⟨b, off + q * 16 + z * 4 + 2, none⟩ = some (.int .i64 z') := by
          rw [show off + q * 16 + z * 4 + 2 = off + (q * 16 + z * 4 + 2) by omega]
          refine HG.out.cell (seg_at hc ?_)
          rw [lcells_at hall hT hz (by omega)]
          simp [wcl, hz5]
        have f1 : wr.frozen? ⟨w.heap.size, q, none⟩ = false := frozen_of_block HBLK.out q
        have d1 : wr.cell? ⟨w.heap.size, q, none⟩ = some (.int .i64 0) := by
          rw [cell_of_block HBLK.out]
          simp [show q < q + 1 + D.length by omega]
        have hne : b ≠ w.heap.size := by omega
        have HTR2 := Lib.hid htr2
        have HZ2 := Lib.hid hz2
        clear hq1 hc hlc hst htr2 hz2 hz5 hbb hT hTok hall hz1
        go_wp2_with fail
        go_roundw
        case rel =>
          refine ⟨q, z', bb :: D, by omega, hz4, by go_num, rfl, by have := HD.out; simp; omega, fun x hx => ?_, HTR2.out, ?_, ?_⟩
          · rcases List.mem_cons.1 hx with rfl | hx
            · exact HZ2.out
            · exact HDB.out x hx
          · rw [heap_setCell_eq HBLK.out]
            simp [List.replicate_succ']
          · exact grown_set HG.out (a := ⟨w.heap.size, q, none⟩) (Nat.le_refl _) _
        case measure => (simp [intOf] <;> omega)
end Go.Proofs.YtcleegibdcphiaaDoor
