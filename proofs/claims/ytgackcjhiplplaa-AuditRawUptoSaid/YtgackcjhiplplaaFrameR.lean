/- A slice of records among the arguments, opened. -/
import Derived.Test.YtgackcjhiplplaaFrame
import Derived.Test.YtgackcjhiplplaaAudA
namespace Go.Proofs.Ytgackcjhiplplaa
open Go.ChangeShapes Go.WideShapes Go.ChangeAt Go.RowKit

section
variable {H : Type} {enc : TypeId × Value → H}
theorem slice_cellR {W : World} {m : Nat} {k : IntKind} {t e : TypeId} {c : Value} {x : DataW H × List MemPlace} (ht : (Try.prog).underlying t = some (.slice e)) (he : (Try.prog).underlying e = some (.int k)) (hC : (Try.prog).cellsOf e = 1) (h : DataW.trod enc Try.prog W 0 (fun _ => true) true m t [c] = some x) : ∃ a l cp xs, c = .slice a l cp ∧ Rd k W a l xs ∧ l ≤ Rows.uptoBulk x.1 := by
  have h0 : ∃ a l cp, c = .slice a l cp := by
    rcases DataW.trod_slice ht h with ⟨h1, _⟩ | ⟨a, l, k, _, _, _, _, h1, _⟩
    · injection h1 with h1; exact ⟨_, _, _, h1⟩
    · injection h1 with h1; exact ⟨_, _, _, h1⟩
  obtain ⟨a, l, cp, rfl⟩ := h0
  obtain ⟨d, p⟩ := x
  have hT : DataW.Trod enc Try.prog W 0 (fun _ => true) true t (.slice a l cp) d p := ⟨m, h⟩
  obtain ⟨xs, hr, _, hl⟩ := open_rd (k := k) ht he hC hT
  refine ⟨a, l, cp, xs, rfl, hr, ?_⟩
  rcases hl with rfl | ⟨el, sp, rfl, rfl⟩
  · omega
  · have := bulk_len el
    simp only [Rows.uptoBulk]; omega
theorem int_cellR {W : World} {b1 : Nat} {sp : Nat → Bool} {held : Bool} {m : Nat} {t : TypeId} {c : Value} {x : DataW H × List MemPlace} (ht : (Try.prog).underlying t = some (.int .i64)) (h : DataW.trod enc Try.prog W b1 sp held m t [c] = some x) : ∃ n, c = .int .i64 n ∧ i64 n := by
  obtain ⟨n, h1, _, wf⟩ := DataW.trod_int ht h
  injection h1 with h1
  exact ⟨n, h1, bounds_i64 wf⟩
def RecOk (r : Rec) : Prop := r.n ≤ 1048576 ∧ i64 r.tick ∧ i64 r.cell
theorem open_rec {W : World} {m : Nat} {cs : List Value} {x : DataW H × List MemPlace} (h : DataW.trod enc Try.prog W 0 (fun _ => true) true m 27 cs = some x) :
    ∃ r : Rec, cs = RCells r ∧ Rd .u8 W r.a r.n r.xs ∧ i64 r.tick ∧ i64 r.cell ∧ r.n + 1 ≤ Rows.uptoBulk x.1 ∧ 8 ≤ Rows.uptoBulk x.1 := by
  obtain ⟨xs, n, _, rfl, hl, hx, hel⟩ := DataW.trod_struct Try.underlying27 h
  have hC : (Try.prog).cellsOf 27 = 7 := by kernel_rfl
  rw [hC] at hl
  match cs, hl with
  | [c0, c1, c2, c3, c4, c5, c6], _ =>
    have hx7 : xs.length = 7 := hx
    have get : ∀ i, i < 7 → ∃ y, xs[i]? = some y := fun i hi => ⟨xs[i]'(by omega), List.getElem?_eq_getElem _⟩
    obtain ⟨y0, e0⟩ := get 0 (by omega)
    obtain ⟨y1, e1⟩ := get 1 (by omega)
    obtain ⟨y2, e2⟩ := get 2 (by omega)
    obtain ⟨y3, e3⟩ := get 3 (by omega)
    obtain ⟨y4, e4⟩ := get 4 (by omega)
    obtain ⟨y5, e5⟩ := get 5 (by omega)
    obtain ⟨y6, e6⟩ := get 6 (by omega)
    have t0 := hel 0 _ rfl
    have t1 := hel 1 _ rfl
    have t2 := hel 2 _ rfl
    have t3 := hel 3 _ rfl
    have t4 := hel 4 _ rfl
    have t5 := hel 5 _ rfl
    have t6 := hel 6 _ rfl
    rw [e0] at t0
    rw [e1] at t1
    rw [e2] at t2
    rw [e3] at t3
    rw [e4] at t4
    rw [e5] at t5
    rw [e6] at t6
    obtain ⟨n0, r0, b0⟩ := int_cellR (t := 3) (c := c0) Try.underlying3 t0
    obtain ⟨n1, r1, b1⟩ := int_cellR (t := 3) (c := c1) Try.underlying3 t1
    obtain ⟨n2, r2, b2⟩ := int_cellR (t := 3) (c := c2) Try.underlying3 t2
    obtain ⟨n3, r3, b3⟩ := int_cellR (t := 3) (c := c3) Try.underlying3 t3
    obtain ⟨n4, r4, b4⟩ := int_cellR (t := 3) (c := c4) Try.underlying3 t4
    obtain ⟨n5, r5, b5⟩ := int_cellR (t := 3) (c := c5) Try.underlying3 t5
    obtain ⟨a, l, cp, ys, r6, hr, hb⟩ := slice_cellR (k := .u8) (t := 22) (c := c6) Try.underlying22 Try.underlying5 (by kernel_rfl) t6
    subst r0 r1 r2 r3 r4 r5 r6
    have hmem : y6.1 ∈ xs.map (·.1) := List.mem_map.2 ⟨y6, List.mem_of_getElem? e6, rfl⟩
    have hp := bulk_part hmem
    have hn := bulk_len (xs.map (·.1))
    rw [List.length_map, hx7] at hn
    refine ⟨⟨n0, n1, n2, n3, n4, n5, a, l, cp, ys⟩, rfl, hr, b0, b4, ?_, ?_⟩
    · show l + 1 ≤ Rows.uptoBulkAll (xs.map (·.1)) + 1
      omega
    · show 8 ≤ Rows.uptoBulkAll (xs.map (·.1)) + 1
      omega
theorem bulk_small {ds : List (DataW H)} (hk : Rows.uptoSmall H ds = true) {d : DataW H} (hd : d ∈ ds) : Rows.uptoBulk d ≤ 1048576 := by
  have h0 : Rows.uptoBulkAll ds ≤ 1048576 := of_decide_eq_true hk
  exact Nat.le_trans (bulk_part hd) h0
theorem bulk_eight : ∀ l : List (DataW H), (∀ d ∈ l, 8 ≤ Rows.uptoBulk d) → 8 * l.length ≤ Rows.uptoBulkAll l
  | [], _ => by simp
  | d :: l, h => by
    have h1 := h d (by simp)
    have h2 := bulk_eight l (fun x hx => h x (by simp [hx]))
    simp only [Rows.uptoBulkAll, List.length_cons]; omega
theorem open_recs {W : World} {a : Option Addr} {len cap : Nat} {d : DataW H} {p : List MemPlace}
    (h : DataW.Trod enc Try.prog W 0 (fun _ => true) true 25 (.slice a len cap) d p) (hb : Rows.uptoBulk d ≤ 1048576) :
    ∃ L : List Rec, RdL W a len L ∧ len ≤ 131072 ∧ ∀ r ∈ L, RecOk r := by
  have lt0 : ∀ x ∈ p, x.block < W.heap.size := by
    obtain ⟨m, hm⟩ := h
    exact DataW.trod_lt m _ _ _ hm
  obtain ⟨fuel, hf⟩ := h
  have hC : (Try.prog).cellsOf 27 = 7 := by kernel_rfl
  rcases DataW.trod_slice Try.underlying25 hf with ⟨h1, _⟩ | ⟨x, l, c, elems, rest, n, _, h1, h2, _, hl, hm, hlen, hel, _, _⟩
  · simp [Value.cells] at h1
    obtain ⟨rfl, rfl, rfl⟩ := h1
    exact ⟨[], ⟨rfl, by omega, .inl rfl, by simp⟩, by omega, by simp⟩
  · simp [Value.cells] at h1
    obtain ⟨rfl, rfl, rfl⟩ := h1
    have hd : d = .slice (elems.map (·.1)) (rest.map (·.1)) := (Prod.mk.inj h2).1
    subst hd
    have hb2 : Rows.uptoBulkAll (elems.map (·.1)) + Rows.uptoBulkAll (rest.map (·.1)) + 1 ≤ 1048576 := hb
    have each : ∀ i (hi : i < len), ∃ r : Rec, ((∃ cs, W.cells? 0 (x.add (i * 7)) 7 = some cs ∧ cs = RCells r) ∧ Rd .u8 W r.a r.n r.xs ∧ RecOk r) ∧ 8 ≤ Rows.uptoBulk (elems[i]'(by omega)).1 := by
      intro i hi
      have := hel i hi
      rw [hC, List.getElem?_eq_getElem (by omega)] at this
      simp only [Option.bind_eq_some_iff] at this
      obtain ⟨cs, h1, h2⟩ := this
      obtain ⟨r, e, hr, b0, b4, hn, h8⟩ := open_rec h2
      have hmem : (elems[i]'(by omega)).1 ∈ elems.map (·.1) := List.mem_map.2 ⟨_, List.getElem_mem _, rfl⟩
      have hp := bulk_part hmem
      exact ⟨r, ⟨⟨cs, h1, e⟩, hr, by omega, b0, b4⟩, h8⟩
    have hbulk := bulk_eight (elems.map (·.1)) (fun d hd => by
      obtain ⟨y, hy, rfl⟩ := List.mem_map.1 hd
      obtain ⟨i, hi, rfl⟩ := List.getElem_of_mem hy
      exact (each i (by omega)).choose_spec.2)
    rw [List.length_map, hlen] at hbulk
    have hex : ∃ L : List Rec, L.length = len ∧ ∀ i r, L[i]? = some r → (∃ cs, W.cells? 0 (x.add (i * 7)) 7 = some cs ∧ cs = RCells r) ∧ Rd .u8 W r.a r.n r.xs ∧ RecOk r := by
      have gen : ∀ m, m ≤ len → ∃ L : List Rec, L.length = m ∧ ∀ i r, L[i]? = some r → (∃ cs, W.cells? 0 (x.add (i * 7)) 7 = some cs ∧ cs = RCells r) ∧ Rd .u8 W r.a r.n r.xs ∧ RecOk r := by
        intro m
        induction m with
        | zero => exact fun _ => ⟨[], rfl, by simp⟩
        | succ m ih =>
          intro hm
          obtain ⟨L, hL, hall⟩ := ih (by omega)
          obtain ⟨r, hr, _⟩ := each m (by omega)
          refine ⟨L ++ [r], by simp [hL], fun i q hq => ?_⟩
          by_cases hi : i < L.length
          · rw [List.getElem?_append_left hi] at hq
            exact hall i q hq
          · have hil : i < (L ++ [r]).length := by
              rcases Nat.lt_or_ge i (L ++ [r]).length with h | h
              · exact h
              · rw [List.getElem?_eq_none h] at hq; cases hq
            simp only [List.length_append, List.length_cons, List.length_nil] at hil
            obtain rfl : i = L.length := by omega
            rw [List.getElem?_append_right (Nat.le_refl _), Nat.sub_self] at hq
            injection hq with hq
            subst hq
            rw [hL]
            exact hr
      exact gen len (Nat.le_refl _)
    obtain ⟨L, hL, hall⟩ := hex
    refine ⟨L, ⟨hL, by omega, ?_, fun r hr => ?_⟩, by omega, fun r hr => ?_⟩
    · rcases Nat.eq_zero_or_pos len with h0 | h0
      · left
        rw [List.length_eq_zero_iff.1 (hL.trans h0)]; rfl
      · right
        obtain ⟨b, off, spot⟩ := x
        have cell : ∀ i r, L[i]? = some r → ∀ j, j < 7 → W.cell? ((⟨b, off, spot⟩ : Addr).add (i * 7) |>.add j) = (RCells r)[j]? := by
          intro i r hi j hj
          obtain ⟨⟨cs, hcs, rfl⟩, _⟩ := hall i r hi
          exact (World.cells?_some hcs).2.2 j hj
        have h00 := cell 0 (L[0]'(by omega)) (List.getElem?_eq_getElem _) 0 (by omega)
        have hspot : spot = none := by simpa [Addr.add] using World.cell?_spot h00
        subst hspot
        refine ⟨b, off, rfl, ?_, fun i hi => ?_⟩
        · have := cell_lt h00
          simpa [addr_add] using this
        · rw [flat_len RCells 7 L (fun _ _ => rfl)] at hi
          have hq : i / 7 < L.length := by omega
          have := cell (i / 7) (L[i / 7]'hq) (List.getElem?_eq_getElem _) (i % 7) (Nat.mod_lt _ (by omega))
          rw [addr_add, addr_add, Nat.add_assoc, show i / 7 * 7 + i % 7 = i by omega] at this
          rw [this, ← flat_at RCells 7 L (fun _ _ => rfl) (i / 7) (i % 7) _ (List.getElem?_eq_getElem hq) (Nat.mod_lt _ (by omega)), show i / 7 * 7 + i % 7 = i by omega]
    · obtain ⟨i, hi⟩ := List.getElem?_of_mem hr
      exact (hall i r hi).2.1
    · obtain ⟨i, hi⟩ := List.getElem?_of_mem hr
      exact (hall i r hi).2.2
end
end Go.Proofs.Ytgackcjhiplplaa
