/- Arguments that are structs of integers, and arrays of them, opened to their cells. -/
import Derived.Test.YtmojlengjoicoaaFrame
import Derived.Deep.Fields
namespace Go.Proofs.Ytmojlengjoicoaa
open Go.ChangeShapes Go.WideShapes Go.ChangeAt Go.RowKit Go.Deep

section
variable {H : Type} {enc : TypeId × Value → H} {P : Program}
def ints_ok (cs : List Value) : Prop := ∀ c ∈ cs, ∃ x : Int, c = .int .i64 x ∧ -9223372036854775808 ≤ x ∧ x ≤ 9223372036854775807
theorem ints_list {cs : List Value} (h : ints_ok cs) : ∃ xs : List Int, xs.length = cs.length ∧ cs = xs.map (Value.int .i64) ∧ ∀ x ∈ xs, -9223372036854775808 ≤ x ∧ x ≤ 9223372036854775807 := by
  induction cs with
  | nil => exact ⟨[], rfl, rfl, by simp⟩
  | cons c cs ih =>
    obtain ⟨x, rfl, hx⟩ := h c (by simp)
    obtain ⟨xs, h1, h2, h3⟩ := ih (fun d hd => h d (by simp [hd]))
    refine ⟨x :: xs, by simp [h1], by simp [← h2], fun y hy => ?_⟩
    rcases List.mem_cons.1 hy with rfl | hy
    · exact hx
    · exact h3 y hy
/-- The cells of a struct of integers. -/
theorem struct_ints {W : World} {base : Nat} {sp : Nat → Bool} {held : Bool} {t e : TypeId} {fs : Array Field} (hs : P.underlying t = some (.struct fs)) (hone : oneCellFields P fs = true) (hall : (fs.all fun f => f.type == e) = true) (he : P.underlying e = some (.int .i64))
    {fuel : Nat} {cs : List Value} {x : DataW H × List MemPlace} (hl : cs.length = fs.size) (h : DataW.trod enc P W base sp held fuel t cs = some x) : ints_ok cs := by
  obtain ⟨ys, n', hn', hy, hlen, hyl, hf⟩ := DataW.trod_struct hs h
  intro c hc
  obtain ⟨j, hj, rfl⟩ := List.getElem_of_mem hc
  have hfj : fs[j]? = some (fs[j]'(by omega)) := Array.getElem?_eq_getElem _
  obtain ⟨ho, hk⟩ := hone_of hone j _ hfj
  have h1 := hf j _ hfj
  rw [ho, hk] at h1
  have hone' : (cs.drop j).take 1 = [cs[j]] := by
    rw [List.drop_eq_getElem_cons hj]; rfl
  rw [hone'] at h1
  have hty : (fs[j]'(by omega)).type = e := by
    have := Array.all_eq_true.1 hall j (by omega)
    simpa using this
  rw [hty, List.getElem?_eq_getElem (by omega)] at h1
  obtain ⟨y, hy1, _, wy⟩ := DataW.trod_int he h1
  simp at hy1
  exact ⟨y, hy1, bounds_i64 wy⟩
theorem open_struct {W : World} {r : Reach} {base b1 : Nat} {sp : Nat → Bool} {held : Bool} {t e : TypeId} {fs : Array Field} {v : Value} {d : DataW H} {p : List MemPlace} (hs : P.underlying t = some (.struct fs)) (hone : oneCellFields P fs = true) (hall : (fs.all fun f => f.type == e) = true) (he : P.underlying e = some (.int .i64)) (hC : P.cellsOf t = fs.size)
    (hv : Value.okWide P W r base t v) (h : DataW.Trod enc P W b1 sp held t v d p) :
    ∃ xs : List Int, xs.length = fs.size ∧ v = .agg (xs.map (Value.int .i64)).toArray ∧ ∀ x ∈ xs, -9223372036854775808 ≤ x ∧ x ≤ 9223372036854775807 := by
  obtain ⟨cs, rfl, hsz⟩ := okWide_struct hs hv
  obtain ⟨fuel, hf⟩ := h
  have hl : (Value.agg cs).cells.toList.length = fs.size := by
    show cs.toList.length = _
    rw [Array.length_toList, hsz, hC]
  obtain ⟨xs, h1, h2, h3⟩ := ints_list (struct_ints hs hone hall he hl hf)
  refine ⟨xs, by rw [h1, hl], ?_, h3⟩
  rw [← h2]
  show Value.agg cs = Value.agg cs.toList.toArray
  simp
theorem open_structs {n : Nat} {W : World} {r : Reach} {base b1 : Nat} {sp : Nat → Bool} {held : Bool} {t s e : TypeId} {fs : Array Field} {v : Value} {d : DataW H} {p : List MemPlace} (ht : P.underlying t = some (.array n s)) (hs : P.underlying s = some (.struct fs)) (hone : oneCellFields P fs = true) (hall : (fs.all fun f => f.type == e) = true) (he : P.underlying e = some (.int .i64)) (hC : P.cellsOf s = fs.size) (hn : P.cellsOf t = n * fs.size)
    (hv : Value.okWide P W r base t v) (h : DataW.Trod enc P W b1 sp held t v d p) :
    ∃ xs : List Int, xs.length = n * fs.size ∧ v = .agg (xs.map (Value.int .i64)).toArray ∧ ∀ x ∈ xs, -9223372036854775808 ≤ x ∧ x ≤ 9223372036854775807 := by
  unfold Value.okWide at hv
  rw [ht] at hv
  obtain ⟨cs, rfl, hsz, _⟩ := hv
  obtain ⟨fuel, hf⟩ := h
  obtain ⟨ys, m, _, _, _, hlen, hel⟩ := DataW.trod_array ht hf
  have hl : cs.toList.length = n * fs.size := by rw [Array.length_toList]; omega
  have hok : ints_ok cs.toList := by
    intro c hc
    obtain ⟨j, hj, rfl⟩ := List.getElem_of_mem hc
    have h0 : 0 < fs.size := by
      rcases Nat.eq_zero_or_pos fs.size with h | h
      · rw [h] at hl; omega
      · exact h
    have hq : j / fs.size < n := by rw [Nat.div_lt_iff_lt_mul h0]; omega
    have h1 := hel (j / fs.size) hq
    rw [hC, List.getElem?_eq_getElem (by omega)] at h1
    have hmod := Nat.mod_lt j h0
    have hdm := Nat.div_add_mod j fs.size
    have hcell : (Value.agg cs).cells.toList = cs.toList := rfl
    rw [hcell] at h1
    have hle : j / fs.size * fs.size + fs.size ≤ n * fs.size := by
      have : j / fs.size * fs.size + fs.size = (j / fs.size + 1) * fs.size := by rw [Nat.add_mul, Nat.one_mul]
      rw [this]; exact Nat.mul_le_mul_right _ hq
    have h2 := struct_ints hs hone hall he (by simp; omega) h1
    refine h2 _ ?_
    rw [List.mem_iff_getElem?]
    refine ⟨j % fs.size, ?_⟩
    rw [List.getElem?_take_of_lt hmod, List.getElem?_drop]
    have e : j / fs.size * fs.size + j % fs.size = j := by rw [Nat.mul_comm]; exact hdm
    rw [e, List.getElem?_eq_getElem hj]
  obtain ⟨xs, h1, h2, h3⟩ := ints_list hok
  refine ⟨xs, by rw [h1, hl], ?_, h3⟩
  rw [← h2]
end
end Go.Proofs.Ytmojlengjoicoaa
