/- Plain facts on lists of bits for the law CodeLinear. -/
import Derived.Test.YtcleegibdcphiaaDoorCodeCorr
namespace Go.Proofs.YtcleegibdcphiaaDoor
namespace Cod

theorem take_snoc1 (L : List Int) (k : Nat) (h : k < L.length) : L.take (k + 1) = L.take k ++ [L[k]?.getD 0] := by
  rw [List.take_add_one]
  rw [List.getElem?_eq_getElem h]; rfl
/-- The first k of L, then 0. -/
def fillz (L : List Int) (k : Nat) : List Int := L.take k ++ List.replicate (L.length - k) 0
theorem fillz_zero (L : List Int) : fillz L 0 = List.replicate L.length 0 := by simp [fillz]
theorem fillz_all (L : List Int) : fillz L L.length = L := by simp [fillz]
theorem fillz_step {L : List Int} {k : Nat} (h : k < L.length) : fillz L (k + 1) = (fillz L k).set k (L[k]?.getD 0) := by
  unfold fillz
  have h1 : (L.take k).length = k := by simp; omega
  obtain ⟨m, hm⟩ : ∃ m, L.length - k = m + 1 := ⟨L.length - k - 1, by omega⟩
  rw [List.set_append_right _ _ (by omega), h1, Nat.sub_self, hm, List.replicate_succ, List.set_cons_zero, show L.length - (k + 1) = m by omega, take_snoc1 L k h]
  simp
def any1 (l : List Int) : Bool := l.any (· == 1)
theorem any1_snoc (l : List Int) (x : Int) : any1 (l ++ [x]) = (any1 l || x == 1) := by simp [any1]
theorem any1_yes {l : List Int} (h : any1 l = true) : ∃ x ∈ l, x = 1 := by simpa [any1] using h
theorem any1_no {l : List Int} (h : any1 l = false) : ¬ ∃ x ∈ l, x = 1 := by
  intro ⟨x, hx, e⟩
  have : any1 l = true := by simp only [any1, List.any_eq_true]; exact ⟨x, hx, by simp [e]⟩
  rw [h] at this; cases this
theorem wt_snoc : ∀ (l : List Int) (x : Int), wt (l ++ [x]) = wt l + x
  | [], x => by simp [wt]
  | y :: l, x => by simp [wt, wt_snoc l x]; omega
theorem sum2_len {a b : List Int} {n : Nat} (ha : a.length = n) (hb : b.length = n) : (sum2 a b).length = n := by simp [sum2, ha, hb]
theorem sum2_get {a b : List Int} {k : Nat} (ha : k < a.length) (hb : k < b.length) : (sum2 a b)[k]?.getD 0 = (a[k]?.getD 0 + b[k]?.getD 0) % 2 := by
  unfold sum2
  rw [List.getElem?_zipWith, List.getElem?_eq_getElem ha, List.getElem?_eq_getElem hb]
  rfl
theorem wt_take (l : List Int) (k : Nat) (h : k < l.length) : wt (l.take (k + 1)) = wt (l.take k) + l[k]?.getD 0 := by
  rw [take_snoc1 l k h, wt_snoc]
theorem any1_take (l : List Int) (k : Nat) (h : k < l.length) : any1 (l.take (k + 1)) = (any1 (l.take k) || l[k]?.getD 0 == 1) := by
  rw [take_snoc1 l k h, any1_snoc]
theorem wt_rng : ∀ (l : List Int), isBits l → 0 ≤ wt l ∧ wt l ≤ l.length
  | [], _ => by simp [wt]
  | x :: l, h => by
    obtain ⟨hx, hl⟩ := h.cons
    have ih := wt_rng l hl
    simp only [wt, List.length_cons]
    push_cast
    omega
theorem isBits_take {l : List Int} (h : isBits l) (k : Nat) : isBits (l.take k) := fun x hx => h x (List.mem_of_mem_take hx)
theorem bit_at {l : List Int} (h : isBits l) (k : Nat) : l[k]?.getD 0 = 0 ∨ l[k]?.getD 0 = 1 := by
  by_cases hk : k < l.length
  · exact h _ (by simp [hk])
  · rw [List.getElem?_eq_none (by omega)]; exact .inl rfl
end Cod
end Go.Proofs.YtcleegibdcphiaaDoor
