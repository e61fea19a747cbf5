/- Slices of bools. -/
import Derived.Test.YtgackcjhiplplaaMem2
import Derived.Deep.Grids
namespace Go.Proofs.Ytgackcjhiplplaa
open Go.ChangeShapes Go.WideShapes Go.ChangeAt Go.RowKit

/-- A slice of bools reads as the list bs. -/
def RdB (w : World) (a : Option Addr) (len : Nat) (bs : List Bool) : Prop :=
  bs.length = len ∧ len ≤ maxLen ∧ (len = 0 ∨ ∃ b off, a = some ⟨b, off, none⟩ ∧ b < w.heap.size ∧ ∀ i, i < len → w.cell? ⟨b, off + i, none⟩ = some (.bool (bs[i]?.getD false)))
theorem RdB.kept {w w' : World} {a : Option Addr} {len : Nat} {bs : List Bool} (h : RdB w a len bs) (hg : Gr w w') : RdB w' a len bs := by
  obtain ⟨h1, h2, h4⟩ := h
  refine ⟨h1, h2, ?_⟩
  rcases h4 with h0 | ⟨b, off, rfl, hb, hc⟩
  · exact .inl h0
  · exact .inr ⟨b, off, rfl, Nat.lt_of_lt_of_le hb hg.size, fun i hi => hg.cell (hc i hi)⟩
theorem RdB.take {w : World} {a : Option Addr} {len : Nat} {bs : List Bool} (h : RdB w a len bs) (n : Nat) (hn : n ≤ len) : RdB w a n (bs.take n) := by
  obtain ⟨h1, h3, h4⟩ := h
  refine ⟨by simp; omega, by omega, ?_⟩
  rcases h4 with h0 | ⟨b, off, rfl, hb, hc⟩
  · exact .inl (by omega)
  · refine .inr ⟨b, off, rfl, hb, fun i hi => ?_⟩
    rw [hc i (by omega), List.getElem?_take_of_lt hi]

theorem RdB.some {w : World} {a : Option Addr} {len : Nat} {bs : List Bool} (h : RdB w a len bs) (hn : 0 < len) : ∃ b off, a = Option.some ⟨b, off, none⟩ ∧ b < w.heap.size ∧ ∀ i, i < len → w.cell? ⟨b, off + i, none⟩ = Option.some (.bool (bs[i]?.getD false)) := by
  rcases h.2.2 with h0 | h1
  · omega
  · exact h1
section
variable {H : Type} {enc : TypeId × Value → H} {P : Program}
theorem open_rdb {t e : TypeId} {W : World} {a : Option Addr} {len cap : Nat} {d : DataW H} {p : List MemPlace} (ht : P.underlying t = some (.slice e)) (he : P.underlying e = some .bool) (hc : P.cellsOf e = 1)
    (h : DataW.Trod enc P W 0 (fun _ => true) true t (.slice a len cap) d p) :
    (∃ bs, RdB W a len bs ∧ len ≤ cap ∧ (len = 0 ∨ ∃ el sp, d = .slice el sp ∧ el.length = len)) := by
  obtain ⟨fuel, hf⟩ := h
  rcases Deep.open_bools ht he hc hf with ⟨hcs, _⟩ | ⟨x, l, c, B, hcs, _, hl, hm, hx, hcell⟩
  · simp [Value.cells] at hcs
    obtain ⟨rfl, rfl, rfl⟩ := hcs
    exact ⟨[], ⟨rfl, by simp [maxLen], .inl rfl⟩, by simp, .inl rfl⟩
  · simp [Value.cells] at hcs
    obtain ⟨rfl, rfl, rfl⟩ := hcs
    refine ⟨(List.range len).map B, ⟨by simp, by omega, ?_⟩, hl, .inr ⟨_, _, (Prod.mk.inj hx).1, by simp⟩⟩
    by_cases h0 : len = 0
    · exact .inl h0
    · right
      have h00 := hcell 0 (by omega)
      obtain ⟨b, off, spot⟩ := x
      have hspot : spot = none := by simpa [Addr.add] using World.cell?_spot h00
      subst hspot
      refine ⟨b, off, rfl, ?_, ?_⟩
      · have := cell_lt h00
        simpa [addr_add] using this
      · intro i hi
        have := hcell i (by omega)
        rw [addr_add] at this
        rw [this]
        simp [hi]
end
end Go.Proofs.Ytgackcjhiplplaa
