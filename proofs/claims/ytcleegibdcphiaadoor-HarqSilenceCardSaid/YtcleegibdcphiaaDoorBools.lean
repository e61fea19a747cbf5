/- Slices of bools; bits of booleans (law 28). -/
import Derived.Test.YtcleegibdcphiaaDoorMem2
import Derived.Test.YtcleegibdcphiaaDoorInts
import Derived.Test.YtcleegibdcphiaaDoorCodePlain
import Derived.Deep.Grids
import Derived.Laws.MakeOwn
namespace Go.Proofs.YtcleegibdcphiaaDoor
open Go.ChangeShapes Go.WideShapes Go.ChangeAt Go.RowKit

/-- A slice of bools reads as the list bs. -/
def RdB (w : World) (a : Option Addr) (len : Nat) (bs : List Bool) : Prop :=
  bs.length = len ∧ len ≤ maxLen ∧ (len = 0 ∨ ∃ b off, a = some ⟨b, off, none⟩ ∧ b < w.heap.size ∧ ∀ i, i < len → w.cell? ⟨b, off + i, none⟩ = some (.bool (bs[i]?.getD false)))
theorem RdB.kept {w w' : World} {a : Option Addr} {len : Nat} {bs : List Bool} (h : RdB w a len bs) (hg : Gr w w') : RdB w' a len bs := by
  obtain ⟨h1, h2, h4⟩ := h
  refine ⟨h1, h2, ?_⟩
  rcases h4 with h0 | ⟨b, off, rfl, hb, hc⟩
  · exact .inl h0
  · exact .inr ⟨b, off, rfl, Nat.lt_of_lt_of_le hb hg.size, fun i hi => hg.cell (hc i hi)⟩
theorem RdB.take {w : World} {a : Option Addr} {len : Nat} {bs : List Bool} (h : RdB w a len bs) (n : Nat) (hn : n ≤ len) : RdB w a n (bs.take n) := by
  obtain ⟨h1, h3, h4⟩ := h
  refine ⟨by simp; omega, by omega, ?_⟩
  rcases h4 with h0 | ⟨b, off, rfl, hb, hc⟩
  · exact .inl (by omega)
  · refine .inr ⟨b, off, rfl, hb, fun i hi => ?_⟩
    rw [hc i (by omega), List.getElem?_take_of_lt hi]

section
variable {H : Type} {enc : TypeId × Value → H} {P : Program}
theorem open_rdb {t e : TypeId} {W : World} {a : Option Addr} {len cap : Nat} {d : DataW H} {p : List MemPlace} (ht : P.underlying t = some (.slice e)) (he : P.underlying e = some .bool) (hc : P.cellsOf e = 1)
    (h : DataW.Trod enc P W 0 (fun _ => true) true t (.slice a len cap) d p) :
    (∃ bs, RdB W a len bs ∧ len ≤ cap ∧ (len = 0 ∨ ∃ el sp, d = .slice el sp ∧ el.length = len)) := by
  obtain ⟨fuel, hf⟩ := h
  rcases Deep.open_bools ht he hc hf with ⟨hcs, _⟩ | ⟨x, l, c, B, hcs, _, hl, hm, hx, hcell⟩
  · simp [Value.cells] at hcs
    obtain ⟨rfl, rfl, rfl⟩ := hcs
    exact ⟨[], ⟨rfl, by simp [maxLen], .inl rfl⟩, by simp, .inl rfl⟩
  · simp [Value.cells] at hcs
    obtain ⟨rfl, rfl, rfl⟩ := hcs
    refine ⟨(List.range len).map B, ⟨by simp, by omega, ?_⟩, hl, .inr ⟨_, _, (Prod.mk.inj hx).1, by simp⟩⟩
    by_cases h0 : len = 0
    · exact .inl h0
    · right
      have h00 := hcell 0 (by omega)
      obtain ⟨b, off, spot⟩ := x
      have hspot : spot = none := by simpa [Addr.add] using World.cell?_spot h00
      subst hspot
      refine ⟨b, off, rfl, ?_, ?_⟩
      · have := cell_lt h00
        simpa [addr_add] using this
      · intro i hi
        have := hcell i (by omega)
        rw [addr_add] at this
        rw [this]
        simp [hi]
end

def bi (b : Bool) : Int := if b then 1 else 0
theorem bi_bits (bs : List Bool) : Cod.isBits (bs.map bi) := by
  intro x hx
  simp only [List.mem_map] at hx
  obtain ⟨b, _, rfl⟩ := hx
  cases b <;> simp [bi]
def zl (bs : List Bool) (k : Nat) : List Int := (bs.map bi).take k ++ List.replicate (bs.length - k) 0
theorem zl_step {bs : List Bool} {k : Nat} (h : k < bs.length) : zl bs (k + 1) = (zl bs k).set k (bi (bs[k]?.getD false)) := by
  unfold zl
  have h1 : ((bs.map bi).take k).length = k := by simp; omega
  obtain ⟨m, hm⟩ : ∃ m, bs.length - k = m + 1 := ⟨bs.length - k - 1, by omega⟩
  rw [List.set_append_right _ _ (by omega), h1, Nat.sub_self, hm, List.replicate_succ, List.set_cons_zero, show bs.length - (k + 1) = m by omega, List.take_add_one]
  simp [h]
theorem zl_same {bs : List Bool} {k : Nat} (h : k < bs.length) (hb : bs[k]?.getD false = false) : zl bs (k + 1) = zl bs k := by
  rw [zl_step h, hb]
  unfold zl
  have h1 : ((bs.map bi).take k).length = k := by simp; omega
  obtain ⟨m, hm⟩ : ∃ m, bs.length - k = m + 1 := ⟨bs.length - k - 1, by omega⟩
  rw [List.set_append_right _ _ (by omega), h1, Nat.sub_self, hm, List.replicate_succ, List.set_cons_zero]
  simp [bi]
theorem make_ints (m : Nat) (hm : m ≤ 17592186044416) (w : World) : (Instr.makeSlice 25 (.int .i64 (m : Int)) (.int .i64 (m : Int))).run Tryd.prog w = .ok (.slice (some ⟨w.heap.size, 0, none⟩) m m) (w.alloc (.cells (Array.replicate m (.int .i64 0)) 3)) := by
  obtain ⟨i0, hi, hz0, hz1, hz2⟩ := info_parts info_i64
  have := run_make (P := Tryd.prog) w 25 3 i0 _ Tryd.underlying25 hi hz0 .i64 .i64 m m (by omega) (by omega) (by rw [hz2]; omega) (by omega)
  rw [hz1] at this
  have e : madeCells (Value.int .i64 0).cells m = Array.replicate m (.int .i64 0) := by
    apply Array.ext
    · simp [madeCells]
    · intro i h1 h2
      have h3 : i % 1 = 0 := Nat.mod_one i
      simp [madeCells, Value.cells, h3]
  simp only [Int.toNat_natCast, Nat.mul_one] at this
  rw [e] at this
  exact this
theorem own_made (B m : Nat) (w : World) (hB : B ≤ w.heap.size) (hm : m ≤ maxLen) : OwnI B 3 .i64 (w.alloc (.cells (Array.replicate m (.int .i64 0)) 3)) (some ⟨w.heap.size, 0, none⟩) m m (List.replicate m 0) := by
  refine ⟨?_, ?_⟩
  · refine ⟨by simp, .inr ⟨w.heap.size, m, _, rfl, hB, heap_alloc_new _ _, Nat.le_refl _, hm, by simp, ?_⟩⟩
    simp
  · intro x hx
    rw [List.eq_of_mem_replicate hx]; decide
end Go.Proofs.YtcleegibdcphiaaDoor
