/- Several texts in one. -/
import Derived.Test.YtlnkofpcidngoaaDoorK0
import Derived.Test.YtlnkofpcidngoaaDoorK44
namespace Go.Proofs.YtlnkofpcidngoaaDoor
open Go.ChangeShapes Go.WideShapes Go.ChangeAt Go.RowKit
def DG (p : Nat) (w w' : World) : Prop := w.grownBy w' (some p) ∧ Die w' p
theorem DG.cell {p : Nat} {w w' : World} (h : DG p w w') {b o : Nat} {v : Value} (hc : w.cell? ⟨b, o, none⟩ = some v) (hne : b ≠ p) : w'.cell? ⟨b, o, none⟩ = some v := by
 have hlt := cell_lt hc
 rw [← hc]
 exact World.cell?_of_block (h.1.block b hlt (by simpa using hne))
theorem DG.alloc {p : Nat} {w : World} (h : Die w p) (o : Obj) : DG p w (w.alloc o) := ⟨grown_weak (World.grownBy_alloc w o none) _, h.kept (World.grownBy_alloc w o none) (by simp)⟩
def NInt (lo hi : Int) : Sched.NPred := fun _ _ v _ => ∃ x : Int, v = .int .i64 x ∧ lo ≤ x ∧ x ≤ hi
theorem NInt.stable {G : World → World → Prop} (lo hi : Int) : SchedG.Stable G (NInt lo hi) := fun _ _ _ _ _ h _ => h
def NDRow (p : Nat) (f : Nat → Value) (o : Obj) : Sched.NPred := fun lo _ v w => v = f lo ∧ p < lo ∧ w.heap[lo]? = some o
theorem NDRow.stable (p : Nat) (f : Nat → Value) (o : Obj) : SchedG.Stable (DG p) (NDRow p f o) := by
 rintro lo hi v w w' ⟨h1, h2, h3⟩ hg
 exact ⟨h1, h2, blk_keptD h3 hg.1 (by simp; omega)⟩
def NDPtr (p n : Nat) (o : Obj) : Sched.NPred := fun _ _ v w => ∃ g j, v = .pointer (some ⟨g, j, none⟩) ∧ j < n ∧ p < g ∧ w.heap[g]? = some o
theorem NDPtr.stable (p n : Nat) (o : Obj) : SchedG.Stable (DG p) (NDPtr p n o) := by
 rintro lo hi v w w' ⟨g, j, h1, h2, h3, h4⟩ hg
 exact ⟨g, j, h1, h2, h3, blk_keptD h4 hg.1 (by simp; omega)⟩
def NDyn : Sched.NPred := fun _ _ v _ => ∃ s f : Int, v = DVal s f ∧ (0 ≤ s ∧ s ≤ 65535) ∧ (0 ≤ f ∧ f ≤ 1)
theorem NDyn.stable {G : World → World → Prop} : SchedG.Stable G NDyn := fun _ _ _ _ _ h _ => h
theorem inB_mk {n m : Int} (h1 : 0 ≤ n) (h2 : n ≤ m) : inB n m = true := by simp [inB, h1, h2]
theorem made_valid {fl : Int} {h : Hdr} (hm : MadeH fl h) (h0 : 0 ≤ fl) (h1 : fl ≤ 10) : validH h = true := by
 obtain ⟨k, t, i, f, l, fr, tz, fp, tp, c, r⟩ := hm
 have hc : commonB h = true := by
   simp only [commonB, Bool.and_eq_true]
   exact ⟨⟨⟨⟨⟨⟨⟨⟨inB_mk t.1 (by omega), inB_mk (by omega) (by omega)⟩, inB_mk i.1 i.2⟩, inB_mk (by omega) (by omega)⟩, inB_mk (by omega) (by omega)⟩, inB_mk c.1 c.2⟩, inB_mk f.1 f.2⟩, inB_mk (by omega) (by omega)⟩, inB_mk (by omega) (by omega)⟩
 rcases r with ⟨r0, r1, r2, r3, r4, r5⟩ | ⟨r0, r1, r2, r3, r4, r5⟩
 · have hk : h.kind = 1 := by omega
   simp [validH, kindB, restB, hk, hc, r1, r2, r3, r4, r5]
 · have hk : h.kind = 2 := by omega
   simp [validH, kindB, restB, hk, hc, r2, r5, inB]
   omega
end Go.Proofs.YtlnkofpcidngoaaDoor
