/- Dice: keys. -/
import Derived.Test.YtinkllejjilenaaDiceB
namespace Go.Proofs.Ytinkllejjilenaa
open Go.ChangeShapes Go.WideShapes Go.ChangeAt Go.RowKit

abbrev KeyVal (a : Option Addr) (l c : Nat) (a' : Option Addr) (l' c' : Nat) (n b d : Int) : Value := .agg #[.slice a l c, .slice a' l' c', .int .i64 n, .int .i64 b, .int .i64 d]
def KeyPost (p : Nat) (w : World) (e : Ending) (w' : World) : Prop := ∃ (a : Option Addr) (c : Nat) (xs : List Int) (a' : Option Addr) (c' : Nat) (xs' : List Int) (n b d : Int),
  e = .returned (KeyVal a 32 c a' 16 c' n b d) ∧ Rd .u8 w' a 32 xs ∧ 32 ≤ c ∧ Rd .u8 w' a' 16 xs' ∧ (0 ≤ n ∧ n < 5) ∧ (0 ≤ b ∧ b < 3) ∧ (0 ≤ d ∧ d < 2) ∧ Die w' p ∧ w.grownBy w' (some p) ∧
  (∀ b off, a = some ⟨b, off, none⟩ → p < b) ∧ (∀ b off, a' = some ⟨b, off, none⟩ → p < b)

theorem own_after {B : Nat} {e : TypeId} {k : IntKind} {w : World} {a : Option Addr} {n cap : Nat} {xs : List Int} (h : OwnI B e k w a n cap xs) {p : Nat} (hp : p < B) : ∀ b off, a = some ⟨b, off, none⟩ → p < b := by
  intro b off he
  subst he
  have := (h.below b rfl).1
  omega
theorem grown_new {w0 w : World} {r : Option Nat} (h : w0.grownBy w r) {a : Addr} (ha : w0.heap.size ≤ a.block) (u : Value) : w0.grownBy (w.setCell a u) r :=
  ⟨h.os, h.tape, h.output, by have := h.size; simpa [World.setCell] using this, fun k hk hne => by rw [heap_setCell_ne _ _ _ _ (by omega)]; exact h.block k hk hne⟩
theorem block_set5 {w : World} {g : Nat} {x0 x1 x2 x3 x4 : Value} {t : TypeId} (h : w.heap[g]? = some (.cells #[x0, x1, x2, x3, x4] t (0, 0))) (a b c d e : Value) :
    (((((w.setCell ⟨g, 0, none⟩ a).setCell ⟨g, 1, none⟩ b).setCell ⟨g, 2, none⟩ c).setCell ⟨g, 3, none⟩ d).setCell ⟨g, 4, none⟩ e).heap[g]? = some (.cells #[a, b, c, d, e] t (0, 0)) := by
  have := heap_setCell_eq (heap_setCell_eq (heap_setCell_eq (heap_setCell_eq (heap_setCell_eq h 0 a) 1 b) 2 c) 3 d) 4 e
  simpa using this
theorem grown_set5 (w : World) (g : Nat) (a b c d e : Value) : w.grownBy (((((w.setCell ⟨g, 0, none⟩ a).setCell ⟨g, 1, none⟩ b).setCell ⟨g, 2, none⟩ c).setCell ⟨g, 3, none⟩ d).setCell ⟨g, 4, none⟩ e) (some g) :=
  grown_trans' (grown_trans' (grown_trans' (grown_trans' (grown_setAt _ _ _ _) (grown_setAt _ _ _ _)) (grown_setAt _ _ _ _)) (grown_setAt _ _ _ _)) (grown_setAt _ _ _ _)
set_option maxHeartbeats 1000000 in
theorem key_any (p : Nat) (w : World) (hd : Die w p) :
    Calls Try.prog 28 #[.pointer (some ⟨p, 0, none⟩)] w (KeyPost p w) := by
  have hplt := hd.lt
  go_enter Try.func28, Try.ntmps28
  go_wp2_with fail
  obtain ⟨w0, hw0⟩ : ∃ x, x = w.alloc (.cells #[.slice none 0 0, .slice none 0 0, .int .i64 0, .int .i64 0, .int .i64 0] 50) := ⟨_, rfl⟩
  rw [← hw0]
  have hg0 : Gr w w0 := by rw [hw0]; exact Gr.alloc _ _
  have hb0 : w0.heap[w.heap.size]? = some (.cells #[.slice none 0 0, .slice none 0 0, .int .i64 0, .int .i64 0, .int .i64 0] 50 (0, 0)) := by rw [hw0]; exact heap_alloc_new _ _
  have HG0 := Lib.hid hg0
  have HB0 := Lib.hid hb0
  have hs0 := hg0.size
  have hz0 : w.heap.size < w0.heap.size := heap_lt hb0
  refine (next_any p 256 _ (hd.kept hg0 (by simp)) (by omega) (by omega)).mono ?_
  clear hw0 hg0 hb0
  rintro e w1 ⟨v1, rfl, a1, a2, hd1, hg1⟩
  have HG1 := Lib.hid hg1
  have hs1 := hg1.size
  clear hg1
  go_wp2_with fail
  refine (filled_any 32 v1 _ (by omega) (by omega) (by omega)).mono ?_
  rintro e w2 ⟨x1, k1, xs1, rfl, ho1, hg2⟩
  have HG2 := Lib.hid hg2
  have HO1 := Lib.hid ho1
  have hs2 := hg2.size
  have hd2 := hd1.kept hg2 (by simp)
  clear hg2 ho1
  go_wp2_with fail
  refine (next_any p 256 _ hd2 (by omega) (by omega)).mono ?_
  rintro e w3 ⟨v2, rfl, b1, b2, hd3, hg3⟩
  have HG3 := Lib.hid hg3
  have hs3 := hg3.size
  clear hg3
  go_wp2_with fail
  refine (filled_any 16 v2 _ (by omega) (by omega) (by omega)).mono ?_
  rintro e w4 ⟨x2, k2, xs2, rfl, ho2, hg4⟩
  have HG4 := Lib.hid hg4
  have HO2 := Lib.hid ho2
  have hs4 := hg4.size
  have hd4 := hd3.kept hg4 (by simp)
  clear hg4 ho2
  go_wp2_with fail
  refine (next_any p 5 _ hd4 (by omega) (by omega)).mono ?_
  rintro e w5 ⟨n, rfl, n1, n2, hd5, hg5⟩
  have HG5 := Lib.hid hg5
  have hs5 := hg5.size
  clear hg5
  go_wp2_with fail
  refine (next_any p 3 _ hd5 (by omega) (by omega)).mono ?_
  rintro e w6 ⟨bb, rfl, b3, b4, hd6, hg6⟩
  have HG6 := Lib.hid hg6
  have hs6 := hg6.size
  clear hg6
  go_wp2_with fail
  refine (next_any p 2 _ hd6 (by omega) (by omega)).mono ?_
  rintro e w7 ⟨dd, rfl, d1, d2, hd7, hg7⟩
  have hgb : w0.grownBy w7 (some p) := grown_trans' HG1.out (grown_trans' (grown_weak HG2.out _) (grown_trans' HG3.out (grown_trans' (grown_weak HG4.out _) (grown_trans' HG5.out (grown_trans' HG6.out hg7)))))
  have hs7 := hg7.size
  have hb7 : w7.heap[w.heap.size]? = some (.cells #[.slice none 0 0, .slice none 0 0, .int .i64 0, .int .i64 0, .int .i64 0] 50 (0, 0)) := by rw [hgb.block _ hz0 (by simp; omega)]; exact HB0.out
  have HGB := Lib.hid hgb
  have HG7 := Lib.hid hg7
  have HB7 := Lib.hid hb7
  have hfz : ∀ i, w7.frozen? ⟨w.heap.size, i, none⟩ = false := frozen_of_block hb7
  have hcl : ∀ i, w7.cell? ⟨w.heap.size, i, none⟩ = (#[.slice none 0 0, .slice none 0 0, .int .i64 0, .int .i64 0, .int .i64 0] : Array Value)[i]? := cell_of_block hb7
  have z0 := hcl 0
  have z1 := hcl 1
  have z2 := hcl 2
  have z3 := hcl 3
  have z4 := hcl 4
  simp only [List.getElem?_toArray, List.getElem?_cons_zero, List.getElem?_cons_succ] at z0 z1 z2 z3 z4
  have f0 := hfz 0
  have f1 := hfz 1
  have f2 := hfz 2
  have f3 := hfz 3
  have f4 := hfz 4
  clear hg7 hgb hb7 hfz hcl
  go_wp2_with fail
  have hb8 := block_set5 HB7.out (.slice x1 32 k1) (.slice x2 16 k2) (.int .i64 n) (.int .i64 bb) (.int .i64 dd)
  refine bodyPost_ret (v := KeyVal x1 32 k1 x2 16 k2 n bb dd) (results_cell_row Try.results28 _ _ w.heap.size _ _ _ _ rfl hb8 Try.underlying50 rfl (by kernel_rfl)) rfl ⟨x1, k1, xs1, x2, k2, xs2, n, bb, dd, rfl, ?_⟩
  clear z0 z1 z2 z3 z4 f0 f1 f2 f3 f4
  have hG8 := grown_set5 w7 w.heap.size (.slice x1 32 k1) (.slice x2 16 k2) (.int .i64 n) (.int .i64 bb) (.int .i64 dd)
  have after1 := own_after HO1.out (p := w.heap.size) (by omega)
  have after2 := own_after HO2.out (p := w.heap.size) (by omega)
  have hw : w.grownBy w7 (some p) := grown_trans' (grown_weak HG0.out _) HGB.out
  refine ⟨?_, ?_, ?_, ⟨n1, n2⟩, ⟨b3, b4⟩, ⟨d1, d2⟩, hd7.kept hG8 (by simp; omega), ?_, fun b off h => by have := after1 b off h; omega, fun b off h => by have := after2 b off h; omega⟩
  · refine rd_keptBut (rd_keptBut HO1.out.rd (grown_trans' HG3.out (grown_trans' (grown_weak HG4.out _) (grown_trans' HG5.out (grown_trans' HG6.out HG7.out)))) ?_) hG8 ?_
    · intro b off _ h e; have := after1 b off h; injection e; omega
    · intro b off _ h e; have := after1 b off h; injection e; omega
  · rcases HO1.out.row.2 with ⟨_, h0⟩ | ⟨g, cap', cur, hv, _, _, hn, _⟩
    · omega
    · injection hv; omega
  · refine rd_keptBut (rd_keptBut HO2.out.rd (grown_trans' HG5.out (grown_trans' HG6.out HG7.out)) ?_) hG8 ?_
    · intro b off _ h e; have := after2 b off h; injection e; omega
    · intro b off _ h e; have := after2 b off h; injection e; omega
  · exact grown_new (grown_new (grown_new (grown_new (grown_new hw (Nat.le_refl _) _) (Nat.le_refl _) _) (Nat.le_refl _) _) (Nat.le_refl _) _) (Nat.le_refl _) _
end Go.Proofs.Ytinkllejjilenaa
