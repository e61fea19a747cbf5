/- Layer 03 (check): the sanity check; the five widths. -/
import Derived.Test.YtcdfljgpddafoaaDoorCheckR
import Derived.Test.YtcdfljgpddafoaaDoorTypes
namespace Go.Proofs.YtcdfljgpddafoaaDoor
open Go.ChangeShapes Go.WideShapes Go.ChangeAt Go.RowKit
open Crc

def widthV (n : Int) : Int := if modF n 5 = 0 then 3 else if modF n 5 = 1 then 7 else if modF n 5 = 2 then 8 else if modF n 5 = 3 then 16 else 24
theorem width_kind (n : Int) : isKind (widthV n) := by
  unfold widthV isKind
  split
  · omega
  · split
    · omega
    · split
      · omega
      · split <;> omega
theorem modc {n m r : Int} (h : modF n m = r) (hm : m ≤ 9223372036854775807) (w : World) : Calls Tryd.prog 14 #[.int .i64 n, .int .i64 m] w fun e w' => e = .returned (.int .i64 r) ∧ w = w' := h ▸ mod_any n m w hm
theorem width_any (n : Int) (w : World) : Calls Tryd.prog 9 #[.int .i64 n] w fun e w' => e = .returned (.int .i64 (widthV n)) ∧ w = w' := by
  have h1 := modF_lo n 5
  have h2 := modF_hi n 5 (by omega)
  have hx : ∀ (j : Nat) (v : Int), modF n 5 = (j : Int) → j < 5 → #[Value.int .i64 3, Value.int .i64 7, Value.int .i64 8, Value.int .i64 16, Value.int .i64 24][j]? = some (.int .i64 v) → widthV n = v → Calls Tryd.prog 9 #[.int .i64 n] w fun e w' => e = .returned (.int .i64 (widthV n)) ∧ w = w' := by
    intro j v hj hj5 hget hv
    have hpick : ∀ u : World, (Instr.index 37 (.agg #[.int .i64 3, .int .i64 7, .int .i64 8, .int .i64 16, .int .i64 24]) (.int .i64 (j : Int))).run Tryd.prog u = .ok (.int .i64 v) u := fun u => run_index_cell (j := j) u Tryd.underlying37 (by kernel_rfl) Tryd.underlying3 (by kernel_rfl) hj5 hget
    rw [hv]
    have HJ := Lib.hid hj
    clear h1 h2 hj hget hv
    go_enter Tryd.func9, Tryd.ntmps9
    go_wp2_with fail
    refine (modc HJ.out (by omega) w).mono ?_
    rintro e w' ⟨rfl, rfl⟩
    go_wp2_with fail
    go_ret
    exact ⟨rfl, rfl⟩
  have h5 : modF n 5 = 0 ∨ modF n 5 = 1 ∨ modF n 5 = 2 ∨ modF n 5 = 3 ∨ modF n 5 = 4 := by omega
  rcases h5 with h | h | h | h | h
  · exact hx 0 3 h (by omega) rfl (by unfold widthV; rw [h]; rfl)
  · exact hx 1 7 h (by omega) rfl (by unfold widthV; rw [h]; rfl)
  · exact hx 2 8 h (by omega) rfl (by unfold widthV; rw [h]; rfl)
  · exact hx 3 16 h (by omega) rfl (by unfold widthV; rw [h]; rfl)
  · exact hx 4 24 h (by omega) rfl (by unfold widthV; rw [h]; rfl)
theorem rd_nil (k : IntKind) (w : World) : Rd k w none 0 [] := ⟨rfl, by simp, by simp [maxLen], .inl rfl⟩
theorem sum_is {kind v e0 : Int} {xs : List Int} (hv : sumV kind xs = v) (he : sumE kind = e0) (a : Option Addr) (len cap : Nat) (w : World) (hl : LaidIn w) (hk : i64 kind) (hr : Rd .u8 w a len xs) :
    Calls Tryd.prog 10 #[.int .i64 kind, .slice a len cap] w fun e w' => e = .returned (.tuple #[.int .i64 v, .int .i64 e0]) ∧ Gr w w' := by
  subst hv he; exact sum_any kind a len cap xs w hl hk hr
theorem rsum_is {kind v e0 : Int} {xs : List Int} (hv : sumV kind xs = v) (he : sumE kind = e0) (a : Option Addr) (len cap : Nat) (w : World) (hr : Rd .u8 w a len xs) :
    Calls Tryd.prog 11 #[.int .i64 kind, .slice a len cap] w fun e w' => e = .returned (.tuple #[.int .i64 v, .int .i64 e0]) ∧ Gr w w' := by
  subst hv he; exact rsum_any kind a len cap xs w hr
theorem next_is {kind reg v e0 : Int} {xs : List Int} (hv : nextV kind reg xs = v) (he : nextE kind reg = e0) (a : Option Addr) (len cap : Nat) (w : World) (hl : LaidIn w) (hk : i64 kind) (hr : Rd .u8 w a len xs) (hreg : i64 reg) :
    Calls Tryd.prog 12 #[.int .i64 kind, .int .i64 reg, .slice a len cap] w fun e w' => e = .returned (.tuple #[.int .i64 v, .int .i64 e0]) ∧ Gr w w' := by
  subst hv he; exact next_any kind reg a len cap xs w hl hk hr hreg
theorem rnext_is {kind reg v e0 : Int} {xs : List Int} (hv : nextV kind reg xs = v) (he : nextE kind reg = e0) (a : Option Addr) (len cap : Nat) (w : World) (hr : Rd .u8 w a len xs) (hreg : i64 reg) :
    Calls Tryd.prog 13 #[.int .i64 kind, .int .i64 reg, .slice a len cap] w fun e w' => e = .returned (.tuple #[.int .i64 v, .int .i64 e0]) ∧ Gr w w' := by
  subst hv he; exact rnext_any kind reg a len cap xs w hr hreg
theorem awake03 (w : World) (hl : LaidIn w) : Calls Tryd.prog 8 #[] w fun e w' => e = .returned (.bool true) ∧ Gr w w' := by
  have HLA := Lib.hid hl
  have H1 := Lib.hid (show sumV 8 [0] = 243 by decide +kernel)
  have H2 := Lib.hid (show sumE 8 = 0 by decide +kernel)
  have H3 := Lib.hid (show sumV 3 [] = 7 by decide +kernel)
  have H4 := Lib.hid (show sumE 3 = 0 by decide +kernel)
  clear hl
  go_enter Tryd.func8, Tryd.ntmps8
  go_wp2_with fail
  obtain ⟨w1, hw1⟩ : ∃ y, y = w.alloc (.cells #[.int .u8 0] 5) := ⟨_, rfl⟩
  have hrd1 : Rd .u8 w1 (some ⟨w.heap.size, 0, none⟩) 1 [0] := by rw [hw1]; exact rd_new [0] _ _ 1 rfl (by simp [maxLen]) (by decide)
  have hg1 : Gr w w1 := by rw [hw1]; exact Gr.alloc _ _
  rw [← hw1]
  clear hw1
  refine (sum_is H1.out H2.out _ 1 _ w1 (HLA.out.kept hg1) (by decide) hrd1).mono ?_
  rintro e w2 ⟨rfl, hg2⟩
  have HG2 := Lib.hid (hg1.trans hg2)
  clear hrd1 hg1 hg2
  go_wp2_with fail
  refine (sum_is H3.out H4.out _ 0 _ w2 (HLA.out.kept HG2.out) (by decide) (rd_nil _ _)).mono ?_
  rintro e w3 ⟨rfl, hg3⟩
  have HG3 := Lib.hid (HG2.out.trans hg3)
  clear hg3
  go_wp2_with fail
  go_ret
  exact ⟨rfl, HG3.out⟩
end Go.Proofs.YtcdfljgpddafoaaDoor
