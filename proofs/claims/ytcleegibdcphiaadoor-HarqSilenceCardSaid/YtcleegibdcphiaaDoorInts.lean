/- Appends at []int; a shorter slice. -/
import Derived.Test.YtcleegibdcphiaaDoorTypes
namespace Go.Proofs.YtcleegibdcphiaaDoor
open Go.ChangeShapes Go.WideShapes Go.ChangeAt Go.RowKit

theorem info_i64 : (Tryd.prog.info? 3).map (fun i => (i.zero, i.size, i.bytes)) = some (some (.int .i64 0), 1, 8) := by kernel_rfl

theorem app_i64 (B : Nat) (w : World) (a : Option Addr) (n cap : Nat) (xs : List Int) (hown : OwnI B 3 .i64 w a n cap xs)
    (b : Option Addr) (m c : Nat) (ys : List Int) (hr : Rd .i64 w b m ys) (hlen : n + m ≤ 17592186044416) (hbase : B ≤ w.heap.size) :
    ∃ a' cap' w', (Builtin.append_ #[25, 25] 25 #[.slice a n cap, .slice b m c]).run Tryd.prog w = .ok (.slice a' (n + m) cap') w' ∧ OwnI B 3 .i64 w' a' (n + m) cap' (xs ++ ys) ∧
      w.grownBy w' (Value.slice a n cap).ownBlock ∧ Follows w (.slice a n cap) (.slice a' (n + m) cap') := by
  obtain ⟨i0, hi, hz0, hz1, hz2⟩ := info_parts info_i64
  exact run_appI B _ _ _ i0 (.int .i64 0) .i64 8 Tryd.underlying25 hi hz0 hz1 hz2 rfl w a n cap xs hown b m c ys hr (by omega) (by simp [maxLen]; omega) hbase
theorem Rd.take {k : IntKind} {w : World} {a : Option Addr} {len : Nat} {xs : List Int} (h : Rd k w a len xs) (n : Nat) (hn : n ≤ len) : Rd k w a n (xs.take n) := by
  obtain ⟨h1, h2, h3, h4⟩ := h
  refine ⟨by simp; omega, fun x hx => h2 x (List.mem_of_mem_take hx), by omega, ?_⟩
  rcases h4 with h0 | ⟨b, off, rfl, hb, hc⟩
  · exact .inl (by omega)
  · refine .inr ⟨b, off, rfl, hb, fun i hi => ?_⟩
    rw [hc i (by omega), List.getElem?_take_of_lt hi]
end Go.Proofs.YtcleegibdcphiaaDoor
