/- Layer 05 (packet): reading a number. -/
import Derived.Test.YtmojlengjoicoaaPackA
import Derived.Test.YtmojlengjoicoaaChecksum
namespace Go.Proofs.Ytmojlengjoicoaa
open Go.ChangeShapes Go.WideShapes Go.ChangeAt Go.RowKit

/-- The number in the first j bytes from o on. -/
def getN (xs : List Int) (o : Nat) : Nat → Int
  | 0 => 0
  | j + 1 => 256 * getN xs o j + xs[o + j]?.getD 0
theorem getN_rng {xs : List Int} (hb : bytesOk xs) (o : Nat) : ∀ j, 0 ≤ getN xs o j ∧ getN xs o j < 256 ^ j
  | 0 => by simp [getN]
  | j + 1 => by
    obtain ⟨h1, h2⟩ := getN_rng hb o j
    have h3 := getD_byte hb (o + j)
    simp only [getN, Int.pow_succ]
    omega
theorem rget_any (a : Option Addr) (len cap : Nat) (xs : List Int) (o n : Nat) (w : World) (hr : Rd .u8 w a len xs) (h1 : o + n ≤ len) (h2 : n ≤ 4) (h3 : len ≤ 100000) (h4 : 0 < len) :
    Calls Try.prog 65 #[.slice a len cap, .int .i64 o, .int .i64 n] w fun e w' => e = .returned (.int .i64 (getN xs o n)) ∧ w = w' := by
  obtain ⟨b, off, rfl, hb, hc⟩ := hr.some h4
  have HC := Lib.hid hc
  have HB := Lib.hid hr.bytes
  clear hr hc
  go_enter Try.func65, Try.ntmps65
  go_wp2_with fail
  go_loopw [7, 8] (fun v i wr => ∃ j : Nat, j ≤ n ∧ v = .int .i64 (getN xs o j) ∧ i = .int .i64 j ∧ w = wr) (fun _ i _ => n - (intOf i).toNat)
  case atStart => exact ⟨0, by omega, rfl, rfl, rfl⟩
  case round =>
    obtain ⟨j, hj, rfl, rfl, rfl⟩ := hrel
    obtain ⟨g1, g2⟩ := getN_rng HB.out o j
    have hp : (256 : Int) ^ j ≤ 4294967296 := by
      have hj4 : j = 0 ∨ j = 1 ∨ j = 2 ∨ j = 3 ∨ j = 4 := by omega
      rcases hj4 with rfl | rfl | rfl | rfl | rfl <;> decide
    have g3 : getN xs o j < 4294967296 := by omega
    clear g2 hp
    by_cases hlt : j < n
    · have c1 := HC.out (o + j) (by omega)
      obtain ⟨y, hy⟩ : ∃ y, xs[o + j]?.getD 0 = y := ⟨_, rfl⟩
      have hyb := getD_byte HB.out (o + j)
      rw [hy] at c1 hyb
      obtain ⟨y1, y2⟩ := hyb
      obtain ⟨G, hG⟩ : ∃ G, getN xs o j = G := ⟨_, rfl⟩
      have hn : 256 * G + y = getN xs o (j + 1) := by rw [getN, hG, hy]
      have HN := Lib.hid hn
      rw [hG] at g1 g3 ⊢
      clear hn hy hG
      go_wp2_with fail
      go_roundw
      case rel => exact ⟨j + 1, by omega, by rw [← HN.out], by go_num, by first | rfl | trivial⟩
      case measure => (simp [intOf] <;> omega)
    · obtain rfl : j = n := by omega
      go_wp2_with fail
      go_ret
      exact ⟨rfl, by first | rfl | trivial⟩
theorem OwnI.cut {B : Nat} {e : TypeId} {k : IntKind} {w : World} {g n cap : Nat} {xs : List Int} (h : OwnI B e k w (.some ⟨g, 0, none⟩) n cap xs) (m : Nat) (hm : m ≤ n) : OwnI B e k w (.some ⟨g, 0, none⟩) m cap (xs.take m) := by
  have hl := h.len
  refine ⟨?_, fun y hy => h.wf y (List.mem_of_mem_take hy)⟩
  refine ⟨by simp; omega, .inr ?_⟩
  rcases h.row.2 with ⟨hv, h0⟩ | ⟨g', cap', cur, hv, hb, hg, hn, hx, hs, ht⟩
  · simp at hv
  · injection hv with e1 e2 e3
    injection e1 with e1
    injection e1 with e1
    subst e1
    subst e3
    refine ⟨_, _, cur, rfl, hb, hg, by omega, hx, hs, ?_⟩
    rw [List.map_take, ← ht, List.take_take, show min m (n * 1) = m * 1 by omega]
theorem or_byte {u s : Int} (h0 : 0 ≤ u) (h1 : u < 4294967296) (h2 : 0 ≤ s) (h3 : s ≤ 255) : bits .or .i64 (u * 256) s = 256 * u + s := by
  rw [or_nn (by omega) (by omega) h2 (by omega)]
  have e : (u * 256).toNat ||| s.toNat = u.toNat * 256 + s.toNat := by
    have := Nat.two_pow_add_eq_or_of_lt (i := 8) (b := s.toNat) (by omega) u.toNat
    rw [show (u * 256).toNat = 2 ^ 8 * u.toNat by omega, ← this]
    omega
  rw [e]; omega
theorem pget_any (a : Option Addr) (len cap : Nat) (xs : List Int) (o n : Nat) (w : World) (hr : Rd .u8 w a len xs) (hcap : len ≤ cap) (h1 : o + n ≤ len) (h2 : n ≤ 4) (h3 : len ≤ 100000) (h4 : 0 < n) :
    Calls Try.prog 62 #[.slice a len cap, .int .i64 o, .int .i64 n] w fun e w' => e = .returned (.int .i64 (getN xs o n)) ∧ w = w' := by
  obtain ⟨b, off, rfl, hb, hc⟩ := hr.some (by omega)
  have hoc : o < cap := by omega
  have hnc : ¬ o = cap := by omega
  have hob : (o == cap) = false := by simpa using hnc
  have HC := Lib.hid hc
  have HB := Lib.hid hr.bytes
  clear hr hc
  go_enter Try.func62, Try.ntmps62
  go_wp2_with fail
  go_loopw [7, 17] (fun v i wr => ∃ j : Nat, j ≤ n ∧ v = .int .i64 (getN xs o j) ∧ i = .int .i64 j ∧ w = wr) (fun _ i _ => n - (intOf i).toNat)
  case atStart => exact ⟨0, by omega, rfl, rfl, rfl⟩
  case round =>
    obtain ⟨j, hj, rfl, rfl, rfl⟩ := hrel
    obtain ⟨g1, g2⟩ := getN_rng HB.out o j
    have hp : (256 : Int) ^ j ≤ 4294967296 := by
      have hj4 : j = 0 ∨ j = 1 ∨ j = 2 ∨ j = 3 ∨ j = 4 := by omega
      rcases hj4 with rfl | rfl | rfl | rfl | rfl <;> decide
    have g3 : getN xs o j < 4294967296 := by omega
    clear g2 hp
    by_cases hlt : j < n
    · have c1 := HC.out (o + j) (by omega)
      rw [← Nat.add_assoc] at c1
      obtain ⟨y, hy⟩ : ∃ y, xs[o + j]?.getD 0 = y := ⟨_, rfl⟩
      have hyb := getD_byte HB.out (o + j)
      rw [hy] at c1 hyb
      obtain ⟨y1, y2⟩ := hyb
      obtain ⟨G, hG⟩ : ∃ G, getN xs o j = G := ⟨_, rfl⟩
      have hn : 256 * G + y = getN xs o (j + 1) := by rw [getN, hG, hy]
      have HN := Lib.hid hn
      rw [hG] at g1 g3 ⊢
      have HOR := Lib.hid (or_byte g1 g3 y1 y2)
      clear hn hy hG
      go_wp2_with fail
      go_roundw
      case rel => exact ⟨j + 1, by omega, by rw [← HN.out, ← HOR.out], by go_num, by first | rfl | trivial⟩
      case measure => (simp [intOf] <;> omega)
    · obtain rfl : j = n := by omega
      go_wp2_with fail
      go_ret
      exact ⟨rfl, by first | rfl | trivial⟩
end Go.Proofs.Ytmojlengjoicoaa
