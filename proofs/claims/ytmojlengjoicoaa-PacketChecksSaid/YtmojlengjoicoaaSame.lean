/- ref01.Same: two strings of bytes are equal. -/
import Derived.Test.YtmojlengjoicoaaMem
import Derived.Laws.BytesArg
import Derived.Laws.Strings
import Derived.WideShapes
namespace Go.Proofs.Ytmojlengjoicoaa
open Go.ChangeShapes Go.WideShapes Go.ChangeAt Go.RowKit

theorem conv_rd {P : Program} {w : World} {a : Option Addr} {len : Nat} {xs : List Int} (h : Rd .u8 w a len xs) (cap : Nat) (src e dst : TypeId) (hs : P.underlying src = some (.slice e)) (he : P.underlying e = some (.int .u8)) (hd : P.underlying dst = some .string) :
    (convert src dst (.slice a len cap)).run P w = .ok (.string (strOfNums xs)) w := by
  obtain ⟨h1, _, _, h4⟩ := h
  rcases h4 with h0 | ⟨b, off, rfl, hb, hc⟩
  · subst h0
    have : xs = [] := List.eq_nil_of_length_eq_zero h1
    subst this
    rw [run_convert_bytes_string w src dst e _ 0 cap hs he hd]
    cases a <;> simp [Conv.bytesToString, loadCells]
    all_goals rfl
  · exact run_convert_bytes_arg w src e hs he b off len cap xs h1 (fun i hi => by rw [hc i hi]; simp [List.getD]) dst hd
theorem byte_inj {x y : Int} (hx : 0 ≤ x ∧ x ≤ 255) (hy : 0 ≤ y ∧ y ≤ 255) (h : UInt8.ofNat x.toNat = UInt8.ofNat y.toNat) : x = y := by
  have := congrArg UInt8.toNat h
  simp at this
  omega
theorem nums_inj : ∀ (xs ys : List Int), (∀ x ∈ xs, 0 ≤ x ∧ x ≤ 255) → (∀ x ∈ ys, 0 ≤ x ∧ x ≤ 255) → (xs.map fun n => UInt8.ofNat n.toNat) = (ys.map fun n => UInt8.ofNat n.toNat) → xs = ys
  | [], [], _, _, _ => rfl
  | [], _ :: _, _, _, h => by simp at h
  | _ :: _, [], _, _, h => by simp at h
  | x :: xs, y :: ys, hx, hy, h => by
    simp only [List.map_cons, List.cons.injEq] at h
    rw [byte_inj (hx x (by simp)) (hy y (by simp)) h.1, nums_inj xs ys (fun z hz => hx z (by simp [hz])) (fun z hz => hy z (by simp [hz])) h.2]
theorem str_inj {xs ys : List Int} (hx : ∀ x ∈ xs, 0 ≤ x ∧ x ≤ 255) (hy : ∀ x ∈ ys, 0 ≤ x ∧ x ≤ 255) : strOfNums xs = strOfNums ys ↔ xs = ys := by
  constructor
  · intro h
    refine nums_inj xs ys hx hy ?_
    rw [← strOfNums_data, ← strOfNums_data, h]
  · rintro rfl; rfl
theorem rd_bytes {w : World} {a : Option Addr} {len : Nat} {xs : List Int} (h : Rd .u8 w a len xs) : ∀ x ∈ xs, 0 ≤ x ∧ x ≤ 255 := fun x hx => bounds_u8 (h.2.1 x hx)
theorem ret_bool' {a b : Bool} (h : a = b) : Ending.returned (.bool a) = .returned (.bool b) := by rw [h]
theorem bsame_any (a b : Option Addr) (l c l' c' : Nat) (xs ys : List Int) (w : World) (hx : Rd .u8 w a l xs) (hy : Rd .u8 w b l' ys) :
    Calls Try.prog 42 #[.slice a l c, .slice b l' c'] w fun e w' => e = .returned (.bool (decide (xs = ys))) ∧ w = w' := by
  have k1 := conv_rd (P := Try.prog) hx c 52 5 9 Try.underlying52 Try.underlying5 Try.underlying9
  have k2 := conv_rd (P := Try.prog) hy c' 52 5 9 Try.underlying52 Try.underlying5 Try.underlying9
  have hi := str_inj (rd_bytes hx) (rd_bytes hy)
  have HI := Lib.hid hi
  clear hi hx hy
  go_enter Try.func42, Try.ntmps42
  go_wp2_with fail
  go_ret
  refine ⟨ret_bool' ?_, rfl⟩
  have hi := HI.out
  rw [ByteArray.toList_eq, ByteArray.toList_eq, Bool.eq_iff_iff, beq_iff_eq, decide_eq_true_eq, ← hi]
  exact ⟨fun h => bytes_inj h, fun h => by rw [h]⟩
end Go.Proofs.Ytmojlengjoicoaa
