/- ref01.Put: appends a number in some bytes. -/
import Derived.Test.YtmojlengjoicoaaTypes
namespace Go.Proofs.Ytmojlengjoicoaa
open Go.ChangeShapes Go.WideShapes Go.ChangeAt Go.RowKit

def putR (x : Int) : Nat → List Int
  | 0 => []
  | r + 1 => x / 2 ^ (8 * r) % 256 :: putR x r
theorem putR_len (x : Int) : ∀ r, (putR x r).length = r
  | 0 => rfl
  | r + 1 => by simp [putR, putR_len x r]
theorem putR_byte (x : Int) : ∀ r, ∀ y ∈ putR x r, 0 ≤ y ∧ y ≤ 255
  | 0 => by simp [putR]
  | r + 1 => by
    intro y hy
    simp only [putR, List.mem_cons] at hy
    rcases hy with rfl | hy
    · omega
    · exact putR_byte x r y hy

/-- What a function that appends integers to its first argument hands back. -/
def AppPost (B : Nat) (e : TypeId) (k : IntKind) (w : World) (a : Option Addr) (n cap : Nat) (m : Nat) (zs : List Int) (en : Ending) (w' : World) : Prop :=
  ∃ a' cap' n', n' = n + m ∧ en = .returned (.slice a' n' cap') ∧ OwnI B e k w' a' n' cap' zs ∧ w.grownBy w' (Value.slice a n cap).ownBlock ∧ Follows w (.slice a n cap) (.slice a' n' cap')

theorem put_any (B : Nat) (a : Option Addr) (n cap : Nat) (xs : List Int) (K : Int) (k : Nat) (x : Int) (w : World) (hK : K = k) (hown : OwnI B 5 .u8 w a n cap xs) (hn : n ≤ 140737488355000) (hk : k ≤ 7) (hB : B ≤ w.heap.size) :
    Calls Try.prog 71 #[.slice a n cap, .int .i64 K, .int .i64 x] w (AppPost B 5 .u8 w a n cap k (xs ++ putR x k)) := by
  subst hK
  go_enter Try.func71, Try.ntmps71
  go_wp2_with fail
  go_loopw [0, 7] (fun s i wr => ∃ (a' : Option Addr) (n' cap' r : Nat) (ys : List Int), r ≤ k ∧ n' + r = n + k ∧ s = .slice a' n' cap' ∧ i = .int .i64 ((r : Int) - 1) ∧ OwnI B 5 .u8 wr a' n' cap' ys ∧ ys ++ putR x r = xs ++ putR x k ∧ w.grownBy wr (Value.slice a n cap).ownBlock ∧ Follows w (.slice a n cap) (.slice a' n' cap')) (fun _ i _ => (intOf i + 1).toNat)
  case atStart => exact ⟨a, n, cap, k, xs, by omega, rfl, rfl, rfl, hown, rfl, grownBy_refl _ _, Follows.refl _ _⟩
  case round =>
    obtain ⟨a', n', cap', r, ys, hr, hnr, rfl, rfl, hown', hys, hg, hf⟩ := hrel
    have HY := Lib.hid hys
    have HN := Lib.hid hnr
    have hn' : n' ≤ 140737488355010 := by omega
    clear hys hnr hown
    by_cases h : 1 ≤ r
    · obtain ⟨q, rfl⟩ : ∃ q, r = q + 1 := ⟨r - 1, by omega⟩
      have hq : ((q + 1 : Nat) : Int) - 1 = (q : Int) := by omega
      rw [hq]
      have hrd := rd_new (k := .u8) (w := wr) [x / 2 ^ (8 * q) % 256] 5 (0, 0) 1 rfl (by simp [maxLen]) (by intro y hy; simp at hy; subst hy; exact WalkArith.wf_u8 (by omega))
      obtain ⟨a2, c2, w2, hrun, ho2, hg2, hf2⟩ := app_u8 B (wr.alloc (.cells ([x / 2 ^ (8 * q) % 256].map (Value.int .u8)).toArray 5)) a' n' cap' ys (hown'.stay (World.grownBy_alloc _ _ _)) (some ⟨wr.heap.size, 0, none⟩) 1 1 _ hrd (by omega) (by have := hg.size; simp; omega)
      simp only [List.map_cons, List.map_nil] at hrun hg2 hf2
      have HR := Lib.hid hrun
      have ho2' := ho2
      have hB2 := hg.size
      clear hrun hrd
      go_wp2_with (at_builtin; refine wpList_app rfl _ _ _ rfl rfl rfl HR.out ?_)
      have hrg := round_grown hg hf hg2 hf2
      exact ⟨⟨a2, n' + 1, c2, q, _, by omega, by have := HN.out; omega, rfl, rfl, ho2, by rw [← HY.out]; simp [putR], hrg.1, hrg.2⟩, by simp [intOf]⟩
    · obtain rfl : r = 0 := by omega
      go_wp2
      go_ret
      exact ⟨a', cap', n', by have := HN.out; omega, rfl, by have := HY.out; simp [putR] at this; rw [← this]; exact hown', hg, hf⟩
end Go.Proofs.Ytmojlengjoicoaa
