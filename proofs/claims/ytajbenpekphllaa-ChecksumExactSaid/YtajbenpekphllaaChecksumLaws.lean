/- The laws of layer 4 (checksum): their walks. -/
import Derived.Test.YtajbenpekphllaaChecksum
import Derived.Test.YtajbenpekphllaaPut
namespace Go.Proofs.Ytajbenpekphllaa
open Go.ChangeShapes Go.WideShapes Go.ChangeAt Go.RowKit

theorem awake4 (w : World) : Calls Try.prog 13 #[] w fun e w' => e = .returned (.bool true) ∧ w.grownBy w' none := by
  have e1 : addS 0 [] = 0 := by decide +kernel
  have e2 : foldS 65536 = 1 := by decide +kernel
  have e3 : addS 0 [0, 1] = 1 := by decide +kernel
  go_enter Try.func13, Try.ntmps13
  go_wp2_with fail
  refine (sum_any _ 0 _ [] _ ⟨rfl, by simp, by simp [maxLen], .inl rfl⟩ (by omega)).mono ?_
  rintro e w' ⟨rfl, rfl⟩
  go_wp2_with ((go_at_call 17; refine (fold_any _ _ (by omega)).mono ?_; rintro e w' ⟨rfl, rfl⟩))
  refine (sum_any _ 2 _ [0, 1] _ (rd_new [0, 1] _ _ _ rfl (by simp [maxLen]) (by decide)) (by omega)).mono ?_
  rintro e w' ⟨rfl, rfl⟩
  go_wp2
  go_ret
  exact ⟨rfl, World.grownBy_alloc _ _ _⟩

/-! ### ChecksumZero -/
theorem words_append : ∀ (l r : List Int), l.length % 2 = 0 → words (l ++ r) = words l + words r
  | [], r, _ => by simp [words]
  | [a], r, h => by simp at h
  | a :: b :: l, r, h => by
    have ih := words_append l r (by simp only [List.length_cons] at h; omega)
    simp only [List.cons_append, words, ih]; omega
theorem words_split (l : List Int) (i : Nat) (he : i % 2 = 0) (h : i + 1 < l.length) : words l = words (l.take i) + (256 * l[i]?.getD 0 + l[i + 1]?.getD 0) + words (l.drop (i + 2)) := by
  have h1 := words_append (l.take i) (l.drop i) (by simp; omega)
  rw [List.take_append_drop] at h1
  rw [h1, words_drop1 l i h]; omega
theorem words_set (l : List Int) (i : Nat) (x y : Int) (he : i % 2 = 0) (h : i + 1 < l.length) : words ((l.set i x).set (i + 1) y) = words l - (256 * l[i]?.getD 0 + l[i + 1]?.getD 0) + (256 * x + y) := by
  have e1 := words_split l i he h
  have e2 := words_split ((l.set i x).set (i + 1) y) i he (by simpa using h)
  have t1 : ((l.set i x).set (i + 1) y).take i = l.take i := by
    rw [List.take_set_of_le (by omega), List.take_set_of_le (by omega)]
  have t2 : ((l.set i x).set (i + 1) y).drop (i + 2) = l.drop (i + 2) := by
    rw [List.drop_set_of_lt (by omega), List.drop_set_of_lt (by omega)]
  rw [t1, t2] at e2
  have g1 : ((l.set i x).set (i + 1) y)[i]?.getD 0 = x := by
    rw [List.getElem?_set_ne (by omega), List.getElem?_set_self (by omega)]; rfl
  have g2 : ((l.set i x).set (i + 1) y)[i + 1]?.getD 0 = y := by
    rw [List.getElem?_set_self (by simpa using h)]; rfl
  rw [g1, g2] at e2
  omega
theorem add_zero_law (l : List Int) (hl : l.length % 2 = 0) (hb : bytesOk l) : addS 0 (l ++ putR (65535 - addS 0 l) 2) = 65535 := by
  have hw := words_rng l hb
  have hr := foldS_rng (foldS 0 + words l)
  have e : foldS 0 = 0 := by decide
  unfold addS at *
  rw [words_append l _ hl, e, Int.zero_add, Int.zero_add] at *
  generalize hF : foldS (words l) = F at *
  have e2 : words (putR (65535 - F) 2) = 65535 - F := by
    have h0 : 0 ≤ F ∧ F ≤ 65535 := by rw [← hF]; exact foldS_rng _
    simp only [putR, words, Nat.mul_one, Nat.mul_zero, Int.pow_zero, Int.ediv_one, show (2 : Int) ^ 8 = 256 from rfl]; omega
  rw [e2]
  unfold foldS at *
  split at hF <;> split <;> omega

theorem zero_walk_even (a : Option Addr) (len cap : Nat) (bs : List Int) (w : World) (HRD : Rd .u8 w a len bs) (hL : len ≤ 140737488351232) (hev : len % 2 = 0) (he : ((len : Int) % 2 == 1) = false) :
    Calls Try.prog 3 #[.slice a len cap] w fun e w' => e = .returned (.bool true) ∧ w.grownBy w' none := by
  have hs := foldS_rng (foldS 0 + words bs)
  have hs2 : 0 ≤ addS 0 bs ∧ addS 0 bs ≤ 65535 := hs
  clear hs
  have hz := add_zero_law bs (by rw [HRD.1]; exact hev) HRD.bytes
  have HZ := Lib.hid hz
  clear hz hev
  go_enter Try.func3, Try.ntmps3
  go_wp2_with ((go_at_call 12; refine (sum_any _ _ _ _ _ HRD (by omega)).mono ?_; rintro e w' ⟨rfl, rfl⟩))
  refine (awake4 _).mono ?_
  rintro e w4 ⟨rfl, hg4⟩
  obtain ⟨a5, c5, w5, hrun, ho5, hg5, hf5⟩ := app_u8_nil w4.heap.size w4 a len cap bs (HRD.kept hg4) (by omega) (Nat.le_refl _)
  have HR := Lib.hid hrun
  clear hrun hf5
  have HG4 := Lib.hid hg4
  clear hg4
  go_wp2_with (at_builtin; refine wpList_app rfl _ _ _ rfl rfl rfl HR.out ?_)
  refine (put_any w4.heap.size _ _ _ _ _ 2 _ _ rfl ho5 (by omega) (by omega) hg5.size).mono ?_
  rintro e w6 ⟨a6, c6, n6, hn6, rfl, ho6, hg6, hf6⟩
  have H6 := Lib.hid hn6
  have hn6' : n6 ≤ 140737488355328 := by omega
  have hgg := grown_trans HG4.out (grown_own hg5 ho5 (Nat.le_refl _) hg6)
  have HGG := Lib.hid hgg
  clear hn6 hg6 hf6 hg5 hgg
  have hz := HZ.out
  go_wp2_with ((go_at_call 12; refine (sum_any _ _ _ _ _ ho6.rd hn6').mono ?_; rintro e w' ⟨rfl, rfl⟩))
  go_ret
  exact ⟨rfl, HGG.out⟩

theorem zero_walk_odd (a : Option Addr) (len cap : Nat) (bs : List Int) (w : World) (hr : Rd .u8 w a len bs) (hL : len ≤ 140737488351232) (hev : len % 2 = 1) (he : ((len : Int) % 2 == 1) = true) :
    Calls Try.prog 3 #[.slice a len cap] w fun e w' => e = .returned (.bool true) ∧ w.grownBy w' none := by
  have hb : bytesOk (bs ++ [0]) := by
    intro x hx
    rcases List.mem_append.1 hx with h | h
    · exact hr.bytes x h
    · simp at h; omega
  obtain ⟨ys, hys⟩ : ∃ ys, bs ++ [0] = ys := ⟨_, rfl⟩
  have hyl : ys.length % 2 = 0 := by rw [← hys]; simp [hr.1]; omega
  have HYS := Lib.hid hys
  rw [hys] at hb
  have hs := foldS_rng (foldS 0 + words ys)
  have hs2 : 0 ≤ addS 0 ys ∧ addS 0 ys ≤ 65535 := hs
  clear hs
  have hz := add_zero_law ys hyl hb
  have HZ := Lib.hid hz
  clear hz hev hb hyl hys
  obtain ⟨a1, c1, w1, hrun1, ho1, hg1, hf1⟩ := app_u8_nil w.heap.size w a len cap bs hr (by omega) (Nat.le_refl _)
  have hrd := rd_new (k := .u8) (w := w1) [0] 5 (0, 0) 1 rfl (by simp [maxLen]) (by decide)
  obtain ⟨a2, c2, w2, hrun2, ho2, hg2, hf2⟩ := app_u8 w.heap.size (w1.alloc (.cells ([0].map (Value.int .u8)).toArray 5)) a1 len c1 bs (ho1.stay (World.grownBy_alloc _ _ _)) (some ⟨w1.heap.size, 0, none⟩) 1 1 _ hrd (by omega) (by have := hg1.size; simp; omega)
  simp only [List.map_cons, List.map_nil] at hrun2 hg2
  rw [HYS.out] at ho2
  have HR1 := Lib.hid hrun1
  have HR2 := Lib.hid hrun2
  have hgg := grown_own (grownBy_alloc hg1 _) (ho1.stay (World.grownBy_alloc _ _ _)) (Nat.le_refl _) hg2
  have HG2 := Lib.hid hgg
  have HRD := ho2.rd
  clear hrun1 hrun2 hf1 hf2 hg1 hg2 hgg hrd
  go_enter Try.func3, Try.ntmps3
  go_wp2_with (first | ((go_at_call 12; refine (sum_any _ _ _ _ _ HRD (by omega)).mono ?_; rintro e w' ⟨rfl, rfl⟩)) | (at_builtin; refine wpList_app rfl _ _ _ rfl rfl rfl HR1.out ?_; clear HR1) | (at_builtin; refine wpList_app rfl _ _ _ rfl rfl rfl HR2.out ?_; clear HR2))
  refine (awake4 _).mono ?_
  rintro e w4 ⟨rfl, hg4⟩
  obtain ⟨a5, c5, w5, hrun, ho5, hg5, hf5⟩ := app_u8_nil w4.heap.size w4 a2 (len + 1) c2 ys (HRD.kept hg4) (by omega) (Nat.le_refl _)
  have HR := Lib.hid hrun
  clear hrun hf5
  have HG4 := Lib.hid hg4
  clear hg4
  go_wp2_with (at_builtin; refine wpList_app rfl _ _ _ rfl rfl rfl HR.out ?_)
  refine (put_any w4.heap.size _ _ _ _ _ 2 _ _ rfl ho5 (by omega) (by omega) hg5.size).mono ?_
  rintro e w6 ⟨a6, c6, n6, hn6, rfl, ho6, hg6, hf6⟩
  have H6 := Lib.hid hn6
  have hn6' : n6 ≤ 140737488355328 := by omega
  have hgg := grown_trans HG4.out (grown_own hg5 ho5 (Nat.le_refl _) hg6)
  have HGG := Lib.hid hgg
  clear hn6 hg6 hf6 hg5 hgg
  have hz := HZ.out
  go_wp2_with ((go_at_call 12; refine (sum_any _ _ _ _ _ ho6.rd hn6').mono ?_; rintro e w' ⟨rfl, rfl⟩))
  go_ret
  exact ⟨rfl, grown_trans HG2.out HGG.out⟩

theorem zero_fit (a : Option Addr) (len cap : Nat) (bs : List Int) (w : World) (hr : Rd .u8 w a len bs) (_hc : len ≤ cap) (hL : len ≤ 140737488351232) :
    Calls Try.prog 3 #[.slice a len cap] w fun e w' => e = .returned (.bool true) ∧ Below w.heap.size w w' := by
  by_cases h : len % 2 = 0
  · exact (zero_walk_even a len cap bs w hr hL h (by simp; omega)).mono fun _ _ ⟨he, hg⟩ => ⟨he, Below.of_none hg⟩
  · exact (zero_walk_odd a len cap bs w hr hL (by omega) (by simp; omega)).mono fun _ _ ⟨he, hg⟩ => ⟨he, Below.of_none hg⟩
end Go.Proofs.Ytajbenpekphllaa
