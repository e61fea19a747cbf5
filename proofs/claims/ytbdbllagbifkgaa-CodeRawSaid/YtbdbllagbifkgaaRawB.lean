/- Layer 28 (code): Decode and Positions for bad arguments; the reference's Positions. -/
import Derived.Test.YtbdbllagbifkgaaRawA
namespace Go.Proofs.Ytbdbllagbifkgaa
open Go.ChangeShapes Go.WideShapes Go.ChangeAt Go.RowKit
open Cod

set_option maxRecDepth 100000 in
theorem decode_len (a : Option Addr) (len cap : Nat) (n : Int) (w : World) (h : lenS n = 0 ∨ lenS n ≠ len) (_hm : len ≤ 9223372036854775807) : Calls Try.prog 12 #[.slice a len cap, .int .i64 n] w (TwoPost 61 [] w) := by
  obtain ⟨r, hr⟩ : ∃ r, lenS n = r := ⟨_, rfl⟩
  rw [hr] at h
  have HR := Lib.hid hr
  clear hr
  by_cases h0 : r = 0
  · subst h0
    clear h
    go_enter Try.func12, Try.ntmps12
    go_wp2_with fail
    refine (length_is2 HR.out _).mono ?_
    rintro e w' ⟨rfl, rfl⟩
    go_wp2_with fail
    go_ret2
    exact TwoPost.nil 61 _ _ (Gr.refl _)
  · have hb0 : (r == 0) = false := by simpa using h0
    have hne : ¬ r = (len : Int) := by rcases h with h | h <;> omega
    have hb1 : (r == (len : Int)) = false := by simpa using hne
    have hb2 : (r != (len : Int)) = true := by simpa using hne
    have hb3 : ((len : Int) == r) = false := by simpa using fun h => hne h.symm
    have hb4 : ((len : Int) != r) = true := by simpa using fun h => hne h.symm
    clear h h0
    go_enter Try.func12, Try.ntmps12
    go_wp2_with fail
    refine (length_is2 HR.out _).mono ?_
    rintro e w' ⟨rfl, rfl⟩
    go_wp2_with fail
    refine (length_is2 HR.out _).mono ?_
    rintro e w' ⟨rfl, rfl⟩
    go_wp2_with fail
    go_ret2
    exact TwoPost.nil 61 _ _ (Gr.refl _)
set_option maxRecDepth 100000 in
theorem rdecode_len (a : Option Addr) (len cap : Nat) (n : Int) (w : World) (h : lenS n = 0 ∨ lenS n ≠ len) (_hm : len ≤ 9223372036854775807) : Calls Try.prog 13 #[.slice a len cap, .int .i64 n] w (TwoPost 61 [] w) := by
  obtain ⟨r, hr⟩ : ∃ r, lenS n = r := ⟨_, rfl⟩
  rw [hr] at h
  have HR := Lib.hid hr
  clear hr
  by_cases h0 : r = 0
  · subst h0
    clear h
    go_enter Try.func13, Try.ntmps13
    go_wp2_with fail
    refine (rlength_is HR.out _).mono ?_
    rintro e w' ⟨rfl, rfl⟩
    go_wp2_with fail
    go_ret2
    exact TwoPost.nil 61 _ _ (Gr.refl _)
  · have hb0 : (r == 0) = false := by simpa using h0
    have hne : ¬ r = (len : Int) := by rcases h with h | h <;> omega
    have hb1 : (r == (len : Int)) = false := by simpa using hne
    have hb2 : (r != (len : Int)) = true := by simpa using hne
    have hb3 : ((len : Int) == r) = false := by simpa using fun h => hne h.symm
    have hb4 : ((len : Int) != r) = true := by simpa using fun h => hne h.symm
    clear h h0
    go_enter Try.func13, Try.ntmps13
    go_wp2_with fail
    refine (rlength_is HR.out _).mono ?_
    rintro e w' ⟨rfl, rfl⟩
    go_wp2_with fail
    refine (rlength_is HR.out _).mono ?_
    rintro e w' ⟨rfl, rfl⟩
    go_wp2_with fail
    go_ret2
    exact TwoPost.nil 61 _ _ (Gr.refl _)
set_option maxRecDepth 100000 in
theorem rdecode_soft (a : Option Addr) (len cap : Nat) (ss : List Int) (n : Int) (w : World) (hr : Rd .i64 w a len ss) (h : lenS n = len) (h0 : lenS n ≠ 0) (hs : ¬ softOk ss) : Calls Try.prog 13 #[.slice a len cap, .int .i64 n] w (TwoPost 3 [] w) := by
  have HL := Lib.hid h
  have hl0 : ((len : Int) == 0) = false := by rw [h] at h0; simpa using h0
  have HR := Lib.hid hr
  have HS := Lib.hid hs
  clear h h0 hr hs
  go_enter Try.func13, Try.ntmps13
  go_wp2_with fail
  refine (rlength_is HL.out _).mono ?_
  rintro e w' ⟨rfl, rfl⟩
  go_wp2_with fail
  refine (rlength_is HL.out _).mono ?_
  rintro e w' ⟨rfl, rfl⟩
  go_wp2_with fail
  refine (soft_no _ _ _ _ _ HR.out HS.out).mono ?_
  rintro e w' ⟨rfl, rfl⟩
  go_wp2_with fail
  go_ret2
  exact TwoPost.nil 3 _ _ (Gr.refl _)
set_option maxRecDepth 100000 in
theorem decode_soft (a : Option Addr) (len cap : Nat) (ss : List Int) (n : Int) (w : World) (hr : Rd .i64 w a len ss) (h : lenS n = len) (h0 : lenS n ≠ 0) (hs : ¬ softOk ss) (hlen : len ≤ 100000) : Calls Try.prog 12 #[.slice a len cap, .int .i64 n] w (TwoPost 3 [] w) := by
  have HL := Lib.hid h
  have hl0 : ((len : Int) == 0) = false := by rw [h] at h0; simpa using h0
  have HR := Lib.hid hr
  have HS := Lib.hid hs
  clear h h0 hr hs
  go_enter Try.func12, Try.ntmps12
  go_wp2_with fail
  refine (length_is2 HL.out _).mono ?_
  rintro e w' ⟨rfl, rfl⟩
  go_wp2_with fail
  refine (length_is2 HL.out _).mono ?_
  rintro e w' ⟨rfl, rfl⟩
  go_wp2_with fail
  go_loop [32] (fun i => ∃ k : Nat, k ≤ len ∧ i = .int .i64 k ∧ ∀ j, j < k → -127 ≤ ss[j]?.getD 0 ∧ ss[j]?.getD 0 ≤ 127) (fun i => len - (intOf i).toNat)
  case atStart => exact ⟨0, by omega, rfl, fun j hj => by omega⟩
  case round =>
    obtain ⟨k, hk, rfl, hall⟩ := hrel
    have HALL := Lib.hid hall
    clear hall
    by_cases hlt : k < len
    · obtain ⟨b, off, ea, -, hc⟩ := HR.out.some (by omega)
      subst ea
      obtain ⟨x, hxx⟩ : ∃ x, ss[k]?.getD 0 = x := ⟨_, rfl⟩
      have ck := hc k hlt
      rw [hxx] at ck
      have HXX := Lib.hid hxx
      clear hc hxx
      by_cases h1 : x < -127
      · go_wp2_with fail
        go_ret2
        exact TwoPost.nil 3 _ _ (Gr.refl _)
      · by_cases h2 : 127 < x
        · go_wp2_with fail
          go_ret2
          exact TwoPost.nil 3 _ _ (Gr.refl _)
        · go_wp2_with fail
          go_round
          case rel => exact ⟨k + 1, by omega, by go_num, fun j hj => by
            by_cases hjk : j < k
            · exact HALL.out j hjk
            · obtain rfl : j = k := by omega
              rw [HXX.out]; omega⟩
          case measure => (simp [intOf] <;> omega)
    · exfalso
      apply HS.out
      intro x hx
      obtain ⟨j, hj, rfl⟩ := List.getElem_of_mem hx
      have := HALL.out j (by have := HR.out.1; omega)
      rwa [List.getElem?_eq_getElem hj] at this
set_option maxHeartbeats 1000000 in
theorem positions_no (t v c : Int) (w : World) (h : ¬ (1 ≤ t ∧ t ≤ 4132 ∧ 0 ≤ v ∧ v < 4 ∧ 1 ≤ c ∧ c ≤ 1152)) : Calls Try.prog 21 #[.int .i64 t, .int .i64 v, .int .i64 c] w (TwoPost 3 [] w) := by
  have HL := Lib.hid (show lenS 2064 = 4132 by decide +kernel)
  by_cases q1 : t < 1
  · go_enter Try.func21, Try.ntmps21
    go_wp2_with fail
    go_ret2
    exact TwoPost.nil 3 _ _ (Gr.refl _)
  by_cases q2 : 4132 < t
  · go_enter Try.func21, Try.ntmps21
    go_wp2_with fail
    refine (length_is2 HL.out _).mono ?_
    rintro e w' ⟨rfl, rfl⟩
    go_wp2_with fail
    go_ret2
    exact TwoPost.nil 3 _ _ (Gr.refl _)
  by_cases q3 : v < 0
  · go_enter Try.func21, Try.ntmps21
    go_wp2_with fail
    refine (length_is2 HL.out _).mono ?_
    rintro e w' ⟨rfl, rfl⟩
    go_wp2_with fail
    go_ret2
    exact TwoPost.nil 3 _ _ (Gr.refl _)
  by_cases q4 : 4 ≤ v
  · go_enter Try.func21, Try.ntmps21
    go_wp2_with fail
    refine (length_is2 HL.out _).mono ?_
    rintro e w' ⟨rfl, rfl⟩
    go_wp2_with fail
    go_ret2
    exact TwoPost.nil 3 _ _ (Gr.refl _)
  by_cases q5 : c < 1
  · go_enter Try.func21, Try.ntmps21
    go_wp2_with fail
    refine (length_is2 HL.out _).mono ?_
    rintro e w' ⟨rfl, rfl⟩
    go_wp2_with fail
    go_ret2
    exact TwoPost.nil 3 _ _ (Gr.refl _)
  have q6 : 1152 < c := by omega
  go_enter Try.func21, Try.ntmps21
  go_wp2_with fail
  refine (length_is2 HL.out _).mono ?_
  rintro e w' ⟨rfl, rfl⟩
  go_wp2_with fail
  go_ret2
  exact TwoPost.nil 3 _ _ (Gr.refl _)
set_option maxHeartbeats 1000000 in
theorem rpositions_no (t v c : Int) (w : World) (h : ¬ (1 ≤ t ∧ t ≤ 4132 ∧ 0 ≤ v ∧ v < 4 ∧ 1 ≤ c ∧ c ≤ 1152)) : Calls Try.prog 22 #[.int .i64 t, .int .i64 v, .int .i64 c] w (TwoPost 3 [] w) := by
  have HL := Lib.hid (show lenS 2064 = 4132 by decide +kernel)
  by_cases q1 : t < 1
  · go_enter Try.func22, Try.ntmps22
    go_wp2_with fail
    go_ret2
    exact TwoPost.nil 3 _ _ (Gr.refl _)
  by_cases q2 : 4132 < t
  · go_enter Try.func22, Try.ntmps22
    go_wp2_with fail
    refine (rlength_is HL.out _).mono ?_
    rintro e w' ⟨rfl, rfl⟩
    go_wp2_with fail
    go_ret2
    exact TwoPost.nil 3 _ _ (Gr.refl _)
  by_cases q3 : v < 0
  · go_enter Try.func22, Try.ntmps22
    go_wp2_with fail
    refine (rlength_is HL.out _).mono ?_
    rintro e w' ⟨rfl, rfl⟩
    go_wp2_with fail
    go_ret2
    exact TwoPost.nil 3 _ _ (Gr.refl _)
  by_cases q4 : 4 ≤ v
  · go_enter Try.func22, Try.ntmps22
    go_wp2_with fail
    refine (rlength_is HL.out _).mono ?_
    rintro e w' ⟨rfl, rfl⟩
    go_wp2_with fail
    go_ret2
    exact TwoPost.nil 3 _ _ (Gr.refl _)
  by_cases q5 : c < 1
  · go_enter Try.func22, Try.ntmps22
    go_wp2_with fail
    refine (rlength_is HL.out _).mono ?_
    rintro e w' ⟨rfl, rfl⟩
    go_wp2_with fail
    go_ret2
    exact TwoPost.nil 3 _ _ (Gr.refl _)
  have q6 : 1152 < c := by omega
  go_enter Try.func22, Try.ntmps22
  go_wp2_with fail
  refine (rlength_is HL.out _).mono ?_
  rintro e w' ⟨rfl, rfl⟩
  go_wp2_with fail
  go_ret2
  exact TwoPost.nil 3 _ _ (Gr.refl _)
theorem posL_take (t v c k : Nat) (h : k < c) : (posL t v c).take (k + 1) = (posL t v c).take k ++ [(((v * t / 4 + k) % t : Nat) : Int)] := by
  rw [List.take_add_one, ← posL_at t v c k h]
  simp [posL_len, h]
set_option maxHeartbeats 1000000 in
theorem rpositions_yes (t v c : Nat) (w : World) (t1 : 1 ≤ t) (t2 : t ≤ 4132) (hv : v < 4) (c1 : 1 ≤ c) (c2 : c ≤ 1152) :
    Calls Try.prog 22 #[.int .i64 t, .int .i64 v, .int .i64 c] w (TwoPost 0 (posL t v c) w) := by
  have HL := Lib.hid (show lenS 2064 = 4132 by decide +kernel)
  have v4 : v = 0 ∨ v = 1 ∨ v = 2 ∨ v = 3 := by omega
  rcases v4 with rfl | rfl | rfl | rfl
  · go_enter Try.func22, Try.ntmps22
    go_wp2_with fail
    refine (rlength_is HL.out _).mono ?_
    rintro e w' ⟨rfl, rfl⟩
    go_wp2_with fail
    go_loopw [8, 9] (fun s i wr => ∃ (a' : Option Addr) (cap' k : Nat), k ≤ c ∧ s = .slice a' k cap' ∧ i = .int .i64 k ∧ OwnI w.heap.size 3 .i64 wr a' k cap' ((posL t 0 c).take k) ∧ Gr w wr) (fun _ i _ => c - (intOf i).toNat)
    case atStart => exact ⟨none, 0, 0, by omega, rfl, rfl, OwnI.nil _ _ _ _, Gr.refl _⟩
    case round =>
      obtain ⟨a', cap', k, hk, rfl, rfl, ho, hg⟩ := hrel
      have HO := Lib.hid ho
      have HG := Lib.hid hg
      clear ho hg
      by_cases hlt : k < c
      · have htk := posL_take t 0 c k hlt
        have hpv : ((((0) * t / 4 + k) % t : Nat) : Int) = (k : Int) % t := by push_cast; simp
        rw [hpv] at htk
        have b12 : 0 ≤ (k : Int) % t ∧ (k : Int) % t < (t : Int) := ⟨Int.emod_nonneg _ (by omega), Int.emod_lt_of_pos _ (by omega)⟩
        have hrd := rd_new (k := .i64) (w := wr) [(k : Int) % t] 3 (0, 0) 1 rfl (by simp [maxLen]) (by intro z hz; simp at hz; subst hz; exact WalkArith.wf_i64 (by constructor <;> omega))
        obtain ⟨a5, c5, w5, hrun5, ho5, hg5, _⟩ := app_i64 w.heap.size (wr.alloc (.cells ([(k : Int) % t].map (Value.int .i64)).toArray 3)) a' k cap' _ (HO.out.stay (Gr.alloc _ _)) (some ⟨wr.heap.size, 0, none⟩) 1 1 _ hrd (by omega) (Nat.le_trans HG.out.size (by simp))
        rw [← htk] at ho5
        simp only [List.map_cons, List.map_nil] at hrun5
        have HR5 := Lib.hid hrun5
        have HO5 := Lib.hid ho5
        have HG5 := Lib.hid (grown_own (HG.out.trans (Gr.alloc _ _)) (HO.out.stay (Gr.alloc _ _)) (Nat.le_refl _) hg5)
        clear hrun5 ho5 hg5 htk hpv b12 hrd
        go_wp2_with (at_builtin; refine wpList_app rfl _ _ _ rfl rfl rfl HR5.out ?_)
        go_roundw
        case rel => exact ⟨a5, c5, k + 1, by omega, rfl, by go_num, HO5.out, HG5.out⟩
        case measure => (simp [intOf] <;> omega)
      · obtain rfl : k = c := by omega
        go_wp2_with fail
        go_ret2
        have ho := HO.out
        rw [List.take_of_length_le (by rw [posL_len]; omega)] at ho
        exact ⟨a', k, cap', rfl, ho.rd, HG.out⟩
  · go_enter Try.func22, Try.ntmps22
    go_wp2_with fail
    refine (rlength_is HL.out _).mono ?_
    rintro e w' ⟨rfl, rfl⟩
    go_wp2_with fail
    go_loopw [8, 9] (fun s i wr => ∃ (a' : Option Addr) (cap' k : Nat), k ≤ c ∧ s = .slice a' k cap' ∧ i = .int .i64 k ∧ OwnI w.heap.size 3 .i64 wr a' k cap' ((posL t 1 c).take k) ∧ Gr w wr) (fun _ i _ => c - (intOf i).toNat)
    case atStart => exact ⟨none, 0, 0, by omega, rfl, rfl, OwnI.nil _ _ _ _, Gr.refl _⟩
    case round =>
      obtain ⟨a', cap', k, hk, rfl, rfl, ho, hg⟩ := hrel
      have HO := Lib.hid ho
      have HG := Lib.hid hg
      clear ho hg
      by_cases hlt : k < c
      · have htk := posL_take t 1 c k hlt
        have hpv : ((((1) * t / 4 + k) % t : Nat) : Int) = ((t : Int) / 4 + k) % t := by push_cast; simp
        rw [hpv] at htk
        have b12 : 0 ≤ ((t : Int) / 4 + k) % t ∧ ((t : Int) / 4 + k) % t < (t : Int) := ⟨Int.emod_nonneg _ (by omega), Int.emod_lt_of_pos _ (by omega)⟩
        have hrd := rd_new (k := .i64) (w := wr) [((t : Int) / 4 + k) % t] 3 (0, 0) 1 rfl (by simp [maxLen]) (by intro z hz; simp at hz; subst hz; exact WalkArith.wf_i64 (by constructor <;> omega))
        obtain ⟨a5, c5, w5, hrun5, ho5, hg5, _⟩ := app_i64 w.heap.size (wr.alloc (.cells ([((t : Int) / 4 + k) % t].map (Value.int .i64)).toArray 3)) a' k cap' _ (HO.out.stay (Gr.alloc _ _)) (some ⟨wr.heap.size, 0, none⟩) 1 1 _ hrd (by omega) (Nat.le_trans HG.out.size (by simp))
        rw [← htk] at ho5
        simp only [List.map_cons, List.map_nil] at hrun5
        have HR5 := Lib.hid hrun5
        have HO5 := Lib.hid ho5
        have HG5 := Lib.hid (grown_own (HG.out.trans (Gr.alloc _ _)) (HO.out.stay (Gr.alloc _ _)) (Nat.le_refl _) hg5)
        clear hrun5 ho5 hg5 htk hpv b12 hrd
        go_wp2_with (at_builtin; refine wpList_app rfl _ _ _ rfl rfl rfl HR5.out ?_)
        go_roundw
        case rel => exact ⟨a5, c5, k + 1, by omega, rfl, by go_num, HO5.out, HG5.out⟩
        case measure => (simp [intOf] <;> omega)
      · obtain rfl : k = c := by omega
        go_wp2_with fail
        go_ret2
        have ho := HO.out
        rw [List.take_of_length_le (by rw [posL_len]; omega)] at ho
        exact ⟨a', k, cap', rfl, ho.rd, HG.out⟩
  · go_enter Try.func22, Try.ntmps22
    go_wp2_with fail
    refine (rlength_is HL.out _).mono ?_
    rintro e w' ⟨rfl, rfl⟩
    go_wp2_with fail
    go_loopw [8, 9] (fun s i wr => ∃ (a' : Option Addr) (cap' k : Nat), k ≤ c ∧ s = .slice a' k cap' ∧ i = .int .i64 k ∧ OwnI w.heap.size 3 .i64 wr a' k cap' ((posL t 2 c).take k) ∧ Gr w wr) (fun _ i _ => c - (intOf i).toNat)
    case atStart => exact ⟨none, 0, 0, by omega, rfl, rfl, OwnI.nil _ _ _ _, Gr.refl _⟩
    case round =>
      obtain ⟨a', cap', k, hk, rfl, rfl, ho, hg⟩ := hrel
      have HO := Lib.hid ho
      have HG := Lib.hid hg
      clear ho hg
      by_cases hlt : k < c
      · have htk := posL_take t 2 c k hlt
        have hpv : ((((2) * t / 4 + k) % t : Nat) : Int) = (2 * (t : Int) / 4 + k) % t := by push_cast; simp
        rw [hpv] at htk
        have b12 : 0 ≤ (2 * (t : Int) / 4 + k) % t ∧ (2 * (t : Int) / 4 + k) % t < (t : Int) := ⟨Int.emod_nonneg _ (by omega), Int.emod_lt_of_pos _ (by omega)⟩
        have hrd := rd_new (k := .i64) (w := wr) [(2 * (t : Int) / 4 + k) % t] 3 (0, 0) 1 rfl (by simp [maxLen]) (by intro z hz; simp at hz; subst hz; exact WalkArith.wf_i64 (by constructor <;> omega))
        obtain ⟨a5, c5, w5, hrun5, ho5, hg5, _⟩ := app_i64 w.heap.size (wr.alloc (.cells ([(2 * (t : Int) / 4 + k) % t].map (Value.int .i64)).toArray 3)) a' k cap' _ (HO.out.stay (Gr.alloc _ _)) (some ⟨wr.heap.size, 0, none⟩) 1 1 _ hrd (by omega) (Nat.le_trans HG.out.size (by simp))
        rw [← htk] at ho5
        simp only [List.map_cons, List.map_nil] at hrun5
        have HR5 := Lib.hid hrun5
        have HO5 := Lib.hid ho5
        have HG5 := Lib.hid (grown_own (HG.out.trans (Gr.alloc _ _)) (HO.out.stay (Gr.alloc _ _)) (Nat.le_refl _) hg5)
        clear hrun5 ho5 hg5 htk hpv b12 hrd
        go_wp2_with (at_builtin; refine wpList_app rfl _ _ _ rfl rfl rfl HR5.out ?_)
        go_roundw
        case rel => exact ⟨a5, c5, k + 1, by omega, rfl, by go_num, HO5.out, HG5.out⟩
        case measure => (simp [intOf] <;> omega)
      · obtain rfl : k = c := by omega
        go_wp2_with fail
        go_ret2
        have ho := HO.out
        rw [List.take_of_length_le (by rw [posL_len]; omega)] at ho
        exact ⟨a', k, cap', rfl, ho.rd, HG.out⟩
  · go_enter Try.func22, Try.ntmps22
    go_wp2_with fail
    refine (rlength_is HL.out _).mono ?_
    rintro e w' ⟨rfl, rfl⟩
    go_wp2_with fail
    go_loopw [8, 9] (fun s i wr => ∃ (a' : Option Addr) (cap' k : Nat), k ≤ c ∧ s = .slice a' k cap' ∧ i = .int .i64 k ∧ OwnI w.heap.size 3 .i64 wr a' k cap' ((posL t 3 c).take k) ∧ Gr w wr) (fun _ i _ => c - (intOf i).toNat)
    case atStart => exact ⟨none, 0, 0, by omega, rfl, rfl, OwnI.nil _ _ _ _, Gr.refl _⟩
    case round =>
      obtain ⟨a', cap', k, hk, rfl, rfl, ho, hg⟩ := hrel
      have HO := Lib.hid ho
      have HG := Lib.hid hg
      clear ho hg
      by_cases hlt : k < c
      · have htk := posL_take t 3 c k hlt
        have hpv : ((((3) * t / 4 + k) % t : Nat) : Int) = (3 * (t : Int) / 4 + k) % t := by push_cast; simp
        rw [hpv] at htk
        have b12 : 0 ≤ (3 * (t : Int) / 4 + k) % t ∧ (3 * (t : Int) / 4 + k) % t < (t : Int) := ⟨Int.emod_nonneg _ (by omega), Int.emod_lt_of_pos _ (by omega)⟩
        have hrd := rd_new (k := .i64) (w := wr) [(3 * (t : Int) / 4 + k) % t] 3 (0, 0) 1 rfl (by simp [maxLen]) (by intro z hz; simp at hz; subst hz; exact WalkArith.wf_i64 (by constructor <;> omega))
        obtain ⟨a5, c5, w5, hrun5, ho5, hg5, _⟩ := app_i64 w.heap.size (wr.alloc (.cells ([(3 * (t : Int) / 4 + k) % t].map (Value.int .i64)).toArray 3)) a' k cap' _ (HO.out.stay (Gr.alloc _ _)) (some ⟨wr.heap.size, 0, none⟩) 1 1 _ hrd (by omega) (Nat.le_trans HG.out.size (by simp))
        rw [← htk] at ho5
        simp only [List.map_cons, List.map_nil] at hrun5
        have HR5 := Lib.hid hrun5
        have HO5 := Lib.hid ho5
        have HG5 := Lib.hid (grown_own (HG.out.trans (Gr.alloc _ _)) (HO.out.stay (Gr.alloc _ _)) (Nat.le_refl _) hg5)
        clear hrun5 ho5 hg5 htk hpv b12 hrd
        go_wp2_with (at_builtin; refine wpList_app rfl _ _ _ rfl rfl rfl HR5.out ?_)
        go_roundw
        case rel => exact ⟨a5, c5, k + 1, by omega, rfl, by go_num, HO5.out, HG5.out⟩
        case measure => (simp [intOf] <;> omega)
      · obtain rfl : k = c := by omega
        go_wp2_with fail
        go_ret2
        have ho := HO.out
        rw [List.take_of_length_le (by rw [posL_len]; omega)] at ho
        exact ⟨a', k, cap', rfl, ho.rd, HG.out⟩
end Go.Proofs.Ytbdbllagbifkgaa
