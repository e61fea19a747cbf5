/- Layer 28 (code): the reference's Encode. -/
import Derived.Test.YtcleegibdcphiaaDoorRLen
import Derived.Test.YtcleegibdcphiaaDoorCodePos
import Derived.Test.YtcleegibdcphiaaDoorCodeEnc
namespace Go.Proofs.YtcleegibdcphiaaDoor
open Go.ChangeShapes Go.WideShapes Go.ChangeAt Go.RowKit
open Cod

/-- A list and an error are handed back. -/
def TwoPost (er : Int) (ys : List Int) (w : World) (e : Ending) (w' : World) : Prop := ∃ a n cap, e = .returned (.tuple #[.slice a n cap, .int .i64 er]) ∧ Rd .i64 w' a n ys ∧ Gr w w'
theorem TwoPost.nil (er : Int) (w w' : World) (hg : Gr w w') : TwoPost er [] w (.returned (.tuple #[.slice none 0 0, .int .i64 er])) w' := ⟨none, 0, 0, rfl, (OwnI.nil 0 3 .i64 w').rd, hg⟩
def EncRel (w : World) (xs : List Int) (len : Nat) (pa pb s i : Value) (wr : World) : Prop := ∃ (a' : Option Addr) (cap' j : Nat) (st : Int), j ≤ len + 2 ∧ s = .slice a' (2 * j) cap' ∧ pa = .int .i64 (st % 2) ∧ pb = .int .i64 (st / 2) ∧ i = .int .i64 j ∧ OwnI w.heap.size 3 .i64 wr a' (2 * j) cap' (encS 0 ((xs ++ [0, 0]).take j)) ∧ runS 0 ((xs ++ [0, 0]).take j) = st ∧ isSt st ∧ Gr w wr ∧ (∀ q, q < j → (xs ++ [0, 0])[q]?.getD 0 = 0 ∨ (xs ++ [0, 0])[q]?.getD 0 = 1)
theorem nx_half {s x : Int} (hs : isSt s) (hx : x = 0 ∨ x = 1) : nx s x % 2 = x ∧ nx s x / 2 = s % 2 := by
  unfold nx; rcases hs with rfl | rfl | rfl | rfl <;> omega
theorem o_rng (s x : Int) : 0 ≤ o0 s x ∧ o0 s x ≤ 1 ∧ 0 ≤ o1 s x ∧ o1 s x ≤ 1 := by unfold o0 o1; omega
set_option maxHeartbeats 2000000 in
set_option maxRecDepth 20000 in
theorem rencode_any (a : Option Addr) (len cap : Nat) (xs : List Int) (w : World) (hr : Rd .i64 w a len xs) (h1 : 1 ≤ len) (h2 : len ≤ 2064) :
    Calls Tryd.prog 42 #[.slice a len cap] w fun e w' => (isBits xs → TwoPost 0 (enc xs) w e w') ∧ (¬ isBits xs → TwoPost 4 [] w e w') := by
  obtain ⟨b, off, rfl, hb, hc⟩ := hr.some (by omega)
  have hlen : lenS len = 2 * ((len : Int) + 2) := by unfold lenS; rw [if_pos (by omega)]
  have hlz : (2 * ((len : Int) + 2) == 0) = false := by simp; omega
  have HC := Lib.hid hc
  have HL := Lib.hid hr.1
  have HLEN := Lib.hid hlen
  have HZL := Lib.hid (show (xs ++ [0, 0]).length = len + 2 by simp [hr.1])
  clear hr hc hlen
  go_enter Tryd.func42, Tryd.ntmps42
  go_wp2_with fail
  refine (rlength_is HLEN.out _).mono ?_
  rintro e w' ⟨rfl, rfl⟩
  go_wp2_with fail
  go_loopw [4, 5, 6, 7] (fun pa pb s i wr => EncRel w xs len pa pb s i wr) (fun _ _ _ i _ => len + 2 - (intOf i).toNat)
  case atStart => exact ⟨none, 0, 0, 0, by omega, rfl, rfl, rfl, rfl, OwnI.nil _ _ _ _, rfl, .inl rfl, Gr.refl _, fun q hq => by omega⟩
  case round =>
    obtain ⟨a', cap', j, st, hj, rfl, rfl, rfl, rfl, hown, hst, hss, hg, hall⟩ := hrel
    have HG := Lib.hid hg
    have HOWN := Lib.hid hown
    have HST := Lib.hid hst
    have HALL := Lib.hid hall
    clear hg hown hst hall
    have hsr : 0 ≤ st ∧ st ≤ 3 := by rcases hss with rfl | rfl | rfl | rfl <;> omega
    obtain ⟨s1, s2⟩ := hsr
    by_cases hj2 : j < len + 2
    · obtain ⟨x, hxx⟩ : ∃ x, (xs ++ [0, 0])[j]?.getD 0 = x := ⟨_, rfl⟩
      have HXX := Lib.hid hxx
      by_cases hjk : j < len
      · have cj : wr.cell? ⟨b, off + j, none⟩ = some (.int .i64 x) := by
          have e : (xs ++ [0, 0])[j]?.getD 0 = xs[j]?.getD 0 := by rw [List.getElem?_append_left (by rw [HL.out]; exact hjk)]
          rw [← hxx, e]
          exact HG.out.cell (HC.out j hjk)
        clear hxx
        by_cases h0 : x = 0
        · subst h0
          have HXB := Lib.hid (show (0 : Int) = 0 ∨ (0 : Int) = 1 from .inl rfl)
          have htk := take_one (xs ++ [0, 0]) j (by rw [HZL.out]; exact hj2)
          rw [HXX.out] at htk
          have hrd := rd_new (k := .i64) (w := wr) [(st + st / 2) % 2, st / 2 % 2] 3 (0, 0) 2 rfl (by simp [maxLen]) (by intro z hz; simp at hz; rcases hz with rfl | rfl <;> exact WalkArith.wf_i64 (by constructor <;> omega))
          obtain ⟨a5, c5, w5, hrun5, ho5, hg5, _⟩ := app_i64 w.heap.size (wr.alloc (.cells ([(st + st / 2) % 2, st / 2 % 2].map (Value.int .i64)).toArray 3)) a' (2 * j) cap' _ (HOWN.out.stay (Gr.alloc _ _)) (some ⟨wr.heap.size, 0, none⟩) 2 2 _ hrd (by omega) (Nat.le_trans HG.out.size (by simp))
          have henc : encS 0 ((xs ++ [0, 0]).take j) ++ [(st + st / 2) % 2, st / 2 % 2] = encS 0 ((xs ++ [0, 0]).take (j + 1)) := by rw [htk, encS_snoc, HST.out, show o0 st ((0 : Int)) = (st + st / 2) % 2 by unfold o0; omega, show o1 st ((0 : Int)) = st / 2 % 2 by unfold o1; omega]
          have hrun : runS 0 ((xs ++ [0, 0]).take (j + 1)) = nx st ((0 : Int)) := by rw [htk, runS_snoc, HST.out]
          rw [henc] at ho5
          simp only [List.map_cons, List.map_nil] at hrun5
          have HR5 := Lib.hid hrun5
          have HO5 := Lib.hid (show OwnI w.heap.size 3 .i64 w5 a5 (2 * (j + 1)) c5 (encS 0 ((xs ++ [0, 0]).take (j + 1))) from ho5)
          have HRUN := Lib.hid hrun
          have HG5 := Lib.hid (grown_own (HG.out.trans (Gr.alloc _ _)) (HOWN.out.stay (Gr.alloc _ _)) (Nat.le_refl _) hg5)
          clear hrun5 ho5 hg5 htk henc hrun hrd
          go_wp2_with (at_builtin; refine wpList_app rfl _ _ _ rfl rfl rfl HR5.out ?_)
          go_roundw
          case rel => exact ⟨a5, c5, j + 1, nx st ((0 : Int)), by omega, rfl, by rw [(nx_half hss HXB.out).1], by rw [(nx_half hss HXB.out).2], by go_num, HO5.out, HRUN.out, nx_st hss HXB.out, HG5.out, fun q hq => by
            by_cases hqj : q < j
            · exact HALL.out q hqj
            · obtain rfl : q = j := by omega
              rw [HXX.out]; exact HXB.out⟩
          case measure => simp [intOf]; omega
        · by_cases h1' : x = 1
          · subst h1'
            have HXB := Lib.hid (show (1 : Int) = 0 ∨ (1 : Int) = 1 from .inr rfl)
            have htk := take_one (xs ++ [0, 0]) j (by rw [HZL.out]; exact hj2)
            rw [HXX.out] at htk
            have hrd := rd_new (k := .i64) (w := wr) [(1 + st % 2 + st / 2) % 2, (1 + st / 2) % 2] 3 (0, 0) 2 rfl (by simp [maxLen]) (by intro z hz; simp at hz; rcases hz with rfl | rfl <;> exact WalkArith.wf_i64 (by constructor <;> omega))
            obtain ⟨a5, c5, w5, hrun5, ho5, hg5, _⟩ := app_i64 w.heap.size (wr.alloc (.cells ([(1 + st % 2 + st / 2) % 2, (1 + st / 2) % 2].map (Value.int .i64)).toArray 3)) a' (2 * j) cap' _ (HOWN.out.stay (Gr.alloc _ _)) (some ⟨wr.heap.size, 0, none⟩) 2 2 _ hrd (by omega) (Nat.le_trans HG.out.size (by simp))
            have henc : encS 0 ((xs ++ [0, 0]).take j) ++ [(1 + st % 2 + st / 2) % 2, (1 + st / 2) % 2] = encS 0 ((xs ++ [0, 0]).take (j + 1)) := by rw [htk, encS_snoc, HST.out, show o0 st ((1 : Int)) = (1 + st % 2 + st / 2) % 2 by unfold o0; omega, show o1 st ((1 : Int)) = (1 + st / 2) % 2 by unfold o1; omega]
            have hrun : runS 0 ((xs ++ [0, 0]).take (j + 1)) = nx st ((1 : Int)) := by rw [htk, runS_snoc, HST.out]
            rw [henc] at ho5
            simp only [List.map_cons, List.map_nil] at hrun5
            have HR5 := Lib.hid hrun5
            have HO5 := Lib.hid (show OwnI w.heap.size 3 .i64 w5 a5 (2 * (j + 1)) c5 (encS 0 ((xs ++ [0, 0]).take (j + 1))) from ho5)
            have HRUN := Lib.hid hrun
            have HG5 := Lib.hid (grown_own (HG.out.trans (Gr.alloc _ _)) (HOWN.out.stay (Gr.alloc _ _)) (Nat.le_refl _) hg5)
            clear hrun5 ho5 hg5 htk henc hrun hrd
            go_wp2_with (at_builtin; refine wpList_app rfl _ _ _ rfl rfl rfl HR5.out ?_)
            go_roundw
            case rel => exact ⟨a5, c5, j + 1, nx st ((1 : Int)), by omega, rfl, by rw [(nx_half hss HXB.out).1], by rw [(nx_half hss HXB.out).2], by go_num, HO5.out, HRUN.out, nx_st hss HXB.out, HG5.out, fun q hq => by
              by_cases hqj : q < j
              · exact HALL.out q hqj
              · obtain rfl : q = j := by omega
                rw [HXX.out]; exact HXB.out⟩
            case measure => simp [intOf]; omega
          · have b0 : (x == 0) = false := by simpa using h0
            have b1 : (x == 1) = false := by simpa using h1'
            have d0 : (x != 0) = true := by simpa using h0
            have d1 : (x != 1) = true := by simpa using h1'
            go_wp2_with fail
            go_ret2
            refine ⟨fun hb => ?_, fun _ => TwoPost.nil 4 _ _ HG.out⟩
            exfalso
            have e : (xs ++ [0, 0])[j]?.getD 0 = xs[j]?.getD 0 := by rw [List.getElem?_append_left (by rw [HL.out]; exact hjk)]
            have hjl : j < xs.length := by rw [HL.out]; exact hjk
            have := hb (xs[j]?.getD 0) (by simp only [List.getElem?_eq_getElem hjl, Option.getD_some]; exact List.getElem_mem hjl)
            rw [← e, HXX.out] at this
            omega
      · have hx0 : x = 0 := by
          rw [← hxx, List.getElem?_append_right (by rw [HL.out]; omega), HL.out]
          obtain h | h : j - len = 0 ∨ j - len = 1 := by omega
          · rw [h]; rfl
          · rw [h]; rfl
        subst hx0
        clear hxx
        have HXB := Lib.hid (show (0 : Int) = 0 ∨ (0 : Int) = 1 from .inl rfl)
        have htk := take_one (xs ++ [0, 0]) j (by rw [HZL.out]; exact hj2)
        rw [HXX.out] at htk
        have hrd := rd_new (k := .i64) (w := wr) [(st + st / 2) % 2, st / 2 % 2] 3 (0, 0) 2 rfl (by simp [maxLen]) (by intro z hz; simp at hz; rcases hz with rfl | rfl <;> exact WalkArith.wf_i64 (by constructor <;> omega))
        obtain ⟨a5, c5, w5, hrun5, ho5, hg5, _⟩ := app_i64 w.heap.size (wr.alloc (.cells ([(st + st / 2) % 2, st / 2 % 2].map (Value.int .i64)).toArray 3)) a' (2 * j) cap' _ (HOWN.out.stay (Gr.alloc _ _)) (some ⟨wr.heap.size, 0, none⟩) 2 2 _ hrd (by omega) (Nat.le_trans HG.out.size (by simp))
        have henc : encS 0 ((xs ++ [0, 0]).take j) ++ [(st + st / 2) % 2, st / 2 % 2] = encS 0 ((xs ++ [0, 0]).take (j + 1)) := by rw [htk, encS_snoc, HST.out, show o0 st ((0 : Int)) = (st + st / 2) % 2 by unfold o0; omega, show o1 st ((0 : Int)) = st / 2 % 2 by unfold o1; omega]
        have hrun : runS 0 ((xs ++ [0, 0]).take (j + 1)) = nx st ((0 : Int)) := by rw [htk, runS_snoc, HST.out]
        rw [henc] at ho5
        simp only [List.map_cons, List.map_nil] at hrun5
        have HR5 := Lib.hid hrun5
        have HO5 := Lib.hid (show OwnI w.heap.size 3 .i64 w5 a5 (2 * (j + 1)) c5 (encS 0 ((xs ++ [0, 0]).take (j + 1))) from ho5)
        have HRUN := Lib.hid hrun
        have HG5 := Lib.hid (grown_own (HG.out.trans (Gr.alloc _ _)) (HOWN.out.stay (Gr.alloc _ _)) (Nat.le_refl _) hg5)
        clear hrun5 ho5 hg5 htk henc hrun hrd
        go_wp2_with (at_builtin; refine wpList_app rfl _ _ _ rfl rfl rfl HR5.out ?_)
        go_roundw
        case rel => exact ⟨a5, c5, j + 1, nx st ((0 : Int)), by omega, rfl, by rw [(nx_half hss HXB.out).1], by rw [(nx_half hss HXB.out).2], by go_num, HO5.out, HRUN.out, nx_st hss HXB.out, HG5.out, fun q hq => by
          by_cases hqj : q < j
          · exact HALL.out q hqj
          · obtain rfl : q = j := by omega
            rw [HXX.out]; exact HXB.out⟩
        case measure => simp [intOf]; omega
    · obtain rfl : j = len + 2 := by omega
      go_wp2_with fail
      go_ret2
      have ho := HOWN.out
      rw [List.take_of_length_le (by rw [HZL.out]; omega)] at ho
      refine ⟨fun _ => ⟨a', _, cap', rfl, ho.rd, HG.out⟩, fun hn => ?_⟩
      exfalso
      apply hn
      intro x hx
      obtain ⟨q, hq, rfl⟩ := List.getElem_of_mem hx
      have := HALL.out q (by have := HL.out; omega)
      rwa [List.getElem?_append_left hq, List.getElem?_eq_getElem hq] at this
end Go.Proofs.YtcleegibdcphiaaDoor
