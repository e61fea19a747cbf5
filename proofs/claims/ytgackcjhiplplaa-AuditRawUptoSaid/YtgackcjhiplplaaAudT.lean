/- Layer 44 (audit): the reference: Rate. -/
import Derived.Test.YtgackcjhiplplaaAudP
namespace Go.Proofs.Ytgackcjhiplplaa
open Go.ChangeShapes Go.WideShapes Go.ChangeAt Go.RowKit

theorem rt_step {f : Rec → Bool} {L : List Rec} {j : Nat} {r : Rec} (lo hi : Int) (h : L[j]? = some r) : rt L lo hi (idxF f 0 (L.take (j + 1))) = rt L lo hi (idxF f 0 (L.take j)) + (if f r = true ∧ lo ≤ r.tick ∧ r.tick < hi then (r.n : Int) else 0) := by
  rw [idxF_take h, rt_append]
  congr 1
  by_cases hf : f r = true
  · rw [if_pos hf, show rt L lo hi [(j : Int)] = rw1 L lo hi j + 0 from rfl, rw1_at lo hi h, Int.add_zero]
    by_cases ht : lo ≤ r.tick ∧ r.tick < hi
    · rw [if_pos ht, if_pos ⟨hf, ht⟩]
    · rw [if_neg ht, if_neg (fun hx => ht hx.2)]
  · rw [if_neg hf, if_neg (fun hx => hf hx.1)]; rfl
def RRtRel (L : List Rec) (f : Rec → Bool) (lo hi : Int) (len : Nat) (w : World) (s i : Value) (wr : World) : Prop :=
  ∃ k : Nat, k ≤ len ∧ s = .int .i64 (rt L lo hi (idxF f 0 (L.take k))) ∧ i = .int .i64 k ∧ Gr w wr
set_option maxRecDepth 100000 in
set_option maxHeartbeats 1000000 in
theorem rrate_any (a : Option Addr) (len cap : Nat) (L : List Rec) (t b lo hi : Int) (w : World) (hr : RdL w a len L) (hL : ∀ r ∈ L, r.n ≤ 100000) (_hlo : i64 lo) (_hhi : i64 hi) :
    Calls Try.prog 29 #[.slice a len cap, .int .i64 t, .int .i64 b, .int .i64 lo, .int .i64 hi] w fun e w' => e = .returned (.int .i64 (rt L lo hi (idxF (sel 2 t b 0) 0 L))) ∧ Gr w w' := by
  have HR := Lib.hid hr
  have HL := Lib.hid hr.1
  have hm := hr.2.1
  have HNL := Lib.hid hL
  obtain ⟨f, hf⟩ : ∃ f, sel 2 t b 0 = f := ⟨_, rfl⟩
  rw [hf]
  have HF := Lib.hid hf
  clear hr hf hL
  go_enter Try.func29, Try.ntmps29
  go_wp2_with fail
  go_loopw [11, 12] (fun s i wr => RRtRel L f lo hi len w s i wr) (fun _ i _ => len - (intOf i).toNat)
  case atStart => exact ⟨0, by omega, rfl, rfl, Gr.refl _⟩
  case round =>
    obtain ⟨j, hj, rfl, rfl, hg⟩ := hrel
    have HG := Lib.hid hg
    clear hg
    by_cases hlt : j < len
    · obtain ⟨r, hri, hrr⟩ := HR.out.get hlt
      obtain ⟨b0, off, ea, hrg⟩ := (HR.out.kept HG.out).some (by omega)
      subst ea
      have HRNG := Lib.hid (hrg j r hri)
      have HTK := Lib.hid (rt_step (f := f) lo hi hri)
      have hrn := HNL.out r (List.mem_of_getElem? hri)
      have hsr := rt_rng HNL.out lo hi (idxF f 0 (L.take j))
      have hlk := idxF_len f (L.take j) 0
      rw [List.length_take] at hlk
      obtain ⟨S, hS⟩ : ∃ S, rt L lo hi (idxF f 0 (L.take j)) = S := ⟨_, rfl⟩
      rw [hS] at hsr ⊢
      have hs2 : 0 ≤ S ∧ S ≤ 100000000000 := by omega
      obtain ⟨s1, s2⟩ := hs2
      have HS := Lib.hid hS
      clear hri hrg hrr hsr hlk hS
      go_upto_region 5 with (fail)
      go_wp2_with (refine wpList_load_mid rfl 27 _ rfl b0 (off + j * 7) rfl (RCells r) _ HRNG.out Try.underlying27 rfl (by kernel_rfl) ?_)
      refine (ris_any r 2 t b 0 wr).mono ?_
      rw [HF.out]
      rintro e w2 ⟨rfl, hg2⟩
      have HG2 := Lib.hid (HG.out.trans hg2)
      have c0 : w2.cell? ⟨b0, off + j * 7, none⟩ = some (.int .i64 r.tick) := hg2.cell (HRNG.out 0 _ rfl)
      have c6 : w2.cell? ⟨b0, off + j * 7 + 6, none⟩ = some (.slice r.a r.n r.c) := hg2.cell (HRNG.out 6 _ rfl)
      clear hg2 HG HRNG
      rcases Bool.eq_false_or_eq_true (f r) with hB | hB
      · rw [hB]
        have htk := HTK.out
        rw [HS.out, hB] at htk
        have HTK2 := Lib.hid htk
        clear htk hB
        by_cases h1 : lo ≤ r.tick
        · by_cases h2 : r.tick < hi
          · go_wp2_with fail
            go_roundw
            case rel => exact ⟨j + 1, by omega, by rw [HTK2.out, if_pos ⟨trivial, h1, h2⟩], by go_num, HG2.out⟩
            case measure => (simp [intOf] <;> omega)
          · go_wp2_with fail
            go_roundw
            case rel => exact ⟨j + 1, by omega, by rw [HTK2.out, if_neg (fun h => absurd h.2.2 (by omega)), Int.add_zero], by go_num, HG2.out⟩
            case measure => (simp [intOf] <;> omega)
        · go_wp2_with fail
          go_roundw
          case rel => exact ⟨j + 1, by omega, by rw [HTK2.out, if_neg (fun h => absurd h.2.1 (by omega)), Int.add_zero], by go_num, HG2.out⟩
          case measure => (simp [intOf] <;> omega)
      · rw [hB]
        have htk := HTK.out
        rw [HS.out, hB, if_neg (fun h => by cases h.1), Int.add_zero] at htk
        have HTK2 := Lib.hid htk
        clear htk hB
        go_wp2_with fail
        go_roundw
        case rel => exact ⟨j + 1, by omega, by rw [HTK2.out], by go_num, HG2.out⟩
        case measure => (simp [intOf] <;> omega)
    · obtain rfl : j = len := by omega
      rw [List.take_of_length_le (by rw [HL.out]; omega)]
      obtain ⟨D, hD⟩ : ∃ D, rt L lo hi (idxF f 0 L) = D := ⟨_, rfl⟩
      rw [hD]
      go_wp2_with fail
      go_ret
      exact ⟨by rw [hD]; rfl, HG.out⟩
end Go.Proofs.Ytgackcjhiplplaa
