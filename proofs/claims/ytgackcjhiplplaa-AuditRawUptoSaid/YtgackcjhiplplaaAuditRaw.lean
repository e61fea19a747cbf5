/- AuditRaw: all functions do what the reference does, for logs whose ticks are not too great. -/
import Derived.Test.YtgackcjhiplplaaAudU
import Derived.Test.YtgackcjhiplplaaFrameR
namespace Go.Proofs.Ytgackcjhiplplaa
open Go.ChangeShapes Go.WideShapes Go.ChangeAt Go.RowKit

def sumR : List Rec → Int
  | [] => 0
  | r :: l => (10 + (r.n : Int)) + sumR l
theorem sumR_snoc : ∀ (l : List Rec) (r : Rec), sumR (l ++ [r]) = sumR l + 10 + r.n
  | [], r => by simp [sumR]
  | x :: l, r => by simp only [List.cons_append, sumR, sumR_snoc l r]; omega
theorem sumR_step {L : List Rec} {j : Nat} {r : Rec} (h : L[j]? = some r) : sumR (L.take (j + 1)) = sumR (L.take j) + 10 + r.n := by
  rw [List.take_add_one, h]; exact sumR_snoc _ _
theorem sumR_rng : ∀ (L : List Rec), (∀ r ∈ L, RecOk r) → 0 ≤ sumR L ∧ sumR L ≤ 1048586 * L.length
  | [], _ => by simp [sumR]
  | r :: l, h => by
    have h1 := (h r (by simp)).1
    have h2 := sumR_rng l (fun x hx => h x (by simp [hx]))
    simp only [sumR, List.length_cons]; omega
theorem sumR_mem : ∀ (L : List Rec) (r : Rec), r ∈ L → (r.n : Int) ≤ sumR L
  | x :: l, r, h => by
    have h0 : 0 ≤ sumR l := by
      clear h
      induction l with
      | nil => simp [sumR]
      | cons y l ih => simp only [sumR]; omega
    simp only [sumR]
    rcases List.mem_cons.1 h with rfl | h
    · omega
    · have := sumR_mem l r h; omega
def RawRel (L : List Rec) (len : Nat) (w : World) (n i : Value) (wr : World) : Prop :=
  ∃ j : Nat, j ≤ len ∧ n = .int .i64 (sumR (L.take j)) ∧ i = .int .i64 j ∧ (∀ r ∈ L.take j, -1099511627776 ≤ r.tick ∧ r.tick ≤ 1099511627776) ∧ w = wr
set_option maxRecDepth 100000 in
set_option maxHeartbeats 1000000 in
theorem raw_fit (a : Option Addr) (len cap : Nat) (L : List Rec) (t b d lo hi : Int) (w : World) (hr : RdL w a len L) (hl : len ≤ 131072) (hok : ∀ r ∈ L, RecOk r) (_ht : i64 t) (_hb : i64 b) (_hd : i64 d) (hlo : i64 lo) (hhi : i64 hi) :
    Calls Try.prog 5 #[.slice a len cap, .int .i64 t, .int .i64 b, .int .i64 d, .int .i64 lo, .int .i64 hi] w fun e w' => e = .returned (.bool true) ∧ Below w.heap.size w w' := by
  have HR := Lib.hid hr
  have HL := Lib.hid hr.1
  have HOK := Lib.hid hok
  have HLO := Lib.hid hlo
  have HHI := Lib.hid hhi
  clear hr hok hlo hhi _ht _hb _hd
  go_enter Try.func5, Try.ntmps5
  go_wp2_with fail
  go_loopw [13, 14] (fun n i wr => RawRel L len w n i wr) (fun _ i _ => len - (intOf i).toNat)
  case atStart => exact ⟨0, by omega, rfl, rfl, by simp, rfl⟩
  case round =>
    obtain ⟨j, hj, rfl, rfl, htk, rfl⟩ := hrel
    have HTK := Lib.hid htk
    clear htk
    have hrng := sumR_rng (L.take j) (fun r h => HOK.out r (List.mem_of_mem_take h))
    have hlt2 : ((L.take j).length : Int) ≤ 131072 := by rw [List.length_take]; omega
    by_cases hlt : j < len
    · obtain ⟨r, hri, hrr⟩ := HR.out.get hlt
      obtain ⟨b0, off, ea, hrg⟩ := HR.out.some (by omega)
      subst ea
      have c0 : w.cell? ⟨b0, off + j * 7, none⟩ = some (.int .i64 r.tick) := hrg j r hri 0 _ rfl
      have c6 : w.cell? ⟨b0, off + j * 7 + 6, none⟩ = some (.slice r.a r.n r.c) := hrg j r hri 6 _ rfl
      have HST := Lib.hid (sumR_step hri)
      have hrn := (HOK.out r (List.mem_of_getElem? hri)).1
      have HTS := Lib.hid (show L.take (j + 1) = L.take j ++ [r] by rw [List.take_add_one, hri]; rfl)
      obtain ⟨S, hS⟩ : ∃ S, sumR (L.take j) = S := ⟨_, rfl⟩
      rw [hS] at hrng ⊢
      have hs2 : 0 ≤ S ∧ S ≤ 200000000000 := by omega
      obtain ⟨s1, s2⟩ := hs2
      have HS := Lib.hid hS
      clear hri hrg hrr hrng hlt2 hS
      by_cases h1 : r.tick < -1099511627776
      · go_wp2_with fail
        refine (awake44 w).mono ?_
        rintro e w1 ⟨rfl, hg1⟩
        have HG := Lib.hid hg1
        clear hg1
        go_wp2_with fail
        go_ret
        exact ⟨rfl, Below.of_none HG.out⟩
      · by_cases h2 : 1099511627776 < r.tick
        · go_wp2_with fail
          refine (awake44 w).mono ?_
          rintro e w1 ⟨rfl, hg1⟩
          have HG := Lib.hid hg1
          clear hg1
          go_wp2_with fail
          go_ret
          exact ⟨rfl, Below.of_none HG.out⟩
        · go_wp2_with fail
          go_roundw
          case rel =>
            refine ⟨j + 1, by omega, by rw [HST.out, HS.out], by go_num, ?_, rfl⟩
            rw [HTS.out]
            intro q hq
            rcases List.mem_append.1 hq with hq | hq
            · exact HTK.out q hq
            · simp only [List.mem_singleton] at hq
              subst hq
              exact ⟨by omega, by omega⟩
          case measure => (simp [intOf] <;> omega)
    · obtain rfl : j = len := by omega
      have htk := HTK.out
      rw [List.take_of_length_le (by rw [HL.out]; omega)] at htk hrng hlt2 ⊢
      obtain ⟨S, hS⟩ : ∃ S, sumR L = S := ⟨_, rfl⟩
      rw [hS] at hrng ⊢
      have HS := Lib.hid hS
      have HTC := Lib.hid (show Ticks L from fun r hr => by have := htk r hr; omega)
      have HCW := Lib.hid (show ∀ r ∈ L, i64 r.cell from fun r hr => (HOK.out r hr).2.2)
      clear htk HTK hrng hlt2 hS
      by_cases hbig : 3000 < S
      · go_wp2_with fail
        refine (awake44 w).mono ?_
        rintro e w1 ⟨rfl, hg1⟩
        have HG := Lib.hid hg1
        clear hg1
        go_wp2_with fail
        go_ret
        exact ⟨rfl, Below.of_none HG.out⟩
      · have HNL := Lib.hid (show ∀ r ∈ L, r.n ≤ 100000 from fun r hr => by have := sumR_mem L r hr; rw [HS.out] at this; omega)
        go_wp2_with fail
        refine (agree_any a j cap L t b d lo hi w HR.out HNL.out HTC.out HCW.out HLO.out HHI.out).mono ?_
        rintro e w1 ⟨rfl, hg1⟩
        have HG1 := Lib.hid hg1
        clear hg1
        go_wp2_with fail
        refine (awake44 w1).mono ?_
        rintro e w2 ⟨rfl, hg1⟩
        have HG := Lib.hid (HG1.out.trans hg1)
        clear hg1
        go_wp2_with fail
        go_ret
        exact ⟨rfl, Below.of_none HG.out⟩
end Go.Proofs.Ytgackcjhiplplaa
