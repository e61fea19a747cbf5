/- Layer 44 (audit): Rate; the plain law of AuditRates. -/
import Derived.Test.YtgackcjhiplplaaAudI
import Derived.Laws.MakeOwn
namespace Go.Proofs.Ytgackcjhiplplaa
open Go.ChangeShapes Go.WideShapes Go.ChangeAt Go.RowKit

def rw1 (L : List Rec) (lo hi j : Int) : Int := match L[j.toNat]? with | some r => if lo ≤ r.tick ∧ r.tick < hi then (r.n : Int) else 0 | none => 0
def rt (L : List Rec) (lo hi : Int) : List Int → Int
  | [] => 0
  | j :: P => rw1 L lo hi j + rt L lo hi P
theorem rt_append (L : List Rec) (lo hi : Int) : ∀ (P R : List Int), rt L lo hi (P ++ R) = rt L lo hi P + rt L lo hi R
  | [], R => by simp [rt]
  | x :: P, R => by simp only [List.cons_append, rt, rt_append L lo hi P R]; omega
theorem rw1_at {L : List Rec} {k : Nat} {r : Rec} (lo hi : Int) (h : L[k]? = some r) : rw1 L lo hi (k : Int) = if lo ≤ r.tick ∧ r.tick < hi then (r.n : Int) else 0 := by
  simp [rw1, h]
theorem rw1_rng {L : List Rec} (hL : ∀ r ∈ L, r.n ≤ 100000) (lo hi j : Int) : 0 ≤ rw1 L lo hi j ∧ rw1 L lo hi j ≤ 100000 := by
  unfold rw1
  split
  · rename_i r hr
    have := hL r (List.mem_of_getElem? hr)
    split <;> omega
  · omega
theorem rt_rng {L : List Rec} (hL : ∀ r ∈ L, r.n ≤ 100000) (lo hi : Int) : ∀ P : List Int, 0 ≤ rt L lo hi P ∧ rt L lo hi P ≤ 100000 * P.length
  | [] => by simp [rt]
  | j :: P => by
    have h1 := rw1_rng hL lo hi j
    have h2 := rt_rng hL lo hi P
    simp only [rt, List.length_cons]
    push_cast; omega
theorem rt_parts {L : List Rec} {x y z : Int} (h1 : x ≤ y) (h2 : y ≤ z) : ∀ P : List Int, rt L x y P + rt L y z P = rt L x z P
  | [] => rfl
  | j :: P => by
    have ih := rt_parts (L := L) h1 h2 P
    have hw : rw1 L x y j + rw1 L y z j = rw1 L x z j := by
      unfold rw1
      split
      · rename_i r _
        by_cases a1 : x ≤ r.tick <;> by_cases a2 : r.tick < y <;> by_cases a3 : r.tick < z <;> simp [a1, a2, a3] <;> (try split) <;> omega
      · rfl
    simp only [rt]; omega
def RtRel (L : List Rec) (P : List Int) (lo hi : Int) (n : Nat) (w : World) (s i : Value) (wr : World) : Prop := ∃ k : Nat, k ≤ n ∧ s = .int .i64 (rt L lo hi (P.take k)) ∧ i = .int .i64 k ∧ w = wr
set_option maxRecDepth 100000 in
set_option maxHeartbeats 1000000 in
theorem rate_any (a : Option Addr) (len cap : Nat) (L : List Rec) (t b lo hi : Int) (w : World) (hr : RdL w a len L) (hL : ∀ r ∈ L, r.n ≤ 100000) (_hlo : i64 lo) (_hhi : i64 hi) :
    Calls Try.prog 12 #[.slice a len cap, .int .i64 t, .int .i64 b, .int .i64 lo, .int .i64 hi] w fun e w' => e = .returned (.int .i64 (rt L lo hi (idxF (sel 2 t b 0) 0 L))) ∧ Gr w w' := by
  have HR := Lib.hid hr
  have hm := hr.2.1
  have HNL := Lib.hid hL
  obtain ⟨P, hP⟩ : ∃ P, idxF (sel 2 t b 0) 0 L = P := ⟨_, rfl⟩
  rw [hP]
  have HPE := Lib.hid hP
  clear hr hP hL
  go_enter Try.func12, Try.ntmps12
  go_wp2_with fail
  refine (flow_any a len cap L 2 t b 0 w HR.out).mono ?_
  rintro e w1 ⟨p, np, cp, rfl, hnp, hop, hg1⟩
  have hP := HPE.out
  have hin1 := idxF_inL (sel 2 t b 0) L
  have hp1 := hop.rd
  rw [hP] at hp1 hin1
  rw [HR.out.1] at hin1 hnp
  have HP1 := Lib.hid hp1
  have HI1 := Lib.hid hin1
  have HPL := Lib.hid hp1.1
  have HR1 := Lib.hid (HR.out.kept hg1)
  have HG1 := Lib.hid hg1
  clear hP hin1 hp1 hop hg1
  go_wp2_with fail
  go_loopw [11, 19] (fun s i wr => RtRel L P lo hi np w1 s i wr) (fun _ i _ => np - (intOf i).toNat)
  case atStart => exact ⟨0, by omega, rfl, rfl, rfl⟩
  case round =>
    obtain ⟨k, hk, rfl, rfl, rfl⟩ := hrel
    by_cases hlt : k < np
    · obtain ⟨i, hi', hpi⟩ := inL_at HI1.out (k := k) (by rw [HPL.out]; omega)
      obtain ⟨b1, o1, eb1, -, hc1⟩ := HP1.out.some (by omega)
      subst eb1
      have cp1 : w1.cell? ⟨b1, o1 + k, none⟩ = some (.int .i64 i) := by
        have := hc1 k (by omega)
        rw [hpi] at this
        exact this
      obtain ⟨r, hri, hrr⟩ := HR1.out.get hi'
      obtain ⟨b0, off, ea, hrg⟩ := HR1.out.some (by omega)
      subst ea
      have c0 : w1.cell? ⟨b0, off + i * 7, none⟩ = some (.int .i64 r.tick) := hrg i r hri 0 _ rfl
      have c6 : w1.cell? ⟨b0, off + i * 7 + 6, none⟩ = some (.slice r.a r.n r.c) := hrg i r hri 6 _ rfl
      have hrn := HNL.out r (List.mem_of_getElem? hri)
      have htk := rt_append L lo hi (P.take k) [(i : Int)]
      rw [← take_snocI hpi] at htk
      have htk2 : rt L lo hi (P.take (k + 1)) = rt L lo hi (P.take k) + (if lo ≤ r.tick ∧ r.tick < hi then (r.n : Int) else 0) := by
        rw [htk, show rt L lo hi [(i : Int)] = rw1 L lo hi i + 0 from rfl, rw1_at lo hi hri]; omega
      have hsr := rt_rng HNL.out lo hi (P.take k)
      have hlk : ((P.take k).length : Int) ≤ 1000000 := by rw [List.length_take]; omega
      obtain ⟨S, hS⟩ : ∃ S, rt L lo hi (P.take k) = S := ⟨_, rfl⟩
      rw [hS] at htk2 hsr ⊢
      have hs2 : 0 ≤ S ∧ S ≤ 100000000000 := by omega
      obtain ⟨s1, s2⟩ := hs2
      have HTK := Lib.hid htk2
      clear hc1 hpi hri hrg htk htk2 hsr hlk hS hrr
      by_cases h1 : lo ≤ r.tick
      · by_cases h2 : r.tick < hi
        · go_wp2_with fail
          go_roundw
          case rel => exact ⟨k + 1, by omega, by rw [HTK.out, if_pos ⟨h1, h2⟩], by go_num, rfl⟩
          case measure => (simp [intOf] <;> omega)
        · go_wp2_with fail
          go_roundw
          case rel => exact ⟨k + 1, by omega, by rw [HTK.out, if_neg (fun h => h2 h.2), Int.add_zero], by go_num, rfl⟩
          case measure => (simp [intOf] <;> omega)
      · go_wp2_with fail
        go_roundw
        case rel => exact ⟨k + 1, by omega, by rw [HTK.out, if_neg (fun h => h1 h.1), Int.add_zero], by go_num, rfl⟩
        case measure => (simp [intOf] <;> omega)
    · obtain rfl : k = np := by omega
      rw [List.take_of_length_le (by rw [HPL.out]; omega)]
      go_wp2_with fail
      go_ret
      exact ⟨rfl, HG1.out⟩
/-! ### the log of sizes -/
structure LogR (j : Nat) (L : List Rec) (s : Int) : Prop where
  hP : (idxF (sel 2 0 0 0) 0 L).length = j
  h1 : idxF (sel 2 1 0 0) 0 L = []
  hs : rt L 0 1000 (idxF (sel 2 0 0 0) 0 L) = s
theorem LogR.start : LogR 0 [] 0 := ⟨rfl, rfl, rfl⟩
theorem rw1_left {L R : List Rec} {x lo hi : Int} (h0 : 0 ≤ x) (h : x < L.length) : rw1 (L ++ R) lo hi x = rw1 L lo hi x := by
  unfold rw1
  rw [List.getElem?_append_left (by omega)]
theorem rt_left {L R : List Rec} {lo hi : Int} : ∀ (P : List Int), (∀ x ∈ P, 0 ≤ x ∧ x < (L.length : Int)) → rt (L ++ R) lo hi P = rt L lo hi P
  | [], _ => rfl
  | j :: P, h => by
    have h1 := h j (by simp)
    rw [rt, rt, rw1_left h1.1 h1.2, rt_left P (fun x hx => h x (by simp [hx]))]
theorem LogR.step {j : Nat} {L : List Rec} {s : Int} (h : LogR j L s) (r q : Rec) (hr : sel 2 0 0 0 r = true) (hr1 : sel 2 1 0 0 r = false) (hq : sel 2 0 0 0 q = false) (hq1 : sel 2 1 0 0 q = false) (ht : 0 ≤ r.tick ∧ r.tick < 1000) : LogR (j + 1) (L ++ [r, q]) (s + r.n) := by
  have e1 := idxF_append (sel 2 0 0 0) L [r, q] 0
  have e2 := idxF_append (sel 2 1 0 0) L [r, q] 0
  have e3 : idxF (sel 2 0 0 0) (0 + L.length) [r, q] = [(L.length : Int)] := by simp [idxF, hr, hq]
  have e4 : idxF (sel 2 1 0 0) (0 + L.length) [r, q] = [] := by simp [idxF, hr1, hq1]
  rw [e3] at e1
  rw [e4, h.h1] at e2
  refine ⟨by rw [e1]; simp [h.hP], by rw [e2]; rfl, ?_⟩
  rw [e1, rt_append, rt_left _ (fun x hx => by obtain ⟨k, k1, k2⟩ := idxF_inL (sel 2 0 0 0) L x hx; omega), h.hs]
  have : rw1 (L ++ [r, q]) 0 1000 (L.length : Int) = r.n := by
    rw [rw1_at 0 1000 (show (L ++ [r, q])[L.length]? = some r by simp), if_pos ht]
  simp only [rt, this]; omega
end Go.Proofs.Ytgackcjhiplplaa
