/- Layer 06 (flow): predictions of predictions (plain). -/
import Derived.Test.YtmojlengjoicoaaFlowE
namespace Go.Proofs.Ytmojlengjoicoaa
open Go.ChangeShapes Go.WideShapes Go.ChangeAt Go.RowKit

theorem low16 (x : Int) : lowS 16 x = x % 65536 := rfl
theorem low32 (x : Int) : lowS 32 x = x % 4294967296 := rfl
theorem signed16 (a b : Int) : signedS 16 a b = if 32768 ≤ (b - a) % 65536 then (b - a) % 65536 - 65536 else (b - a) % 65536 := rfl
theorem signed32 (a b : Int) : signedS 32 a b = if 2147483648 ≤ (b - a) % 4294967296 then (b - a) % 4294967296 - 4294967296 else (b - a) % 4294967296 := rfl
theorem signed_of {a b i : Int} (h1 : -32768 ≤ i) (h2 : i < 32768) (h : (b - a - i) % 65536 = 0) : signedS 16 a b = i := by
  rw [signed16]
  split <;> omega
theorem signed32_of {a b i : Int} (h1 : -2147483648 ≤ i) (h2 : i < 2147483648) (h : (b - a - i) % 4294967296 = 0) : signedS 32 a b = i := by
  rw [signed32]
  split <;> omega
theorem inB_mk {n m : Int} (h1 : 0 ≤ n) (h2 : n ≤ m) : inB n m = true := by simp [inB, h1, h2]
/-- A made header without check and marker. -/
def bare (h : Hdr) : Hdr := ⟨h.kind, h.tos, h.id, h.fixed, h.ttl, h.frm, h.to, h.fport, h.tport, 0, 0, h.type, h.seq, h.time, h.source⟩
theorem made_valid {fl : Int} {h : Hdr} (hm : MadeH fl h) (h0 : 0 ≤ fl) (h1 : fl ≤ 10) : validH h = true := by
  obtain ⟨k, t, i, f, l, fr, to, fp, tp, c, r⟩ := hm
  have hc : commonB h = true := by
    simp only [commonB, Bool.and_eq_true]
    exact ⟨⟨⟨⟨⟨⟨⟨⟨inB_mk t.1 (by omega), inB_mk (by omega) (by omega)⟩, inB_mk i.1 i.2⟩, inB_mk (by omega) (by omega)⟩, inB_mk (by omega) (by omega)⟩, inB_mk c.1 c.2⟩, inB_mk f.1 f.2⟩, inB_mk (by omega) (by omega)⟩, inB_mk (by omega) (by omega)⟩
  rcases r with ⟨r0, r1, r2, r3, r4, r5⟩ | ⟨r0, r1, r2, r3, r4, r5⟩
  · have hk : h.kind = 1 := by omega
    simp [validH, kindB, restB, hk, hc, r1, r2, r3, r4, r5]
  · have hk : h.kind = 2 := by omega
    simp [validH, kindB, restB, hk, hc, r2, r5, inB]
    omega
theorem bare_made {fl : Int} {h : Hdr} (hm : MadeH fl h) : MadeH fl (bare h) := by
  obtain ⟨k, t, i, f, l, fr, to, fp, tp, c, r⟩ := hm
  refine ⟨k, t, i, f, l, fr, to, fp, tp, by show (0 : Int) ≤ 0 ∧ (0 : Int) ≤ 65535; omega, ?_⟩
  rcases r with ⟨r0, r1, r2, r3, r4, r5⟩ | ⟨r0, r1, r2, r3, r4, r5⟩
  · exact .inl ⟨r0, rfl, r2, r3, r4, r5⟩
  · exact .inr ⟨r0, by show (0 : Int) ≤ 0 ∧ (0 : Int) ≤ 1; omega, r2, r3, r4, r5⟩
theorem made_ok {fl : Int} {h : Hdr} (hm : MadeH fl h) (h0 : 0 ≤ fl) (h1 : fl ≤ 10) : HOk h := by
  obtain ⟨k, t, i, f, l, fr, to, fp, tp, c, r⟩ := hm
  simp only [HOk, i64]
  rcases r with ⟨r0, r1, r2, r3, r4, r5⟩ | ⟨r0, r1, r2, r3, r4, r5⟩ <;> omega
def DynOk (kind s f : Int) : Prop := (0 ≤ s ∧ s ≤ 65535) ∧ (0 ≤ f ∧ f ≤ 1) ∧ (kind ≠ 2 → s = 0 ∧ f = 0)
theorem dynok_b {kind s f : Int} (h : DynOk kind s f) : dynB s f = true := by
  obtain ⟨h1, h2, _⟩ := h
  have : f = 0 ∨ f = 1 := by omega
  simp only [dynB, Bool.and_eq_true, decide_eq_true_eq, Bool.or_eq_true]
  omega
/-- What a prediction is, of a made header. -/
theorem pred_made {fl s f n : Int} {a : Hdr} (hm : MadeH fl a) (h0 : 0 ≤ fl) (h1 : fl ≤ 10) (hd : DynOk a.kind s f) : MadeH fl (predH s f a n) ∧ (predH s f a n).check = 0 ∧ (predH s f a n).marker = 0 := by
  unfold predH
  rw [made_valid hm h0 h1, dynok_b hd, Bool.and_self, if_pos rfl]
  obtain ⟨k, t, i, ff, l, fr, to, fp, tp, c, r⟩ := hm
  have e16 := fun x : Int => Int.emod_nonneg x (show (65536 : Int) ≠ 0 by decide)
  split
  · rename_i hk1
    refine ⟨⟨k, t, by show 0 ≤ lowS 16 n ∧ lowS 16 n ≤ 65535; rw [low16]; omega, ff, l, fr, to, fp, tp, by show (0 : Int) ≤ 0 ∧ (0 : Int) ≤ 65535; omega, ?_⟩, rfl, rfl⟩
    rcases r with ⟨r0, r1, r2, r3, r4, r5⟩ | ⟨r0, r1, r2, r3, r4, r5⟩
    · exact .inl ⟨r0, rfl, r2, r3, r4, r5⟩
    · omega
  · rename_i hk1
    refine ⟨⟨k, t, by show 0 ≤ lowS 16 _ ∧ lowS 16 _ ≤ 65535; rw [low16]; omega, ff, l, fr, to, fp, tp, by show (0 : Int) ≤ 0 ∧ (0 : Int) ≤ 65535; omega, ?_⟩, rfl, rfl⟩
    rcases r with ⟨r0, r1, r2, r3, r4, r5⟩ | ⟨r0, r1, r2, r3, r4, r5⟩
    · omega
    · exact .inr ⟨r0, by show (0 : Int) ≤ 0 ∧ (0 : Int) ≤ 1; omega, r2, by show 0 ≤ lowS 16 _ ∧ lowS 16 _ ≤ 65535; rw [low16]; omega, by show 0 ≤ lowS 32 _ ∧ lowS 32 _ ≤ 4294967295; rw [low32]; omega, r5⟩
theorem pred_one {s f n : Int} {a : Hdr} (hv : validH a = true) (hd : dynB s f = true) (hk : a.kind = 1) : predH s f a n = updU a (n % 65536) := by
  unfold predH; rw [hv, hd, Bool.and_self, if_pos rfl, if_pos hk, low16]
theorem pred_two {s f n : Int} {a : Hdr} (hv : validH a = true) (hd : dynB s f = true) (hk : a.kind = 2) {st : Int} (hst : stepH a n = st) : predH s f a n = updR a (n % 65536) ((a.time + s * st) % 4294967296) ((a.id + f * st) % 65536) := by
  unfold predH; rw [hv, hd, Bool.and_self, if_pos rfl, if_neg (by omega), hst, low16, low32, low16]
theorem num_one {a : Hdr} (hk : a.kind = 1) : numH a = a.id % 65536 := by unfold numH; rw [if_neg (by omega), low16]
theorem num_two {a : Hdr} (hk : a.kind = 2) : numH a = a.seq % 65536 := by unfold numH; rw [if_pos hk, low16]
theorem updU_self {a : Hdr} {i : Int} (hc : a.check = 0) (hk : a.marker = 0) (hi : i = a.id) : updU a i = a := by cases a; simp_all [updU]
theorem updR_self {a : Hdr} {q t i : Int} (hc : a.check = 0) (hk : a.marker = 0) (hq : q = a.seq) (ht : t = a.time) (hi : i = a.id) : updR a q t i = a := by cases a; simp_all [updR]
theorem steps_law {fl s f i k : Int} {a : Hdr} (hm : MadeH fl a) (h0 : 0 ≤ fl) (h1 : fl ≤ 10) (hd : DynOk a.kind s f) (hc : a.check = 0) (hk : a.marker = 0) (i1 : -1000 ≤ i) (i2 : i < 1000) (k1 : -1000 ≤ k) (k2 : k < 1000) :
    predH s f (predH s f a (numH a + i)) (numH a + i + k) = predH s f a (numH a + i + k) ∧ predH s f (predH s f a (numH a + i)) (numH a) = a ∧ signedS 16 (numH a) (numH (predH s f a (numH a + i))) = i := by
  have hv := made_valid hm h0 h1
  have hb := dynok_b hd
  obtain ⟨hmb, hcb, hkb⟩ := pred_made (n := numH a + i) hm h0 h1 hd
  have hvb := made_valid hmb h0 h1
  obtain ⟨k', t', id', ff, l, fr, to, fp, tp, c, r⟩ := hm
  rcases r with ⟨r0, r1, r2, r3, r4, r5⟩ | ⟨r0, r1, r2, r3, r4, r5⟩
  · have hk1 : a.kind = 1 := by omega
    have e := pred_one (n := numH a + i) hv hb hk1
    rw [e] at hvb ⊢
    have hk1b : (updU a ((numH a + i) % 65536)).kind = 1 := hk1
    rw [pred_one hvb hb hk1b, pred_one hv hb hk1, pred_one hvb hb hk1b, num_one hk1b, num_one hk1]
    refine ⟨rfl, ?_, ?_⟩
    · refine updU_self hc hk ?_
      omega
    · refine signed_of (by omega) (by omega) ?_
      show ((((a.id % 65536 + i) % 65536) % 65536) - a.id % 65536 - i) % 65536 = 0
      omega
  · have hk2 : a.kind = 2 := by omega
    have s1 : stepH a (numH a + i) = i := signed_of (by omega) (by omega) (by rw [show numH a + i - numH a - i = 0 by omega]; rfl)
    have s2 : stepH a (numH a + i + k) = i + k := signed_of (by omega) (by omega) (by rw [show numH a + i + k - numH a - (i + k) = 0 by omega]; rfl)
    have e := pred_two (n := numH a + i) hv hb hk2 s1
    obtain ⟨b, hbe⟩ : ∃ b, predH s f a (numH a + i) = b := ⟨_, rfl⟩
    rw [hbe] at e hvb ⊢
    have hk2b : b.kind = 2 := by rw [e]; exact hk2
    have hnb : numH b = (numH a + i) % 65536 := by
      rw [num_two hk2b, e]
      show (numH a + i) % 65536 % 65536 = _
      omega
    have s3 : stepH b (numH a + i + k) = k := signed_of (by omega) (by omega) (by rw [hnb]; omega)
    have s4 : stepH b (numH a) = -i := signed_of (by omega) (by omega) (by rw [hnb]; omega)
    rw [pred_two hvb hb hk2b s3, pred_two hv hb hk2 s2, pred_two hvb hb hk2b s4]
    have m1 : s * (i + k) = s * i + s * k := Int.mul_add _ _ _
    have m2 : s * -i = -(s * i) := Int.mul_neg _ _
    have m3 : f * (i + k) = f * i + f * k := Int.mul_add _ _ _
    have m4 : f * -i = -(f * i) := Int.mul_neg _ _
    refine ⟨?_, ?_, ?_⟩
    · rw [e, m1, m3]
      show updR a _ (((a.time + s * i) % 4294967296 + s * k) % 4294967296) (((a.id + f * i) % 65536 + f * k) % 65536) = _
      rw [show ((a.time + s * i) % 4294967296 + s * k) % 4294967296 = (a.time + (s * i + s * k)) % 4294967296 by omega, show ((a.id + f * i) % 65536 + f * k) % 65536 = (a.id + (f * i + f * k)) % 65536 by omega]
    · have hna := num_two hk2
      rw [e, m2, m4]
      refine updR_self hc hk ?_ ?_ ?_
      · omega
      · show ((a.time + s * i) % 4294967296 + -(s * i)) % 4294967296 = a.time
        omega
      · show ((a.id + f * i) % 65536 + -(f * i)) % 65536 = a.id
        omega
    · rw [hnb]
      exact signed_of (by omega) (by omega) (by omega)
end Go.Proofs.Ytmojlengjoicoaa
