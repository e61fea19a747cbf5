/- The code of layer 28: what is received well enough is decoded (plain). -/
import Derived.Test.YtcleegibdcphiaaDoorCodePlain
namespace Go.Proofs.YtcleegibdcphiaaDoor
namespace Cod

theorem sum2_ne : ∀ (a b : List Int), a.length = b.length → isBits a → isBits b → a ≠ b → ∃ x ∈ sum2 a b, x = 1
  | [], [], _, _, _, h => absurd rfl h
  | x :: a, y :: b, hl, ha, hb, h => by
    obtain ⟨hx, ha2⟩ := ha.cons
    obtain ⟨hy, hb2⟩ := hb.cons
    by_cases hxy : x = y
    · subst hxy
      obtain ⟨z, hz, e⟩ := sum2_ne a b (by simpa using hl) ha2 hb2 (fun e => h (by rw [e]))
      exact ⟨z, by simp only [sum2, List.zipWith_cons_cons, List.mem_cons]; exact .inr hz, e⟩
    · refine ⟨(x + y) % 2, by simp [sum2], ?_⟩
      rcases hx with rfl | rfl <;> rcases hy with rfl | rfl <;> simp at hxy ⊢
theorem enc_far {a b : List Int} (hl : a.length = b.length) (ha : isBits a) (hb : isBits b) (h : a ≠ b) : 5 ≤ wt (sum2 (enc a) (enc b)) := by
  rw [← enc_sum hl ha hb]
  exact wt5 _ (sum2_bits a b) (sum2_ne a b hl ha hb h)
/-- How many signs are wrong. -/
def nflip (g : Int) : List Int → List Int → Int
  | t :: r, b :: c => (if t = g * (1 - 2 * b) then 0 else 1) + nflip g r c
  | _, _ => 0
def signed (g : Int) : List Int → List Int → Prop
  | t :: r, b :: c => (t = g * (1 - 2 * b) ∨ t = -(g * (1 - 2 * b))) ∧ signed g r c
  | [], [] => True
  | _, _ => False
theorem corr_gain (g : Int) (hg : 0 < g) : ∀ (t b o : List Int), b.length = o.length → isBits b → isBits o → signed g t b → score t o + 2 * g * wt (sum2 b o) ≤ score t b + 4 * g * nflip g t b
  | [], [], o, _, _, _, _ => by simp [score_nil, sum2, wt, nflip]
  | [], _ :: _, _, _, _, _, h => by simp [signed] at h
  | _ :: _, [], _, _, _, _, h => by simp [signed] at h
  | t :: r, b :: c, [], hl, _, _, _ => by simp at hl
  | t :: r, b :: c, o :: p, hl, hb, ho, hs => by
    obtain ⟨hb1, hb⟩ := hb.cons
    obtain ⟨ho1, ho⟩ := ho.cons
    obtain ⟨h1, hs⟩ := hs
    have ih := corr_gain g hg r c p (by simpa using hl) hb ho hs
    have e : sum2 (b :: c) (o :: p) = (b + o) % 2 :: sum2 c p := rfl
    rw [e]
    simp only [score, wt, nflip, Int.mul_add]
    obtain ⟨W, hW⟩ : ∃ W, 2 * g * wt (sum2 c p) = W := ⟨_, rfl⟩
    obtain ⟨F, hF⟩ : ∃ F, 4 * g * nflip g r c = F := ⟨_, rfl⟩
    rw [hW, hF] at ih
    rw [hW, hF]
    have hgn : g ≠ -g := by omega
    rcases hb1 with rfl | rfl <;> rcases ho1 with rfl | rfl <;> rcases h1 with rfl | rfl <;> simp <;> (try split) <;> omega
theorem all_gain : ∀ (t b o : List Int), t.length = b.length → b.length = o.length → isBits b → isBits o → (∀ p ∈ List.zip t b, 1 ≤ p.1 * (1 - 2 * p.2)) → score t o + 2 * wt (sum2 b o) ≤ score t b
  | [], [], o, _, _, _, _, _ => by simp [score_nil, sum2, wt]
  | [], _ :: _, _, h, _, _, _, _ => by simp at h
  | _ :: _, [], _, h, _, _, _, _ => by simp at h
  | t :: r, b :: c, [], _, hl, _, _, _ => by simp at hl
  | t :: r, b :: c, o :: p, h1, hl, hb, ho, hs => by
    obtain ⟨hb1, hb⟩ := hb.cons
    obtain ⟨ho1, ho⟩ := ho.cons
    have h2 := hs (t, b) (by simp)
    have ih := all_gain r c p (by simpa using h1) (by simpa using hl) hb ho (fun q hq => hs q (by simp [hq]))
    have e : sum2 (b :: c) (o :: p) = (b + o) % 2 :: sum2 c p := rfl
    rw [e]
    simp only [score, wt, Int.mul_add]
    simp only at h2
    rcases hb1 with rfl | rfl <;> rcases ho1 with rfl | rfl <;> simp at h2 ⊢ <;> omega
/-- The one best word is decoded. -/
theorem dec_only {n : Nat} {r b : List Int} (hr : r.length = 2 * (n + 2)) (hso : softOk r) (hn : n ≤ 100000) (hb : isBits b) (hl : b.length = n) (h : ∀ o, o.length = n → isBits o → o ≠ b → score r (enc o) < score r (enc b)) : dec n r 0 = b := by
  by_cases he : dec n r 0 = b
  · exact he
  · have h1 := h _ (dec_len n r 0 hr) (dec_bits n r 0) he
    have h2 := dec_score n r 0 hr hso (.inl rfl) hn
    have h3 := best_ge b r 0 (by rw [hl]; exact hr) hb (.inl rfl)
    rw [hl] at h3
    unfold enc at h1
    omega
/-- Two wrong signs do no harm. -/
theorem dec_two {g : Int} {n : Nat} {r b : List Int} (hg : 0 < g) (hr : r.length = 2 * (n + 2)) (hso : softOk r) (hn : n ≤ 100000) (hb : isBits b) (hl : b.length = n) (hs : signed g r (enc b)) (hf : nflip g r (enc b) ≤ 2) : dec n r 0 = b := by
  refine dec_only hr hso hn hb hl fun o ho hob hne => ?_
  have h1 := corr_gain g hg r (enc b) (enc o) (by rw [enc_len, enc_len, hl, ho]) (encS_bits _ _) (encS_bits _ _) hs
  have h2 := enc_far (a := b) (b := o) (by rw [hl, ho]) hb hob (fun e => hne e.symm)
  have h3 : 2 * g * 5 ≤ 2 * g * wt (sum2 (enc b) (enc o)) := Int.mul_le_mul_of_nonneg_left h2 (by omega)
  have h4 : 4 * g * nflip g r (enc b) ≤ 4 * g * 2 := Int.mul_le_mul_of_nonneg_left hf (by omega)
  omega
/-- With the right signs all sizes will do. -/
theorem dec_right {n : Nat} {r b : List Int} (hr : r.length = 2 * (n + 2)) (hso : softOk r) (hn : n ≤ 100000) (hb : isBits b) (hl : b.length = n) (hs : ∀ p ∈ List.zip r (enc b), 1 ≤ p.1 * (1 - 2 * p.2)) : dec n r 0 = b := by
  refine dec_only hr hso hn hb hl fun o ho hob hne => ?_
  have h1 := all_gain r (enc b) (enc o) (by rw [hr, enc_len, hl]) (by rw [enc_len, enc_len, hl, ho]) (encS_bits _ _) (encS_bits _ _) hs
  have h2 := enc_far (a := b) (b := o) (by rw [hl, ho]) hb hob (fun e => hne e.symm)
  omega
theorem signed_map (g : Int) : ∀ (c : List Int), signed g (c.map fun x => g * (1 - 2 * x)) c ∧ nflip g (c.map fun x => g * (1 - 2 * x)) c = 0
  | [] => ⟨trivial, rfl⟩
  | x :: c => by
    obtain ⟨h1, h2⟩ := signed_map g c
    exact ⟨⟨.inl rfl, h1⟩, by simp [nflip, h2]⟩
theorem signed_set (g : Int) : ∀ (t b : List Int) (i : Nat), signed g t b → i < t.length → signed g (t.set i (-(t[i]?.getD 0))) b ∧ nflip g (t.set i (-(t[i]?.getD 0))) b ≤ nflip g t b + 1
  | [], _, _, _, h => by simp at h
  | _ :: _, [], _, h, _ => by simp [signed] at h
  | t :: r, b :: c, 0, h, _ => by
    obtain ⟨h1, h2⟩ := h
    refine ⟨⟨?_, h2⟩, ?_⟩
    · simp; omega
    · simp only [List.set_cons_zero, nflip]
      split <;> split <;> omega
  | t :: r, b :: c, i + 1, h, hi => by
    obtain ⟨h1, h2⟩ := h
    obtain ⟨h3, h4⟩ := signed_set g r c i h2 (by simpa using hi)
    simp only [List.set_cons_succ, List.getElem?_cons_succ, nflip, signed]
    exact ⟨⟨h1, h3⟩, by omega⟩
theorem signed_soft {g : Int} (h0 : 0 < g) (h1 : g ≤ 127) : ∀ (t b : List Int), signed g t b → isBits b → softOk t
  | [], _, _, _ => by intro x hx; simp at hx
  | _ :: _, [], h, _ => by simp [signed] at h
  | t :: r, b :: c, h, hb => by
    obtain ⟨hb1, hb2⟩ := hb.cons
    obtain ⟨h2, h3⟩ := h
    have ih := signed_soft h0 h1 r c h3 hb2
    intro x hx
    rcases List.mem_cons.1 hx with rfl | hx
    · rcases hb1 with rfl | rfl <;> omega
    · exact ih x hx
end Cod
end Go.Proofs.YtcleegibdcphiaaDoor
