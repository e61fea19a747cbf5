/- The reference's decoder of layer 28 (forward, the first of the best ways into each state): plain. -/
import Derived.Test.YtcleegibdcphiaaDoorCodeCorr
import Derived.Test.YtcleegibdcphiaaDoorCodeEnc
namespace Go.Proofs.YtcleegibdcphiaaDoor
namespace Cod

/-- Which list is ahead. -/
def lessL : List Int → List Int → Bool
  | a :: r, b :: q => if a = b then lessL r q else decide (a < b)
  | _, _ => false
theorem lessL_irr : ∀ (a : List Int), lessL a a = false
  | [] => rfl
  | x :: a => by simp [lessL, lessL_irr a]
theorem lessL_trans : ∀ (a b c : List Int), a.length = b.length → b.length = c.length → lessL b a = false → lessL c b = false → lessL c a = false
  | [], [], [], _, _, _, _ => rfl
  | x :: a, y :: b, z :: c, h1, h2, h3, h4 => by
    have ih := lessL_trans a b c (by simpa using h1) (by simpa using h2)
    simp only [lessL] at h3 h4 ⊢
    by_cases e1 : y = x
    · subst e1
      rw [if_pos rfl] at h3
      by_cases e2 : z = y
      · subst e2
        rw [if_pos rfl] at h4 ⊢
        exact ih h3 h4
      · rw [if_neg e2] at h4 ⊢; exact h4
    · rw [if_neg e1] at h3
      by_cases e2 : z = y
      · subst e2
        rw [if_neg e1]; exact h3
      · rw [if_neg e2] at h4
        have h3' : ¬ y < x := by simpa using h3
        have h4' : ¬ z < y := by simpa using h4
        rw [if_neg (by omega)]
        simp; omega
theorem lessL_total : ∀ (a b : List Int), a.length = b.length → lessL a b = true → lessL b a = false
  | [], [], _, h => by simp [lessL] at h
  | x :: a, y :: b, h1, h => by
    simp only [lessL] at h ⊢
    by_cases e : x = y
    · subst e
      rw [if_pos rfl] at h ⊢
      exact lessL_total a b (by simpa using h1) h
    · rw [if_neg e] at h
      rw [if_neg (fun h => e h.symm)]
      have : x < y := by simpa using h
      simp; omega
theorem lessL_snoc : ∀ (a b : List Int) (x : Int), a.length = b.length → lessL (a ++ [x]) (b ++ [x]) = lessL a b
  | [], [], x, _ => by simp [lessL]
  | y :: a, z :: b, x, h => by simp only [List.cons_append, lessL, lessL_snoc a b x (by simpa using h)]
theorem lessL_append : ∀ (a b c : List Int), a.length = b.length → lessL (a ++ c) (b ++ c) = lessL a b
  | [], [], c, _ => lessL_irr c
  | y :: a, z :: b, c, h => by simp only [List.cons_append, lessL, lessL_append a b c (by simpa using h)]
theorem lessL_first : ∀ (a b : List Int), a.length = b.length → a ≠ b → (∀ (i : Nat) (x y : Int), a[i]? = some x → b[i]? = some y → (∀ j : Nat, j < i → a[j]? = b[j]?) → x ≠ y → x < y) → lessL a b = true
  | [], [], _, h, _ => absurd rfl h
  | x :: a, y :: b, hl, hne, h => by
    simp only [lessL]
    by_cases e : x = y
    · subst e
      rw [if_pos rfl]
      refine lessL_first a b (by simpa using hl) (fun h => hne (by rw [h])) fun i u v h1 h2 h3 h4 => ?_
      refine h (i + 1) u v (by simpa using h1) (by simpa using h2) (fun j hj => ?_) h4
      cases j with
      | zero => rfl
      | succ j => simpa using h3 j (by omega)
    · rw [if_neg e]
      simpa using h 0 x y rfl rfl (fun j hj => by omega) e

/-! ### States of the reference: twice the last bit and the one before it -/
def rx (r x : Int) : Int := 2 * x + r / 2
def sw (s : Int) : Int := 2 * (s % 2) + s / 2
theorem sw_st {s : Int} (h : isSt s) : isSt (sw s) := by
  rcases h with rfl | rfl | rfl | rfl <;> simp [sw, isSt]
theorem sw_nx {s x : Int} (hs : isSt s) (hx : x = 0 ∨ x = 1) : sw (nx s x) = rx (sw s) x := by
  rcases hs with rfl | rfl | rfl | rfl <;> rcases hx with rfl | rfl <;> decide
def p0 (r x : Int) : Int := (x + r / 2 + r % 2) % 2
def p1 (r x : Int) : Int := (x + r % 2) % 2
theorem p0_sw {s : Int} (hs : isSt s) (x : Int) : p0 (sw s) x = o0 s x := by
  rcases hs with rfl | rfl | rfl | rfl <;> simp [p0, o0, sw]
theorem p1_sw {s : Int} (hs : isSt s) (x : Int) : p1 (sw s) x = o1 s x := by
  rcases hs with rfl | rfl | rfl | rfl <;> simp [p1, o1, sw]
def sgn (v c : Int) : Int := if c = 1 then -v else v
def gain (a b r x : Int) : Int := sgn a (p0 r x) + sgn b (p1 r x)
theorem gain_lik {s : Int} (hs : isSt s) (a b x : Int) : gain a b (sw s) x = lik a b s x := by
  unfold gain lik sgn
  rw [p0_sw hs, p1_sw hs, mul_sign (o0_bit s x), mul_sign (o1_bit s x)]
  rcases o0_bit s x with h | h <;> rcases o1_bit s x with k | k <;> simp [h, k]
theorem runS_st : ∀ (l : List Int) (s : Int), isBits l → isSt s → isSt (runS s l)
  | [], _, _, h => h
  | _ :: l, _, hb, h => runS_st l _ hb.cons.2 (nx_st h hb.cons.1)
theorem score_snoc2 : ∀ (A C : List Int) (a b c d : Int), A.length = C.length → score (A ++ [a, b]) (C ++ [c, d]) = score A C + (a * (1 - 2 * c) + b * (1 - 2 * d))
  | [], [], a, b, c, d, _ => by simp [score]
  | x :: A, y :: C, a, b, c, d, h => by
    simp only [List.cons_append, score, score_snoc2 A C a b c d (by simpa using h)]
    omega
/-- The likeness of the first bits. -/
def sc (ss : List Int) (o : List Int) : Int := score (ss.take (2 * o.length)) (encS 0 o)
theorem take_two (ss : List Int) (i : Nat) (h : 2 * i + 1 < ss.length) : ss.take (2 * (i + 1)) = ss.take (2 * i) ++ [ss[2 * i]?.getD 0, ss[2 * i + 1]?.getD 0] := by
  have e1 : ss.take (2 * i + 1) = ss.take (2 * i) ++ [ss[2 * i]?.getD 0] := take_one ss _ (by omega)
  have e2 : ss.take (2 * i + 1 + 1) = ss.take (2 * i + 1) ++ [ss[2 * i + 1]?.getD 0] := take_one ss _ h
  rw [show 2 * (i + 1) = 2 * i + 1 + 1 by omega, e2, e1, List.append_assoc]
  rfl
theorem sc_snoc (ss o : List Int) (x : Int) (h : 2 * o.length + 1 < ss.length) : sc ss (o ++ [x]) = sc ss o + lik (ss[2 * o.length]?.getD 0) (ss[2 * o.length + 1]?.getD 0) (runS 0 o) x := by
  unfold sc
  rw [encS_snoc, List.length_append, List.length_cons, List.length_nil, take_two ss _ h, score_snoc2 _ _ _ _ _ _ (by simp [encS_len]; omega)]
  rfl

/-! ### Tables -/
structure Way where
  t : Bool
  m : Int
  f : Int
  b : Int
def Way.zero : Way := ⟨false, 0, 0, 0⟩
def wz : List Way := [Way.zero, Way.zero, Way.zero, Way.zero]
def at4 (L : List Way) (s : Int) : Way := L[s.toNat]?.getD Way.zero
/-- The bits of the way into a state; the last table comes first. -/
def tr : List (List Way) → Int → List Int
  | [], _ => []
  | T :: W, s => tr W (at4 T s).f ++ [(at4 T s).b]
def tailok (n : Nat) (o : List Int) : Prop := ∀ j : Nat, n ≤ j → j < o.length → o[j]?.getD 0 = 0
/-- Is o a way of the first o.length steps into state r? -/
def isWay (n : Nat) (o : List Int) (r : Int) : Prop := isBits o ∧ tailok n o ∧ sw (runS 0 o) = r
def notAbove (ss : List Int) (o p : List Int) : Prop := sc ss o < sc ss p ∨ (sc ss o = sc ss p ∧ lessL o p = false)
def Best (n : Nat) (ss : List Int) (W : List (List Way)) (T : List Way) : Prop :=
  T.length = 4 ∧ ∀ r, isSt r →
    ((at4 T r).t = true → (tr W r).length = W.length ∧ isWay n (tr W r) r ∧ sc ss (tr W r) = (at4 T r).m ∧ ∀ o, o.length = W.length → isWay n o r → notAbove ss o (tr W r)) ∧
    ((at4 T r).t = false → ∀ o, o.length = W.length → ¬ isWay n o r)
/-- What has been tried of the step into the states of N: the pairs of S. -/
def Step (_n : Nat) (ss : List Int) (W : List (List Way)) (T N : List Way) (S : Int → Int → Prop) : Prop :=
  N.length = 4 ∧ ∀ t, isSt t →
    ((at4 N t).t = true → S (at4 N t).f (at4 N t).b ∧ (at4 T (at4 N t).f).t = true ∧ rx (at4 N t).f (at4 N t).b = t ∧
      (at4 N t).m = (at4 T (at4 N t).f).m + gain (ss[2 * W.length]?.getD 0) (ss[2 * W.length + 1]?.getD 0) (at4 N t).f (at4 N t).b ∧
      ∀ s x, S s x → (at4 T s).t = true → rx s x = t → ((at4 T s).m + gain (ss[2 * W.length]?.getD 0) (ss[2 * W.length + 1]?.getD 0) s x < (at4 N t).m ∨
        ((at4 T s).m + gain (ss[2 * W.length]?.getD 0) (ss[2 * W.length + 1]?.getD 0) s x = (at4 N t).m ∧ lessL (tr W s ++ [x]) (tr W (at4 N t).f ++ [(at4 N t).b]) = false))) ∧
    ((at4 N t).t = false → ∀ s x, S s x → (at4 T s).t = true → rx s x ≠ t)
def okPair (n i : Nat) (s x : Int) : Prop := isSt s ∧ (x = 0 ∨ (x = 1 ∧ i < n))
theorem snoc_cases {α : Type} (l : List α) (n : Nat) (h : l.length = n + 1) : ∃ o x, l = o ++ [x] ∧ o.length = n := by
  refine ⟨l.dropLast, l.getLast (by intro e; rw [e] at h; simp at h), (List.dropLast_concat_getLast _).symm, by simp; omega⟩
theorem tailok_snoc {n : Nat} {o : List Int} {x : Int} : tailok n (o ++ [x]) ↔ tailok n o ∧ (n ≤ o.length → x = 0) := by
  constructor
  · intro h
    refine ⟨fun j h1 h2 => ?_, fun h1 => ?_⟩
    · have := h j h1 (by simp; omega)
      rwa [List.getElem?_append_left h2] at this
    · have := h o.length h1 (by simp)
      simpa using this
  · intro ⟨h1, h2⟩ j h3 h4
    simp at h4
    by_cases h5 : j < o.length
    · rw [List.getElem?_append_left h5]; exact h1 j h3 h5
    · obtain rfl : j = o.length := by omega
      simpa using h2 h3
theorem isWay_snoc {n : Nat} {o : List Int} {x t : Int} (h : isWay n (o ++ [x]) t) : isWay n o (sw (runS 0 o)) ∧ okPair n o.length (sw (runS 0 o)) x ∧ rx (sw (runS 0 o)) x = t := by
  obtain ⟨hb, ht, hr⟩ := h
  have hbo : isBits o := fun y hy => hb y (by simp [hy])
  have hx : x = 0 ∨ x = 1 := hb x (by simp)
  have hs := runS_st o 0 hbo (.inl rfl)
  obtain ⟨h1, h2⟩ := tailok_snoc.1 ht
  refine ⟨⟨hbo, h1, rfl⟩, ⟨sw_st hs, ?_⟩, ?_⟩
  · rcases hx with rfl | rfl
    · exact .inl rfl
    · refine .inr ⟨rfl, ?_⟩
      rcases Nat.lt_or_ge o.length n with h | h
      · exact h
      · have := h2 h; omega
  · rw [runS_snoc, sw_nx hs hx] at hr; exact hr
theorem way_snoc {n : Nat} {o : List Int} {x s : Int} (h : isWay n o s) (hp : okPair n o.length s x) : isWay n (o ++ [x]) (rx s x) := by
  obtain ⟨hb, ht, hr⟩ := h
  obtain ⟨_, hx⟩ := hp
  have hs := runS_st o 0 hb (.inl rfl)
  have hx2 : x = 0 ∨ x = 1 := by omega
  refine ⟨fun y hy => ?_, tailok_snoc.2 ⟨ht, fun hn => by omega⟩, by rw [runS_snoc, sw_nx hs hx2, hr]⟩
  simp at hy
  rcases hy with hy | rfl
  · exact hb y hy
  · exact hx2
theorem gain_way {n : Nat} {ss o : List Int} {s x : Int} (h : isWay n o s) (hl : 2 * o.length + 1 < ss.length) : sc ss (o ++ [x]) = sc ss o + gain (ss[2 * o.length]?.getD 0) (ss[2 * o.length + 1]?.getD 0) s x := by
  obtain ⟨hb, _, hr⟩ := h
  rw [sc_snoc ss o x hl, ← hr, gain_lik (runS_st o 0 hb (.inl rfl))]
/-- One step is done. -/
theorem Best.next {n : Nat} {ss : List Int} {W : List (List Way)} {T N : List Way} (hB : Best n ss W T) (hl : 2 * W.length + 1 < ss.length) (hS : Step n ss W T N (okPair n W.length)) : Best n ss (N :: W) N := by
  refine ⟨hS.1, fun t ht => ⟨fun h => ?_, fun h o ho hw => ?_⟩⟩
  · obtain ⟨h1, h2, h3, h4, h5⟩ := (hS.2 t ht).1 h
    obtain ⟨p1, p2, p3, p4⟩ := (hB.2 _ h1.1).1 h2
    have htr : tr (N :: W) t = tr W (at4 N t).f ++ [(at4 N t).b] := rfl
    have hg := gain_way (ss := ss) (x := (at4 N t).b) p2 (by rw [p1]; exact hl)
    rw [p1] at hg
    rw [htr]
    refine ⟨by simp [p1], ?_, by rw [hg, p3, h4], fun o ho hw => ?_⟩
    · have := way_snoc p2 (by rw [p1]; exact h1)
      rwa [h3] at this
    · obtain ⟨q, x, rfl, hq⟩ := snoc_cases o W.length (by simpa using ho)
      obtain ⟨w1, w2, w3⟩ := isWay_snoc hw
      rw [hq] at w2
      obtain ⟨s, hs⟩ : ∃ s, sw (runS 0 q) = s := ⟨_, rfl⟩
      rw [hs] at w1 w2 w3
      have hts : (at4 T s).t = true := by
        cases e : (at4 T s).t
        · exact absurd w1 ((hB.2 s w2.1).2 e q hq)
        · rfl
      obtain ⟨q1, q2, q3, q4⟩ := (hB.2 s w2.1).1 hts
      have hgo := gain_way (ss := ss) (x := x) w1 (by rw [hq]; exact hl)
      rw [hq] at hgo
      have h6 := q4 q hq w1
      have h7 := h5 s x w2 hts w3
      unfold notAbove
      rw [hgo, hg, p3, ← h4]
      unfold notAbove at h6
      rw [q3] at h6
      rcases h6 with h6 | ⟨h6, h6l⟩
      · left; omega
      · rcases h7 with h7 | ⟨h7, h7l⟩
        · left; omega
        · right
          refine ⟨by omega, ?_⟩
          exact lessL_trans _ (tr W s ++ [x]) _ (by simp [p1, q1]) (by simp [q1, hq]) h7l (by rw [lessL_snoc _ _ _ (by rw [q1, hq])]; exact h6l)
  · obtain ⟨q, x, rfl, hq⟩ := snoc_cases o W.length (by simpa using ho)
    obtain ⟨w1, w2, w3⟩ := isWay_snoc hw
    rw [hq] at w2
    cases e : (at4 T (sw (runS 0 q))).t
    · exact absurd w1 ((hB.2 _ w2.1).2 e q hq)
    · exact (hS.2 t ht).2 h _ x w2 e w3
def T0 : List Way := [⟨true, 0, 0, 0⟩, Way.zero, Way.zero, Way.zero]
theorem best_start (n : Nat) (ss : List Int) : Best n ss [] T0 := by
  refine ⟨rfl, fun r hr => ⟨fun h => ?_, fun h o ho hw => ?_⟩⟩
  · rcases hr with rfl | rfl | rfl | rfl
    · refine ⟨rfl, ⟨by simp [tr, isBits], fun j _ h => by simp [tr] at h, by decide⟩, by simp [tr, sc, encS, score_nil, at4, T0], fun o ho hw => ?_⟩
      obtain rfl := List.eq_nil_of_length_eq_zero (by simpa using ho)
      exact .inr ⟨rfl, rfl⟩
    · simp [at4, T0, Way.zero] at h
    · simp [at4, T0, Way.zero] at h
    · simp [at4, T0, Way.zero] at h
  · obtain rfl := List.eq_nil_of_length_eq_zero (by simpa using ho)
    obtain ⟨_, _, hr0⟩ := hw
    have : r = 0 := by rw [← hr0]; decide
    subst this
    simp [at4, T0] at h
theorem step_none (n : Nat) (ss : List Int) (W : List (List Way)) (T : List Way) (S : Int → Int → Prop) (hS : ∀ s x, ¬ S s x) : Step n ss W T wz S := by
  refine ⟨rfl, fun t ht => ⟨fun h => ?_, fun h s x hs => absurd hs (hS s x)⟩⟩
  rcases ht with rfl | rfl | rfl | rfl <;> simp [at4, wz, Way.zero] at h
theorem step_same {n : Nat} {ss : List Int} {W : List (List Way)} {T N : List Way} {S S' : Int → Int → Prop} (h : Step n ss W T N S) (he : ∀ s x, S' s x ↔ S s x) : Step n ss W T N S' := by
  have : S' = S := by funext s x; exact propext (he s x)
  rw [this]; exact h
/-- A pair whose state has no way. -/
theorem step_skip {n : Nat} {ss : List Int} {W : List (List Way)} {T N : List Way} {S S' : Int → Int → Prop} {s0 : Int} (h : Step n ss W T N S) (h0 : (at4 T s0).t = false) (h1 : ∀ s x, S s x → S' s x) (h2 : ∀ s x, S' s x → S s x ∨ s = s0) : Step n ss W T N S' := by
  refine ⟨h.1, fun t ht => ⟨fun hn => ?_, fun hn s x hs hT => ?_⟩⟩
  · obtain ⟨a1, a2, a3, a4, a5⟩ := (h.2 t ht).1 hn
    refine ⟨h1 _ _ a1, a2, a3, a4, fun s x hs hT hr => ?_⟩
    rcases h2 s x hs with h3 | rfl
    · exact a5 s x h3 hT hr
    · rw [h0] at hT; cases hT
  · rcases h2 s x hs with h3 | rfl
    · exact (h.2 t ht).2 hn s x h3 hT
    · rw [h0] at hT; cases hT
def cand (ss : List Int) (W : List (List Way)) (T : List Way) (s x : Int) : Int := (at4 T s).m + gain (ss[2 * W.length]?.getD 0) (ss[2 * W.length + 1]?.getD 0) s x
/-- Is the new way better than the one that N has? -/
def better (ss : List Int) (W : List (List Way)) (T N : List Way) (s x : Int) : Bool :=
  !(at4 N (rx s x)).t || decide ((at4 N (rx s x)).m < cand ss W T s x) || (cand ss W T s x == (at4 N (rx s x)).m && lessL (tr W s ++ [x]) (tr W (at4 N (rx s x)).f ++ [(at4 N (rx s x)).b]))
theorem at4_set {N : List Way} {t u : Int} {w : Way} (ht : isSt t) (hu : isSt u) (hN : N.length = 4) : at4 (N.set t.toNat w) u = if u = t then w else at4 N u := by
  unfold at4
  by_cases h : u = t
  · subst h
    rw [if_pos rfl, List.getElem?_set_self (by rcases hu with rfl | rfl | rfl | rfl <;> simp [hN])]
    rfl
  · rw [if_neg h, List.getElem?_set_ne (by rcases ht with rfl | rfl | rfl | rfl <;> rcases hu with rfl | rfl | rfl | rfl <;> simp at h ⊢)]
theorem rx_st {s x : Int} (hs : isSt s) (hx : x = 0 ∨ x = 1) : isSt (rx s x) := by
  rcases hs with rfl | rfl | rfl | rfl <;> rcases hx with rfl | rfl <;> simp [rx, isSt]
theorem step_try {n : Nat} {ss : List Int} {W : List (List Way)} {T N : List Way} {S S' : Int → Int → Prop} {s x : Int} (h : Step n ss W T N S) (hT : (at4 T s).t = true) (hs : isSt s) (hx : x = 0 ∨ x = 1)
    (hlen : ∀ r, isSt r → (at4 T r).t = true → (tr W r).length = W.length) (hSS : ∀ s x, S s x → isSt s) (h1 : ∀ s' x', S' s' x' ↔ S s' x' ∨ (s' = s ∧ x' = x)) :
    Step n ss W T (if better ss W T N s x then N.set (rx s x).toNat ⟨true, cand ss W T s x, s, x⟩ else N) S' := by
  have ht := rx_st hs hx
  by_cases hb : better ss W T N s x = true
  · rw [if_pos hb]
    refine ⟨by simp [h.1], fun u hu => ?_⟩
    rw [at4_set ht hu h.1]
    by_cases hut : u = rx s x
    · subst hut
      rw [if_pos rfl]
      refine ⟨fun _ => ⟨(h1 _ _).2 (.inr ⟨rfl, rfl⟩), hT, rfl, rfl, fun s' x' hs' hT' hr' => ?_⟩, fun h => by cases h⟩
      rcases (h1 _ _).1 hs' with h3 | ⟨rfl, rfl⟩
      · cases e : (at4 N (rx s x)).t
        · exact absurd hr' ((h.2 _ hu).2 e s' x' h3 hT')
        · obtain ⟨a1, a2, a3, a4, a5⟩ := (h.2 _ hu).1 e
          have h6 := a5 s' x' h3 hT' hr'
          unfold better at hb
          rw [e] at hb
          simp only [Bool.not_true, Bool.false_or, Bool.or_eq_true, decide_eq_true_eq, Bool.and_eq_true, beq_iff_eq] at hb
          change (_ < cand ss W T s x ∨ _ = cand ss W T s x ∧ _)
          rcases hb with hb | ⟨hb1, hb2⟩
          · rcases h6 with h6 | ⟨h6, _⟩
            · left; omega
            · left; omega
          · rcases h6 with h6 | ⟨h6, h6l⟩
            · left; omega
            · right
              refine ⟨by omega, ?_⟩
              have l1 := hlen s hs hT
              have l2 := hlen _ (hSS _ _ a1) a2
              have l3 := hlen s' (hSS _ _ h3) hT'
              exact lessL_trans _ (tr W (at4 N (rx s x)).f ++ [(at4 N (rx s x)).b]) _ (by simp [l1, l2]) (by simp [l2, l3]) (lessL_total _ _ (by simp [l1, l2]) hb2) h6l
      · exact .inr ⟨rfl, lessL_irr _⟩
    · rw [if_neg hut]
      refine ⟨fun e => ?_, fun e s' x' hs' hT' hr' => ?_⟩
      · obtain ⟨a1, a2, a3, a4, a5⟩ := (h.2 _ hu).1 e
        refine ⟨(h1 _ _).2 (.inl a1), a2, a3, a4, fun s' x' hs' hT' hr' => ?_⟩
        rcases (h1 _ _).1 hs' with h3 | ⟨rfl, rfl⟩
        · exact a5 s' x' h3 hT' hr'
        · exact absurd hr'.symm hut
      · rcases (h1 _ _).1 hs' with h3 | ⟨rfl, rfl⟩
        · exact (h.2 _ hu).2 e s' x' h3 hT' hr'
        · exact hut hr'.symm
  · rw [if_neg hb]
    have hb' : better ss W T N s x = false := by simpa using hb
    unfold better at hb'
    simp only [Bool.or_eq_false_iff, Bool.not_eq_false', decide_eq_false_iff_not, Bool.and_eq_false_imp, beq_iff_eq] at hb'
    obtain ⟨⟨b1, b2⟩, b3⟩ := hb'
    refine ⟨h.1, fun u hu => ⟨fun e => ?_, fun e s' x' hs' hT' hr' => ?_⟩⟩
    · obtain ⟨a1, a2, a3, a4, a5⟩ := (h.2 _ hu).1 e
      refine ⟨(h1 _ _).2 (.inl a1), a2, a3, a4, fun s' x' hs' hT' hr' => ?_⟩
      rcases (h1 _ _).1 hs' with h3 | ⟨rfl, rfl⟩
      · exact a5 s' x' h3 hT' hr'
      · subst hr'
        change (cand ss W T s' x' < _ ∨ cand ss W T s' x' = _ ∧ _)
        by_cases h9 : cand ss W T s' x' = (at4 N (rx s' x')).m
        · exact .inr ⟨h9, b3 h9⟩
        · left; omega
    · rcases (h1 _ _).1 hs' with h3 | ⟨rfl, rfl⟩
      · exact (h.2 _ hu).2 e s' x' h3 hT' hr'
      · subst hr'; rw [b1] at e; cases e
/-- What is found behind all steps. -/
theorem ref_dec {n : Nat} {ss : List Int} {W : List (List Way)} {T : List Way} (hB : Best n ss W T) (hW : W.length = n + 2) (hl : ss.length = 2 * (n + 2)) (hso : softOk ss) (hn : n ≤ 100000) :
    (tr W 0).length = n + 2 ∧ (tr W 0).take n = dec n ss 0 := by
  have hway : ∀ o : List Int, o.length = n → isBits o → isWay n (o ++ [0, 0]) 0 := by
    intro o ho hb
    have h2 : isBits (o ++ [0, 0]) := by
      intro y hy; simp at hy
      rcases hy with hy | rfl
      · exact hb y hy
      · exact .inl rfl
    refine ⟨h2, fun j h3 h4 => ?_, ?_⟩
    · simp at h4
      rw [List.getElem?_append_right (by omega), ho]
      have : j - n = 0 ∨ j - n = 1 := by omega
      rcases this with e | e <;> rw [e] <;> rfl
    · rw [show o ++ [0, 0] = (o ++ [0]) ++ [0] by simp, runS_snoc, runS_snoc]
      have := runS_st o 0 hb (.inl rfl)
      rcases this with e | e | e | e <;> rw [e] <;> decide
  have hsc : ∀ o : List Int, o.length = n → sc ss (o ++ [0, 0]) = score ss (encS 0 (o ++ [0, 0])) := by
    intro o ho
    unfold sc
    rw [List.take_of_length_le (by simp [ho, hl])]
  have hT : (at4 T 0).t = true := by
    cases e : (at4 T 0).t
    · exact absurd (hway (List.replicate n 0) (by simp) (zeros_bits n)) ((hB.2 0 (.inl rfl)).2 e _ (by simp [hW]))
    · rfl
  obtain ⟨h1, h2, h3, h4⟩ := (hB.2 0 (.inl rfl)).1 hT
  rw [hW] at h1
  refine ⟨h1, ?_⟩
  obtain ⟨q, hq⟩ : ∃ q, (tr W 0).take n = q := ⟨_, rfl⟩
  have hql : q.length = n := by rw [← hq]; simp [h1]
  have hqp : tr W 0 = q ++ [0, 0] := by
    have e := (List.take_append_drop n (tr W 0)).symm
    rw [hq] at e
    have hd : ((tr W 0).drop n).length = 2 := by simp [h1]
    obtain ⟨u, v, huv⟩ : ∃ u v, (tr W 0).drop n = [u, v] := by
      match hh : (tr W 0).drop n, hd with
      | [u, v], _ => exact ⟨u, v, rfl⟩
    have hu := h2.2.1 n (Nat.le_refl _) (by omega)
    have hv := h2.2.1 (n + 1) (by omega) (by omega)
    rw [e, huv, List.getElem?_append_right (by omega), hql, Nat.sub_self] at hu
    rw [e, huv, List.getElem?_append_right (by omega), hql, Nat.add_sub_cancel_left] at hv
    simp at hu hv
    rw [e, huv, hu, hv]
  have hqb : isBits q := fun y hy => h2.1 y (by rw [hqp]; simp [hy])
  have hD := dec_len n ss 0 hl
  have hDb := dec_bits n ss 0
  have hDs := dec_score n ss 0 hl hso (.inl rfl) hn
  have hge := best_ge q ss 0 (by rw [hql]; exact hl) hqb (.inl rfl)
  rw [hql] at hge
  have h5 := h4 (dec n ss 0 ++ [0, 0]) (by simp [hD, hW]) (hway _ hD hDb)
  rw [hqp] at h5
  unfold notAbove at h5
  rw [hsc _ hD, hsc _ hql, hDs] at h5
  rw [hq]
  rcases h5 with h5 | ⟨h5, h6⟩
  · omega
  · rw [lessL_append _ _ _ (by rw [hD, hql])] at h6
    apply Decidable.byContradiction
    intro hne
    have h7 := dec_first q ss 0 (by rw [hql]; exact hl) hso (.inl rfl) (by omega) hqb (by rw [hql]; omega)
    rw [hql] at h7
    have h8 := lessL_first _ _ (by rw [hD, hql]) (fun e => hne e.symm) h7
    rw [h8] at h6; cases h6
end Cod
end Go.Proofs.YtcleegibdcphiaaDoor
