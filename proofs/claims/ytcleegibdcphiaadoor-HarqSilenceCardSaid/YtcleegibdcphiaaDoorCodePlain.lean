/- The code of layer 28: the plain theory (its distance; what the decoder finds). No program in sight. -/
namespace Go.Proofs.YtcleegibdcphiaaDoor
namespace Cod

def nx (s x : Int) : Int := 2 * (s % 2) + x
def o0 (s x : Int) : Int := (x + s % 2 + s / 2) % 2
def o1 (s x : Int) : Int := (x + s / 2) % 2
def encS : Int → List Int → List Int
  | _, [] => []
  | s, x :: r => o0 s x :: o1 s x :: encS (nx s x) r
def enc (l : List Int) : List Int := encS 0 (l ++ [0, 0])
def isBits (l : List Int) : Prop := ∀ x ∈ l, x = 0 ∨ x = 1
def isSt (s : Int) : Prop := s = 0 ∨ s = 1 ∨ s = 2 ∨ s = 3

theorem isBits.cons {x : Int} {l : List Int} (h : isBits (x :: l)) : (x = 0 ∨ x = 1) ∧ isBits l := ⟨h x (by simp), fun y hy => h y (by simp [hy])⟩
theorem nx_st {s x : Int} (hs : isSt s) (hx : x = 0 ∨ x = 1) : isSt (nx s x) := by
  rcases hs with rfl | rfl | rfl | rfl <;> rcases hx with rfl | rfl <;> simp [nx, isSt]
theorem o0_bit (s x : Int) : o0 s x = 0 ∨ o0 s x = 1 := by unfold o0; omega
theorem o1_bit (s x : Int) : o1 s x = 0 ∨ o1 s x = 1 := by unfold o1; omega
theorem encS_len : ∀ (l : List Int) (s : Int), (encS s l).length = 2 * l.length
  | [], _ => rfl
  | x :: r, s => by simp [encS, encS_len r]; omega
theorem enc_len (l : List Int) : (enc l).length = 2 * (l.length + 2) := by simp [enc, encS_len]
theorem encS_bits : ∀ (l : List Int) (s : Int), isBits (encS s l)
  | [], _ => by simp [isBits, encS]
  | x :: r, s => by
    intro y hy
    simp only [encS, List.mem_cons] at hy
    rcases hy with rfl | rfl | hy
    · exact o0_bit _ _
    · exact o1_bit _ _
    · exact encS_bits r _ y hy

/-! ### The sum -/
def sum2 (a b : List Int) : List Int := List.zipWith (fun x y => (x + y) % 2) a b
def sx (s t : Int) : Int := 2 * ((s / 2 + t / 2) % 2) + (s % 2 + t % 2) % 2
theorem sx_step {s t x y : Int} (hs : isSt s) (ht : isSt t) (hx : x = 0 ∨ x = 1) (hy : y = 0 ∨ y = 1) :
    o0 (sx s t) ((x + y) % 2) = (o0 s x + o0 t y) % 2 ∧ o1 (sx s t) ((x + y) % 2) = (o1 s x + o1 t y) % 2 ∧ nx (sx s t) ((x + y) % 2) = sx (nx s x) (nx t y) := by
  rcases hs with rfl | rfl | rfl | rfl <;> rcases ht with rfl | rfl | rfl | rfl <;> rcases hx with rfl | rfl <;> rcases hy with rfl | rfl <;> decide
theorem encS_sum : ∀ (a b : List Int) (s t : Int), a.length = b.length → isBits a → isBits b → isSt s → isSt t → encS (sx s t) (sum2 a b) = sum2 (encS s a) (encS t b)
  | [], [], _, _, _, _, _, _, _ => rfl
  | x :: a, y :: b, s, t, hl, ha, hb, hs, ht => by
    obtain ⟨hx, ha⟩ := ha.cons
    obtain ⟨hy, hb⟩ := hb.cons
    obtain ⟨h1, h2, h3⟩ := sx_step hs ht hx hy
    have ih := encS_sum a b (nx s x) (nx t y) (by simpa using hl) ha hb (nx_st hs hx) (nx_st ht hy)
    simp only [sum2] at ih
    simp only [sum2, List.zipWith_cons_cons, encS, h1, h2, h3, ih]
theorem sum2_append (a b c d : List Int) (h : a.length = b.length) : sum2 (a ++ c) (b ++ d) = sum2 a b ++ sum2 c d := by
  unfold sum2; exact List.zipWith_append h
theorem enc_sum {a b : List Int} (hl : a.length = b.length) (ha : isBits a) (hb : isBits b) : enc (sum2 a b) = sum2 (enc a) (enc b) := by
  have h := encS_sum (a ++ [0, 0]) (b ++ [0, 0]) 0 0 (by simp [hl]) (by intro x hx; simp at hx; rcases hx with h | h; exact ha x h; exact .inl h) (by intro x hx; simp at hx; rcases hx with h | h; exact hb x h; exact .inl h) (.inl rfl) (.inl rfl)
  rw [sum2_append _ _ _ _ hl] at h
  exact h
theorem sum2_bits : ∀ (a b : List Int), isBits (sum2 a b)
  | [], _ => by simp [sum2, isBits]
  | _ :: _, [] => by simp [sum2, isBits]
  | x :: a, y :: b => by
    intro z hz
    simp only [sum2, List.zipWith_cons_cons, List.mem_cons] at hz
    rcases hz with rfl | hz
    · omega
    · exact sum2_bits a b z hz

/-! ### Weights -/
def wt : List Int → Int
  | [] => 0
  | x :: r => x + wt r
def pot (s : Int) : Int := if s = 0 then 0 else if s = 2 then 2 else 3
theorem wt_pot : ∀ (l : List Int) (s : Int), isBits l → isSt s → pot s ≤ wt (encS s (l ++ [0, 0]))
  | [], s, _, hs => by
    rcases hs with rfl | rfl | rfl | rfl <;> decide
  | x :: r, s, hl, hs => by
    obtain ⟨hx, hr⟩ := hl.cons
    have ih := wt_pot r (nx s x) hr (nx_st hs hx)
    simp only [List.cons_append, encS, wt]
    rcases hs with rfl | rfl | rfl | rfl <;> rcases hx with rfl | rfl <;> simp [nx, o0, o1, pot] at ih ⊢ <;> omega
theorem wt5 : ∀ (l : List Int), isBits l → (∃ x ∈ l, x = 1) → 5 ≤ wt (enc l)
  | [], _, h => by simp at h
  | x :: r, hl, h => by
    obtain ⟨hx, hr⟩ := hl.cons
    rcases hx with rfl | rfl
    · have ih := wt5 r hr (by simpa using h)
      simp only [enc, List.cons_append, encS, wt]
      have e1 : o0 0 0 = 0 := by decide
      have e2 : o1 0 0 = 0 := by decide
      have e3 : nx 0 0 = 0 := by decide
      rw [e1, e2, e3]
      simp only [enc] at ih
      omega
    · have ih := wt_pot r (nx 0 1) hr (nx_st (.inl rfl) (.inr rfl))
      simp only [enc, List.cons_append, encS, wt]
      have e1 : o0 0 1 = 1 := by decide
      have e2 : o1 0 1 = 1 := by decide
      have e3 : pot (nx 0 1) = 3 := by decide
      omega
theorem wt_zero : ∀ (l : List Int), isBits l → (¬ ∃ x ∈ l, x = 1) → wt (enc l) = 0
  | [], _, _ => by decide
  | x :: r, hl, h => by
    obtain ⟨hx, hr⟩ := hl.cons
    rcases hx with rfl | rfl
    · have ih := wt_zero r hr (fun ⟨y, hy, e⟩ => h ⟨y, by simp [hy], e⟩)
      simp only [enc, List.cons_append, encS, wt]
      have e1 : o0 0 0 = 0 := by decide
      have e2 : o1 0 0 = 0 := by decide
      have e3 : nx 0 0 = 0 := by decide
      rw [e1, e2, e3]
      simp only [enc] at ih
      omega
    · exact absurd ⟨1, by simp, rfl⟩ h

/-! ### Likeness -/
def score : List Int → List Int → Int
  | a :: s, c :: r => a * (1 - 2 * c) + score s r
  | _, _ => 0
def never : Int := -1099511627776
def lik (a b s x : Int) : Int := a * (1 - 2 * o0 s x) + b * (1 - 2 * o1 s x)
def best : Nat → List Int → Int → Int
  | d, a :: b :: r, s => if d = 0 then max never (best 0 r (nx s 0) + lik a b s 0) else max (max never (best (d - 1) r (nx s 0) + lik a b s 0)) (best (d - 1) r (nx s 1) + lik a b s 1)
  | _, _, s => if s = 0 then 0 else never
def dec : Nat → List Int → Int → List Int
  | d + 1, a :: b :: r, s => if best d r (nx s 0) + lik a b s 0 < best (d + 1) (a :: b :: r) s then 1 :: dec d r (nx s 1) else 0 :: dec d r (nx s 0)
  | _, _, _ => []
def softOk (l : List Int) : Prop := ∀ x ∈ l, -127 ≤ x ∧ x ≤ 127
theorem softOk.two {a b : Int} {l : List Int} (h : softOk (a :: b :: l)) : (-127 ≤ a ∧ a ≤ 127) ∧ (-127 ≤ b ∧ b ≤ 127) ∧ softOk l := ⟨h a (by simp), h b (by simp), fun y hy => h y (by simp [hy])⟩
theorem mul_sign {a c : Int} (h : c = 0 ∨ c = 1) : a * (1 - 2 * c) = if c = 0 then a else -a := by
  rcases h with rfl | rfl <;> simp
theorem lik_rng {a b s x : Int} (ha : -127 ≤ a ∧ a ≤ 127) (hb : -127 ≤ b ∧ b ≤ 127) : -254 ≤ lik a b s x ∧ lik a b s x ≤ 254 := by
  unfold lik
  rw [mul_sign (o0_bit s x), mul_sign (o1_bit s x)]
  split <;> split <;> omega
theorem score_enc (a b : Int) (r : List Int) (s x : Int) (l : List Int) : score (a :: b :: r) (encS s (x :: l)) = lik a b s x + score r (encS (nx s x) l) := by
  simp only [encS, score, lik]; omega
theorem best_zero (a b : Int) (r : List Int) (s : Int) : best 0 (a :: b :: r) s = max never (best 0 r (nx s 0) + lik a b s 0) := by simp [best]
theorem best_succ (d : Nat) (a b : Int) (r : List Int) (s : Int) : best (d + 1) (a :: b :: r) s = max (max never (best d r (nx s 0) + lik a b s 0)) (best d r (nx s 1) + lik a b s 1) := by simp [best]
theorem score_nil (c : List Int) : score [] c = 0 := by cases c <;> rfl
/-- No way is better. -/
theorem best_ge : ∀ (l r : List Int) (s : Int), r.length = 2 * (l.length + 2) → isBits l → isSt s → score r (encS s (l ++ [0, 0])) ≤ best l.length r s
  | [], r, s, hr, _, hs => by
    match r, hr with
    | [a, b, c, e], _ =>
      have hz : nx (nx s 0) 0 = 0 := by rcases hs with rfl | rfl | rfl | rfl <;> decide
      simp only [List.nil_append, List.length_nil]
      rw [score_enc, score_enc, score_nil, best_zero, best_zero, hz]
      have : best 0 [] 0 = 0 := rfl
      omega
  | x :: l, r, s, hr, hl, hs => by
    match r, hr with
    | a :: b :: r, hr =>
      obtain ⟨hx, hl⟩ := hl.cons
      have ih := best_ge l r (nx s x) (by simp at hr; omega) hl (nx_st hs hx)
      simp only [List.cons_append, List.length_cons]
      rw [score_enc, best_succ]
      rcases hx with rfl | rfl <;> omega
    | [_], hr => simp at hr; omega
    | [], hr => simp at hr
theorem score_lo : ∀ (r c : List Int), softOk r → isBits c → -127 * (r.length : Int) ≤ score r c
  | [], c, _, _ => by rw [score_nil]; simp
  | a :: r, [], _, _ => by simp only [score, List.length_cons]; omega
  | a :: r, x :: c, hr, hc => by
    have ha := hr a (by simp)
    obtain ⟨hx, hc⟩ := hc.cons
    have ih := score_lo r c (fun y hy => hr y (by simp [hy])) hc
    simp only [score, List.length_cons]
    rw [mul_sign hx]
    split <;> (push_cast; omega)
theorem zeros_bits (d : Nat) : isBits (List.replicate d 0) := fun _ hx => .inl (List.eq_of_mem_replicate hx)
theorem best_gt (d : Nat) (r : List Int) (s : Int) (hr : r.length = 2 * (d + 2)) (hso : softOk r) (hs : isSt s) (hd : d ≤ 100000) : never < best d r s := by
  have h := best_ge (List.replicate d 0) r s (by simpa using hr) (zeros_bits d) hs
  rw [List.length_replicate] at h
  have h2 := score_lo r (encS s (List.replicate d 0 ++ [0, 0])) hso (encS_bits _ _)
  rw [hr] at h2
  unfold never
  push_cast at h2
  omega
theorem dec_len : ∀ (d : Nat) (r : List Int) (s : Int), r.length = 2 * (d + 2) → (dec d r s).length = d
  | 0, r, s, _ => by cases r <;> simp [dec]
  | d + 1, r, s, hr => by
    match r, hr with
    | a :: b :: r, hr =>
      simp only [dec]
      split <;> simp [dec_len d r _ (by simp at hr; omega)]
    | [_], hr => simp at hr; omega
    | [], hr => simp at hr
theorem dec_bits : ∀ (d : Nat) (r : List Int) (s : Int), isBits (dec d r s)
  | 0, r, s => by cases r <;> simp [dec, isBits]
  | d + 1, [], s => by simp [dec, isBits]
  | d + 1, [a], s => by simp [dec, isBits]
  | d + 1, a :: b :: r, s => by
    intro x hx
    simp only [dec] at hx
    split at hx
    · rcases List.mem_cons.1 hx with rfl | hx
      · exact .inr rfl
      · exact dec_bits d r _ x hx
    · rcases List.mem_cons.1 hx with rfl | hx
      · exact .inl rfl
      · exact dec_bits d r _ x hx
/-- What is decoded is as good as can be. -/
theorem dec_score : ∀ (d : Nat) (r : List Int) (s : Int), r.length = 2 * (d + 2) → softOk r → isSt s → d ≤ 100000 → score r (encS s (dec d r s ++ [0, 0])) = best d r s
  | 0, r, s, hr, hso, hs, _ => by
    have hg := best_gt 0 r s hr hso hs (by omega)
    match r, hr with
    | [a, b, c, e], hr =>
      have hz : nx (nx s 0) 0 = 0 := by rcases hs with rfl | rfl | rfl | rfl <;> decide
      simp only [dec, List.nil_append]
      rw [score_enc, score_enc, score_nil]
      rw [best_zero, best_zero, hz] at hg ⊢
      have : best 0 [] 0 = 0 := rfl
      obtain ⟨ha, hb, hso⟩ := hso.two
      obtain ⟨hc, he, _⟩ := hso.two
      have l1 := lik_rng (s := s) (x := 0) ha hb
      have l2 := lik_rng (s := nx s 0) (x := 0) hc he
      unfold never at hg ⊢
      omega
  | d + 1, r, s, hr, hso, hs, hd => by
    have hg := best_gt (d + 1) r s hr hso hs hd
    match r, hr with
    | a :: b :: r, hr =>
      obtain ⟨ha, hb, hso⟩ := hso.two
      have hr' : r.length = 2 * (d + 2) := by simp at hr; omega
      simp only [dec]
      split
      · rename_i hlt
        rw [List.cons_append, score_enc, dec_score d r _ hr' hso (nx_st hs (.inr rfl)) (by omega)]
        rw [best_succ] at hlt hg ⊢
        omega
      · rename_i hlt
        rw [List.cons_append, score_enc, dec_score d r _ hr' hso (nx_st hs (.inl rfl)) (by omega)]
        rw [best_succ] at hlt hg ⊢
        omega
    | [_], hr => simp at hr; omega
    | [], hr => simp at hr
/-- Of the best ones it is the first. -/
theorem dec_first : ∀ (o : List Int) (r : List Int) (s : Int), r.length = 2 * (o.length + 2) → softOk r → isSt s → o.length ≤ 100000 → isBits o → score r (encS s (o ++ [0, 0])) = best o.length r s →
    ∀ (i : Nat) (x y : Int), (dec o.length r s)[i]? = some x → o[i]? = some y → (∀ j : Nat, j < i → (dec o.length r s)[j]? = o[j]?) → x ≠ y → x < y
  | [], r, s, _, _, _, _, _, _ => by intro i x y _ h; simp at h
  | z :: o, r, s, hr, hso, hs, hd, hb, he => by
    match r, hr with
    | a :: b :: r, hr =>
      obtain ⟨hz, hbo⟩ := hb.cons
      obtain ⟨ha, hb', hso⟩ := hso.two
      have hr' : r.length = 2 * (o.length + 2) := by simp at hr; omega
      simp only [List.length_cons] at hd he ⊢
      rw [List.cons_append, score_enc] at he
      have hge := best_ge o r (nx s z) hr' hbo (nx_st hs hz)
      intro i x y hx hy hj hne
      simp only [dec] at hx hj
      by_cases hlt : best o.length r (nx s 0) + lik a b s 0 < best (o.length + 1) (a :: b :: r) s
      · rw [if_pos hlt] at hx hj
        have hz1 : z = 1 := by
          rcases hz with rfl | rfl
          · omega
          · rfl
        subst hz1
        cases i with
        | zero => simp at hx hy; omega
        | succ i =>
          rw [best_succ] at he hlt
          have hgo : never < best (o.length + 1) (a :: b :: r) s := best_gt _ _ _ hr (by intro q hq; simp at hq; rcases hq with rfl | rfl | hq; exact ha; exact hb'; exact hso q hq) hs hd
          rw [best_succ] at hgo
          refine dec_first o r (nx s 1) hr' hso (nx_st hs (.inr rfl)) (by omega) hbo (by omega) i x y (by simpa using hx) (by simpa using hy) (fun j hji => by simpa using hj (j + 1) (by omega)) hne
      · rw [if_neg hlt] at hx hj
        cases i with
        | zero =>
          simp at hx hy
          subst hx hy
          rcases hz with rfl | rfl <;> omega
        | succ i =>
          have h0 := hj 0 (by omega)
          simp at h0
          subst h0
          have hgo : never < best (o.length + 1) (a :: b :: r) s := best_gt _ _ _ hr (by intro q hq; simp at hq; rcases hq with rfl | rfl | hq; exact ha; exact hb'; exact hso q hq) hs hd
          rw [best_succ] at he hlt hgo
          refine dec_first o r (nx s 0) hr' hso (nx_st hs (.inl rfl)) (by omega) hbo (by omega) i x y (by simpa using hx) (by simpa using hy) (fun j hji => by simpa using hj (j + 1) (by omega)) hne
    | [_], hr => simp at hr; omega
    | [], hr => simp at hr
theorem best_lo : ∀ (d : Nat) (r : List Int) (s : Int), never ≤ best d r s
  | d, [], s => by unfold best; split <;> simp [never]
  | d, [a], s => by unfold best; split <;> simp [never]
  | d, a :: b :: r, s => by
    unfold best; split
    · exact Int.le_max_left _ _
    · exact Int.le_trans (Int.le_max_left _ _) (Int.le_max_left _ _)
theorem best_hi : ∀ (d : Nat) (r : List Int) (s : Int), softOk r → best d r s ≤ 127 * (r.length : Int)
  | d, [], s, _ => by unfold best; split <;> simp [never]
  | d, [a], s, _ => by unfold best; split <;> simp [never]
  | d, a :: b :: r, s, h => by
    obtain ⟨ha, hb, hr⟩ := h.two
    have h0 := best_hi 0 r (nx s 0) hr
    have h1 := best_hi (d - 1) r (nx s 0) hr
    have h2 := best_hi (d - 1) r (nx s 1) hr
    have l0 := lik_rng (s := s) (x := 0) ha hb
    have l1 := lik_rng (s := s) (x := 1) ha hb
    unfold best
    simp only [List.length_cons, never]
    push_cast
    split <;> omega
/-- The best likeness of what follows step q from state s. -/
def bestAt (n : Nat) (ss : List Int) (q : Nat) (s : Int) : Int := best (n - q) (ss.drop (2 * q)) s
theorem drop_two (ss : List Int) (q : Nat) (h : 2 * q + 1 < ss.length) : ss.drop (2 * q) = ss[2 * q]?.getD 0 :: ss[2 * q + 1]?.getD 0 :: ss.drop (2 * (q + 1)) := by
  rw [List.drop_eq_getElem_cons (show 2 * q < ss.length by omega), List.drop_eq_getElem_cons h, show 2 * (q + 1) = 2 * q + 1 + 1 by omega]
  simp [show 2 * q < ss.length by omega, h]
def val (n : Nat) (ss : List Int) (q : Nat) (s x : Int) : Int := bestAt n ss (q + 1) (nx s x) + lik (ss[2 * q]?.getD 0) (ss[2 * q + 1]?.getD 0) s x
theorem bestAt_tail {n : Nat} {ss : List Int} {q : Nat} (hl : 2 * q + 1 < ss.length) (hq : n ≤ q) (s : Int) : bestAt n ss q s = max never (val n ss q s 0) := by
  unfold val bestAt
  rw [drop_two ss q hl, show n - q = 0 by omega, show n - (q + 1) = 0 by omega, best_zero]
theorem bestAt_head {n : Nat} {ss : List Int} {q : Nat} (hl : 2 * q + 1 < ss.length) (hq : q < n) (s : Int) : bestAt n ss q s = max (max never (val n ss q s 0)) (val n ss q s 1) := by
  unfold val bestAt
  rw [drop_two ss q hl, show n - q = (n - (q + 1)) + 1 by omega, best_succ]
theorem bestAt_end {n : Nat} {ss : List Int} (hl : ss.length = 2 * (n + 2)) (s : Int) : bestAt n ss (n + 2) s = if s = 0 then 0 else never := by
  unfold bestAt
  rw [List.drop_eq_nil_of_le (by omega)]
  simp [best]
theorem softOk_drop {ss : List Int} (h : softOk ss) (k : Nat) : softOk (ss.drop k) := fun x hx => h x (List.mem_of_mem_drop hx)
theorem bestAt_rng {n : Nat} {ss : List Int} (h : softOk ss) (hl : ss.length ≤ 5000) (q : Nat) (s : Int) : -1099511627776 ≤ bestAt n ss q s ∧ bestAt n ss q s ≤ 635000 := by
  have h1 := best_lo (n - q) (ss.drop (2 * q)) s
  have h2 := best_hi (n - q) (ss.drop (2 * q)) s (softOk_drop h _)
  unfold never at h1
  unfold bestAt
  have : ((ss.drop (2 * q)).length : Int) ≤ 5000 := by simp; omega
  omega
/-- The rows from k on are whole. -/
def TabRows (n : Nat) (ss L : List Int) (k : Nat) : Prop := L.length = (n + 3) * 4 ∧ ∀ q s : Nat, k ≤ q → q ≤ n + 2 → s < 4 → L[q * 4 + s]?.getD 0 = bestAt n ss q s
def TabRow (n : Nat) (ss L : List Int) (q m : Nat) : Prop := ∀ s : Nat, s < m → L[q * 4 + s]?.getD 0 = bestAt n ss q s
theorem set_getD (L : List Int) (i j : Nat) (v : Int) (h : i ≠ j) : (L.set i v)[j]?.getD 0 = L[j]?.getD 0 := by rw [List.getElem?_set_ne h]
theorem set_getD_eq (L : List Int) (i : Nat) (v : Int) (h : i < L.length) : (L.set i v)[i]?.getD 0 = v := by rw [List.getElem?_set_self h]; rfl
theorem TabRows.put {n : Nat} {ss L : List Int} {q s : Nat} (h : TabRows n ss L (q + 1)) (hs : s < 4) (v : Int) : TabRows n ss (L.set (q * 4 + s) v) (q + 1) := by
  refine ⟨by simp [h.1], fun q' s' h1 h2 h3 => ?_⟩
  rw [set_getD _ _ _ _ (by omega)]
  exact h.2 q' s' h1 h2 h3
theorem TabRow.put {n : Nat} {ss L : List Int} {q s : Nat} (h : TabRow n ss L q s) (v : Int) : TabRow n ss (L.set (q * 4 + s) v) q s := by
  intro s' hs'
  rw [set_getD _ _ _ _ (by omega)]
  exact h s' hs'
theorem TabRow.more {n : Nat} {ss L : List Int} {q s : Nat} (h : TabRow n ss L q s) (he : L[q * 4 + s]?.getD 0 = bestAt n ss q s) : TabRow n ss L q (s + 1) := by
  intro s' hs'
  by_cases h1 : s' = s
  · subst h1; exact he
  · exact h s' (by omega)
theorem TabRows.next {n : Nat} {ss L : List Int} {q : Nat} (h : TabRows n ss L (q + 1)) (hr : TabRow n ss L q 4) : TabRows n ss L q := by
  refine ⟨h.1, fun q' s' h1 h2 h3 => ?_⟩
  by_cases h4 : q' = q
  · subst h4; exact hr s' h3
  · exact h.2 q' s' (by omega) h2 h3
theorem dec_step {n : Nat} {ss : List Int} {j : Nat} (hl : 2 * j + 1 < ss.length) (hj : j < n) (s : Int) : dec (n - j) (ss.drop (2 * j)) s =
    if val n ss j s 0 < bestAt n ss j s then 1 :: dec (n - (j + 1)) (ss.drop (2 * (j + 1))) (nx s 1) else 0 :: dec (n - (j + 1)) (ss.drop (2 * (j + 1))) (nx s 0) := by
  unfold val bestAt
  rw [drop_two ss j hl, show n - j = (n - (j + 1)) + 1 by omega]
  simp only [dec]
theorem drop_cons {l r : List Int} {j : Nat} {x : Int} (h : l.drop j = x :: r) : l.take (j + 1) = l.take j ++ [x] ∧ l.drop (j + 1) = r := by
  have h1 : l[j]? = some x := by
    have := congrArg (·[0]?) h
    simpa using this
  refine ⟨by rw [List.take_add_one, h1]; rfl, ?_⟩
  have h2 := congrArg (List.drop 1) h
  rw [List.drop_drop] at h2
  simpa using h2
end Cod
end Go.Proofs.YtcleegibdcphiaaDoor
