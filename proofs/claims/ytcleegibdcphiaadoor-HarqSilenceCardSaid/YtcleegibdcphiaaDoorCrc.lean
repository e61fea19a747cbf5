/- Check values over bits: the plain theory (linear, one to one without input, a word fed in is a word added). No program in sight. -/
namespace Go.Proofs.YtcleegibdcphiaaDoor
namespace Crc

/-- One bit b goes into register r of k bits. -/
def stp (k p r b : Nat) : Nat := (2 * r) % 2 ^ k ^^^ (if r / 2 ^ (k - 1) % 2 = b then 0 else p)
def feed (k p : Nat) (r : Nat) (bs : List Nat) : Nat := bs.foldl (stp k p) r
/-- The number that bits say, the first one the greatest. -/
def val : List Nat → Nat
  | [] => 0
  | b :: t => b * 2 ^ t.length + val t
def isBits (bs : List Nat) : Prop := ∀ b ∈ bs, b < 2

theorem half2 {k : Nat} (hk : 1 ≤ k) : 2 * 2 ^ (k - 1) = 2 ^ k := by
  obtain ⟨j, rfl⟩ : ∃ j, k = j + 1 := ⟨k - 1, by omega⟩
  rw [Nat.add_sub_cancel, Nat.pow_succ]; omega
theorem xor_lt {k a b : Nat} (ha : a < 2 ^ k) (hb : b < 2 ^ k) : a ^^^ b < 2 ^ k := Nat.xor_lt_two_pow ha hb
theorem stp_lt {k p : Nat} (hp : p < 2 ^ k) (r b : Nat) : stp k p r b < 2 ^ k := by
  unfold stp
  refine xor_lt (Nat.mod_lt _ (Nat.two_pow_pos k)) ?_
  split
  · exact Nat.two_pow_pos k
  · exact hp
theorem top_test (k r : Nat) : r / 2 ^ (k - 1) % 2 = (r.testBit (k - 1)).toNat := by
  rw [Nat.testBit_eq_decide_div_mod_eq]
  have := Nat.mod_two_eq_zero_or_one (r / 2 ^ (k - 1))
  rcases this with h | h <;> simp [h]
theorem bit_of {b : Nat} (h : b < 2) : b = 0 ∨ b = 1 := by omega
theorem stp_eq {k p r b : Nat} (hb : b < 2) : stp k p r b = (2 * r) % 2 ^ k ^^^ (if (r.testBit (k - 1) ^^ decide (b = 1)) then p else 0) := by
  unfold stp
  rw [top_test]
  rcases bit_of hb with rfl | rfl <;> cases r.testBit (k - 1) <;> simp
theorem xor_ite (p : Nat) (x y : Bool) : (if x ^^ y then p else 0) = (if x then p else 0) ^^^ (if y then p else 0) := by
  cases x <;> cases y <;> simp
theorem dbl_xor (k a b : Nat) : (2 * (a ^^^ b)) % 2 ^ k = (2 * a) % 2 ^ k ^^^ (2 * b) % 2 ^ k := by
  apply Nat.eq_of_testBit_eq
  intro i
  rw [Nat.testBit_xor, Nat.testBit_mod_two_pow, Nat.testBit_mod_two_pow, Nat.testBit_mod_two_pow]
  have h : ∀ x, (2 * x).testBit i = (decide (1 ≤ i) && x.testBit (i - 1)) := by
    intro x
    cases i with
    | zero => simp
    | succ i => rw [Nat.testBit_succ]; simp
  rw [h, h, h, Nat.testBit_xor]
  cases decide (i < k) <;> cases decide (1 ≤ i) <;> simp
theorem stp_lin {k p r s b c : Nat} (hb : b < 2) (hc : c < 2) : stp k p (r ^^^ s) (b ^^^ c) = stp k p r b ^^^ stp k p s c := by
  have hbc : b ^^^ c < 2 := xor_lt (k := 1) hb hc
  rw [stp_eq hbc, stp_eq hb, stp_eq hc, dbl_xor, Nat.testBit_xor]
  have e : decide ((b ^^^ c) = 1) = (decide (b = 1) ^^ decide (c = 1)) := by
    rcases bit_of hb with rfl | rfl <;> rcases bit_of hc with rfl | rfl <;> rfl
  rw [e]
  have e2 : (r.testBit (k - 1) ^^ s.testBit (k - 1) ^^ (decide (b = 1) ^^ decide (c = 1))) = ((r.testBit (k - 1) ^^ decide (b = 1)) ^^ (s.testBit (k - 1) ^^ decide (c = 1))) := by
    cases r.testBit (k - 1) <;> cases s.testBit (k - 1) <;> cases decide (b = 1) <;> cases decide (c = 1) <;> rfl
  rw [e2, xor_ite]
  rw [Nat.xor_assoc, Nat.xor_assoc]
  congr 1
  rw [← Nat.xor_assoc, Nat.xor_comm ((2 * s) % 2 ^ k), Nat.xor_assoc]
theorem feed_lt {k p : Nat} (hp : p < 2 ^ k) : ∀ (bs : List Nat) (r : Nat), r < 2 ^ k → feed k p r bs < 2 ^ k
  | [], _, h => h
  | b :: t, r, _ => feed_lt hp t _ (stp_lt hp r b)
theorem feed_append (k p r : Nat) (a b : List Nat) : feed k p r (a ++ b) = feed k p (feed k p r a) b := by simp [feed]
theorem feed_lin (k p : Nat) : ∀ (bs cs : List Nat) (r s : Nat), bs.length = cs.length → isBits bs → isBits cs →
    feed k p (r ^^^ s) (List.zipWith (· ^^^ ·) bs cs) = feed k p r bs ^^^ feed k p s cs
  | [], [], _, _, _, _, _ => rfl
  | b :: bt, c :: ct, r, s, hl, hb, hc => by
    show feed k p (stp k p (r ^^^ s) (b ^^^ c)) (List.zipWith (· ^^^ ·) bt ct) = feed k p (stp k p r b) bt ^^^ feed k p (stp k p s c) ct
    rw [stp_lin (hb b (by simp)) (hc c (by simp))]
    exact feed_lin k p bt ct _ _ (by simpa using hl) (fun x hx => hb x (by simp [hx])) (fun x hx => hc x (by simp [hx]))

/-- Without input nothing but 0 leads to 0, if the polynomial has its last term. -/
theorem stp_zero {k p r : Nat} (hk : 1 ≤ k) (hp : p % 2 = 1) (hr : r < 2 ^ k) (h : stp k p r 0 = 0) : r = 0 := by
  rw [stp_eq (by omega)] at h
  simp only [Nat.zero_ne_one, decide_false, Bool.xor_false] at h
  have h0 := congrArg (fun x => Nat.testBit x 0) h
  simp only [Nat.testBit_xor, Nat.zero_testBit, Nat.testBit_mod_two_pow] at h0
  have e1 : (2 * r).testBit 0 = false := by simp
  rw [e1, Bool.and_false, Bool.false_xor] at h0
  cases ht : r.testBit (k - 1)
  · rw [ht] at h
    simp only [Bool.false_eq_true, if_false, Nat.xor_zero] at h
    have hlt : r < 2 ^ (k - 1) := by
      rcases Nat.lt_or_ge r (2 ^ (k - 1)) with h2 | h2
      · exact h2
      · exfalso
        have h3 : r / 2 ^ (k - 1) = 1 := by
          have := half2 hk
          exact Nat.div_eq_of_lt_le (by omega) (by omega)
        rw [Nat.testBit_eq_decide_div_mod_eq, h3] at ht
        simp at ht
    have : 2 * r < 2 ^ k := by
      have := half2 hk
      omega
    rw [Nat.mod_eq_of_lt this] at h
    omega
  · rw [ht] at h0
    simp [Nat.testBit_zero, hp] at h0
theorem feed_zeros {k p : Nat} (hk : 1 ≤ k) (hp : p % 2 = 1) (hpk : p < 2 ^ k) : ∀ (n r : Nat), r < 2 ^ k → feed k p r (List.replicate n 0) = 0 → r = 0
  | 0, _, _, h => h
  | n + 1, r, hr, h => by
    rw [List.replicate_succ] at h
    exact stp_zero hk hp hr (feed_zeros hk hp hpk n _ (stp_lt hpk r 0) h)
theorem stp_00 (k p : Nat) : stp k p 0 0 = 0 := by simp [stp]
theorem feed_0 (k p : Nat) : ∀ n, feed k p 0 (List.replicate n 0) = 0
  | 0 => rfl
  | n + 1 => by
    rw [List.replicate_succ]
    show feed k p (stp k p 0 0) (List.replicate n 0) = 0
    rw [stp_00]; exact feed_0 k p n

theorem val_lt : ∀ (bs : List Nat), isBits bs → val bs < 2 ^ bs.length
  | [], _ => by simp [val]
  | b :: t, h => by
    have h1 := val_lt t (fun x hx => h x (by simp [hx]))
    have h2 := h b (by simp)
    simp only [val, List.length_cons, Nat.pow_succ]
    rcases bit_of h2 with rfl | rfl <;> omega
/-- At most k bits that go in are as if they had been added to the register, and as many zeros had gone in. -/
theorem feed_word {k p : Nat} (hk : 1 ≤ k) (hpk : p < 2 ^ k) : ∀ (bs : List Nat) (r : Nat), bs.length ≤ k → isBits bs → r < 2 ^ k →
    feed k p r bs = feed k p (r ^^^ val bs * 2 ^ (k - bs.length)) (List.replicate bs.length 0)
  | [], r, _, _, _ => by simp [val, feed]
  | b :: t, r, hl, hb, hr => by
    have hb0 := hb b (by simp)
    have hbt : isBits t := fun x hx => hb x (by simp [hx])
    simp only [List.length_cons] at hl
    have ih := feed_word hk hpk t (stp k p r b) (by omega) hbt (stp_lt hpk r b)
    show feed k p (stp k p r b) t = feed k p (stp k p (r ^^^ val (b :: t) * 2 ^ (k - (t.length + 1))) 0) (List.replicate t.length 0)
    rw [ih]
    congr 1
    -- the word's parts
    have hv := val_lt t hbt
    have hpow : 2 ^ t.length * 2 ^ (k - (t.length + 1)) = 2 ^ (k - 1) := by rw [← Nat.pow_add]; congr 1; omega
    have hx : val t * 2 ^ (k - (t.length + 1)) < 2 ^ (k - 1) := by
      rw [← hpow]; exact Nat.mul_lt_mul_of_pos_right hv (Nat.two_pow_pos _)
    have e1 : val (b :: t) * 2 ^ (k - (t.length + 1)) = (b * 2 ^ (k - 1)) ^^^ (val t * 2 ^ (k - (t.length + 1))) := by
      simp only [val, Nat.add_mul, Nat.mul_assoc, hpow]
      rcases bit_of hb0 with rfl | rfl
      · simp
      · rw [Nat.one_mul]
        have := Nat.two_pow_add_eq_or_of_lt hx 1
        rw [Nat.mul_one] at this
        rw [this]
        apply Nat.eq_of_testBit_eq
        intro i
        rw [Nat.testBit_or, Nat.testBit_xor, Nat.testBit_two_pow]
        by_cases hi : k - 1 = i
        · subst hi
          rw [Nat.testBit_lt_two_pow hx]; simp
        · simp [hi]
    rw [e1]
    have e2 : stp k p (r ^^^ (b * 2 ^ (k - 1) ^^^ val t * 2 ^ (k - (t.length + 1)))) 0 = stp k p (r ^^^ b * 2 ^ (k - 1)) 0 ^^^ stp k p (val t * 2 ^ (k - (t.length + 1))) 0 := by
      have := stp_lin (k := k) (p := p) (r := r ^^^ b * 2 ^ (k - 1)) (s := val t * 2 ^ (k - (t.length + 1))) (b := 0) (c := 0) (by omega) (by omega)
      rw [Nat.xor_self, Nat.xor_assoc] at this
      exact this
    have e3 : stp k p (r ^^^ b * 2 ^ (k - 1)) 0 = stp k p r b := by
      have := stp_lin (k := k) (p := p) (r := r) (s := b * 2 ^ (k - 1)) (b := b) (c := b) hb0 hb0
      rw [Nat.xor_self] at this
      rw [this]
      have : stp k p (b * 2 ^ (k - 1)) b = 0 := by
        unfold stp
        have h2 := half2 hk
        rcases bit_of hb0 with rfl | rfl
        · simp
        · rw [Nat.one_mul, h2, Nat.mod_self, Nat.div_self (Nat.two_pow_pos _)]; simp
      rw [this, Nat.xor_zero]
    have e4 : stp k p (val t * 2 ^ (k - (t.length + 1))) 0 = val t * 2 ^ (k - t.length) := by
      unfold stp
      rw [Nat.div_eq_of_lt hx]
      have h2 := half2 hk
      have h3 : 2 * (val t * 2 ^ (k - (t.length + 1))) = val t * 2 ^ (k - t.length) := by
        rw [Nat.mul_left_comm]; congr 1; rw [Nat.mul_comm, ← Nat.pow_succ]; congr 1; omega
      rw [Nat.mod_eq_of_lt (by omega), h3]; simp
    rw [e2, e3, e4]
end Crc
end Go.Proofs.YtcleegibdcphiaaDoor
