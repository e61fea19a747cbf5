/- Several texts in one. -/
import Derived.Test.YtlnkofpcidngoaaDoorM13
import Derived.Test.YtlnkofpcidngoaaDoorM1
import Derived.Test.YtlnkofpcidngoaaDoorM11
import Derived.Test.YtlnkofpcidngoaaDoorM7
/- Layer 11 (feedback), plain: feedback is decoded as it was encoded; a changed byte is noticed. -/
namespace Go.Proofs.YtlnkofpcidngoaaDoor
open Go.ChangeShapes Go.WideShapes Go.ChangeAt Go.RowKit
open Crc

theorem xor_zero_eq {a b : Nat} (h : a ^^^ b = 0) : a = b := by
  have h2 := congrArg (· ^^^ b) h
  simpa [Nat.xor_assoc] using h2
theorem feed8_ne {p : Nat} (hp : p % 2 = 1) (hpk : p < 2 ^ 8) (bs : List Nat) (hb : isBits bs) {s t : Nat} (hs : s < 2 ^ 8) (ht : t < 2 ^ 8) (hne : s ≠ t) : feed 8 p s bs ≠ feed 8 p t bs := by
  intro h
  have h1 := feed_lin 8 p bs bs s t rfl hb hb
  rw [h, Nat.xor_self] at h1
  have hz : List.zipWith (fun a b => a ^^^ b) bs bs = List.replicate bs.length 0 := by
    apply List.ext_getElem?
    intro i
    rw [List.getElem?_zipWith, List.getElem?_replicate]
    by_cases hi : i < bs.length
    · rw [if_pos hi, List.getElem?_eq_getElem hi]; simp
    · rw [if_neg hi, List.getElem?_eq_none (by omega)]
  have h2 := feed_zeros (k := 8) (by omega) hp hpk bs.length (s ^^^ t) (xor_lt hs ht) (by rw [← hz]; exact h1)
  exact hne (xor_zero_eq h2)
theorem feed8_zero : ∀ d : Fin 256, feed 8 7 0 (bits8 d.val) = 0 → d.val = 0 := by decide +kernel
theorem feed8_byte {s x y : Nat} (hx : x < 256) (hy : y < 256) (hne : x ≠ y) : feed 8 7 s (bits8 x) ≠ feed 8 7 s (bits8 y) := by
  intro h
  have h1 := feed_lin 8 7 (bits8 x) (bits8 y) s s rfl (bits8_bits x) (bits8_bits y)
  rw [h, Nat.xor_self, Nat.xor_self] at h1
  have h2 : feed 8 7 0 (bits8 (x ^^^ y)) = 0 := by rw [bits8_xor]; exact h1
  have hlt : x ^^^ y < 2 ^ 8 := Nat.xor_lt_two_pow (by omega) (by omega)
  have h3 := feed8_zero ⟨x ^^^ y, by omega⟩ h2
  exact hne (xor_zero_eq h3)
theorem feed8_set : ∀ (xs : List Int) (q : Nat) (y : Int) (s : Nat), s < 2 ^ 8 → q < xs.length → (∀ x ∈ xs, 0 ≤ x ∧ x ≤ 255) → 0 ≤ y → y ≤ 255 → xs[q]?.getD 0 ≠ y → feed 8 7 s (bitsI (xs.set q y)) ≠ feed 8 7 s (bitsI xs)
  | a :: r, 0, y, s, hs, _, hb, h0, h1, hne => by
    have ha := hb a (by simp)
    have hab : a ≠ y := by simpa using hne
    simp only [List.set_cons_zero, bitsI_cons, feed_append]
    refine feed8_ne (by decide) (by decide) _ (by intro b hb'; simp only [bitsI, List.mem_flatMap] at hb'; obtain ⟨z, _, hz⟩ := hb'; exact bits8_bits _ b hz) (feed_lt (by decide) _ _ hs) (feed_lt (by decide) _ _ hs) (feed8_byte (by omega) (by omega) (by omega))
  | a :: r, q + 1, y, s, hs, hq, hb, h0, h1, hne => by
    simp only [List.set_cons_succ, bitsI_cons, feed_append]
    exact feed8_set r q y _ (feed_lt (by decide) _ _ hs) (by simpa using hq) (fun x hx => hb x (by simp [hx])) h0 h1 (by simpa using hne)
theorem sum8_set {xs : List Int} {q : Nat} {y : Int} (hq : q < xs.length) (hb : ∀ x ∈ xs, 0 ≤ x ∧ x ≤ 255) (h0 : 0 ≤ y) (h1 : y ≤ 255) (hne : xs[q]?.getD 0 ≠ y) : sumV 8 (xs.set q y) ≠ sumV 8 xs := by
  have hk : isKind 8 := by decide
  have h := feed8_set xs q y 255 (by decide) hq hb h0 h1 hne
  unfold sumV
  rw [if_pos hk, if_pos hk]
  intro e
  have e2 : regN 8 (Crc.top 8) (xs.set q y) = regN 8 (Crc.top 8) xs := by exact_mod_cast e
  exact h e2
theorem enc_dec {c k n : Int} (h : fbB c k n = true) : decF (encL c k n ++ [sumV 8 (encL c k n)]) = (c, k, n, 0) := by
  obtain ⟨h1, h2, h3, h4, h5, h6⟩ := fb_yes h
  unfold encL
  by_cases hc : 0 < c
  · rw [if_pos hc]
    obtain ⟨S, hS⟩ : ∃ S, sumV 8 ([224 + c] ++ [240 + k, n / 256, n % 256]) = S := ⟨_, rfl⟩
    rw [hS]
    simp only [List.cons_append, List.nil_append] at hS ⊢
    have d1 : (224 + c) / 16 = 14 := by omega
    have d2 : (224 + c) % 16 = c := by omega
    have d3 : 240 + k - 240 = k := by omega
    have d4 : 256 * (n / 256) + n % 256 = n := by omega
    simp only [decF, decT, xat, List.length_cons, List.length_nil, List.getElem?_cons_zero, List.getElem?_cons_succ, Option.getD_some, List.take_succ_cons, List.take_zero, d1, d2, d3, d4, h, hS]
    rw [if_neg (by omega), if_pos trivial, if_neg (by omega), if_neg (by simp; omega), if_pos trivial]
  · have hc0 : c = 0 := by omega
    subst hc0
    rw [if_neg hc]
    obtain ⟨S, hS⟩ : ∃ S, sumV 8 ([] ++ [240 + k, n / 256, n % 256]) = S := ⟨_, rfl⟩
    rw [hS]
    simp only [List.cons_append, List.nil_append] at hS ⊢
    have d1 : (240 + k) / 16 = 15 := by omega
    have d3 : 240 + k - 240 = k := by omega
    have d4 : 256 * (n / 256) + n % 256 = n := by omega
    simp only [decF, decT, xat, List.length_cons, List.length_nil, List.getElem?_cons_zero, List.getElem?_cons_succ, Option.getD_some, List.take_succ_cons, List.take_zero, d1, d3, d4, h, hS]
    rw [if_neg (by omega), if_neg (by omega), if_neg (by omega), if_neg (by simp), if_pos trivial]
theorem dec_bad (xs : List Int) (L : Nat) (c : Int) (h : sumV 8 (xs.take (L + 3)) ≠ xat xs (L + 3) ∨ xs.length ≠ L + 4) : ∃ E, E ≠ 0 ∧ decT L c xs = (0, 0, 0, E) := by
  unfold decT
  split
  · exact ⟨5, by decide, rfl⟩
  · split
    · exact ⟨4, by decide, rfl⟩
    · rename_i h1 h2
      rcases h with h | h
      · rw [if_neg h]; exact ⟨6, by decide, rfl⟩
      · exfalso
        apply h2
        left; omega
/-- A changed byte is noticed. -/
theorem enc_chg {c k n : Int} (h : fbB c k n = true) {xs : List Int} (hx : encL c k n ++ [sumV 8 (encL c k n)] = xs) {q : Nat} {y : Int} (hq : q < xs.length) (h0 : 0 ≤ y) (h1 : y ≤ 255) (hne : xs[q]?.getD 0 ≠ y) : ∃ E, E ≠ 0 ∧ decF (xs.set q y) = (0, 0, 0, E) := by
  have hby := encL_bytes h
  have hlen : (encL c k n).length = (if 0 < c then 4 else 3) := by unfold encL; split <;> simp
  have hxl : xs.length = (encL c k n).length + 1 := by rw [← hx]; simp
  have hbad : ∀ L, xs.length = L + 4 → sumV 8 ((xs.set q y).take (L + 3)) ≠ xat (xs.set q y) (L + 3) := by
    intro L hL
    have hel : (encL c k n).length = L + 3 := by omega
    have htk : xs.take (L + 3) = encL c k n := by rw [← hx, List.take_left' hel]
    have hla : xat xs (L + 3) = sumV 8 (encL c k n) := by unfold xat; rw [← hx, List.getElem?_append_right (by omega), hel]; simp
    by_cases hq3 : q < L + 3
    · have e1 : (xs.set q y).take (L + 3) = (encL c k n).set q y := by rw [← htk, List.take_set]
      have e2 : xat (xs.set q y) (L + 3) = sumV 8 (encL c k n) := by
        rw [← hla]
        unfold xat
        rw [List.getElem?_set_ne (by omega)]
      rw [e1, e2]
      refine sum8_set (by omega) hby h0 h1 ?_
      have e3 : (encL c k n)[q]? = xs[q]? := by rw [← hx, List.getElem?_append_left (by omega)]
      rw [e3]; exact hne
    · have hq4 : q = L + 3 := by omega
      have e1 : (xs.set q y).take (L + 3) = encL c k n := by rw [← htk, List.take_set_of_le (by omega)]
      have e2 : xat (xs.set q y) (L + 3) = y := by
        unfold xat
        rw [hq4, List.getElem?_set_self (by omega)]; rfl
      rw [e1, e2, ← hla]
      unfold xat
      rw [← hq4]; exact hne
  have hl2 : (xs.set q y).length = xs.length := by simp
  unfold decF
  rw [if_neg (by rw [hl2]; omega)]
  split
  · by_cases h5 : xs.length = 1 + 4
    · exact dec_bad _ 1 _ (.inl (hbad 1 h5))
    · exact dec_bad _ 1 _ (.inr (by rw [hl2]; exact h5))
  · by_cases h5 : xs.length = 0 + 4
    · exact dec_bad _ 0 _ (.inl (hbad 0 h5))
    · exact dec_bad _ 0 _ (.inr (by rw [hl2]; exact h5))
end Go.Proofs.YtlnkofpcidngoaaDoor
/- Rows of structs: k cells an element. Over any program. -/
namespace Go.Proofs.YtlnkofpcidngoaaDoor
open Go.ChangeShapes Go.WideShapes Go.ChangeAt Go.RowKit

section
variable {α : Type} {f : α → List Value} {k : Nat}
theorem flat_lenG (hk : ∀ x, (f x).length = k) : ∀ l : List α, (l.flatMap f).length = l.length * k
  | [] => by simp
  | y :: l => by rw [List.flatMap_cons, List.length_append, hk y, flat_lenG hk l, List.length_cons, Nat.add_mul]; omega
theorem flat_atG (hk : ∀ x, (f x).length = k) : ∀ (l : List α) (i j : Nat) (x : α), l[i]? = some x → j < k → (l.flatMap f)[i * k + j]? = (f x)[j]?
  | [], i, j, x, h, _ => by simp at h
  | y :: l, 0, j, x, h, hj => by
    simp at h; subst h
    rw [List.flatMap_cons, Nat.zero_mul, Nat.zero_add, List.getElem?_append_left (by rw [hk y]; exact hj)]
  | y :: l, i + 1, j, x, h, hj => by
    have ih := flat_atG hk l i j x (by simpa using h) hj
    rw [List.flatMap_cons, List.getElem?_append_right (by rw [hk y, Nat.add_mul]; omega), hk y, ← ih]
    congr 1
    rw [Nat.add_mul]; omega
theorem flat_take (hk : ∀ x, (f x).length = k) (l : List α) (m : Nat) (hm : m ≤ l.length) : (l.take m).flatMap f = (l.flatMap f).take (m * k) := by
  have h5 : (l.take m).flatMap f ++ (l.drop m).flatMap f = l.flatMap f := by rw [← List.flatMap_append, List.take_append_drop]
  have h6 : ((l.take m).flatMap f).length = m * k := by rw [flat_lenG hk]; simp; rw [Nat.min_eq_left hm]
  rw [← h5, ← h6, List.take_left]
theorem flat_drop (hk : ∀ x, (f x).length = k) (l : List α) (m : Nat) (hm : m ≤ l.length) : (l.drop m).flatMap f = (l.flatMap f).drop (m * k) := by
  have h5 : (l.take m).flatMap f ++ (l.drop m).flatMap f = l.flatMap f := by rw [← List.flatMap_append, List.take_append_drop]
  have h6 : ((l.take m).flatMap f).length = m * k := by rw [flat_lenG hk]; simp; rw [Nat.min_eq_left hm]
  rw [← h5, ← h6, List.drop_left]
theorem lt_someG {l : List α} {i : Nat} {x : α} (h : l[i]? = some x) : i < l.length := by
  rcases Nat.lt_or_ge i l.length with h1 | h1
  · exact h1
  · rw [List.getElem?_eq_none h1] at h; cases h
/-- Where the elements of a row lie. -/
theorem seg_row (hk : ∀ x, (f x).length = k) (h0 : 0 < k) {w : World} {a : Option Addr} {l : List α} (h : Seg w a (l.flatMap f)) (hn : 0 < l.length) :
    ∃ b off, a = some ⟨b, off, none⟩ ∧ b < w.heap.size ∧ ∀ i x, l[i]? = some x → w.rangeAt b (off + i * k) (f x) := by
  rcases h with h1 | ⟨b, off, e, hb, hc⟩
  · exfalso
    have h2 := flat_lenG hk l
    rw [h1, List.length_nil] at h2
    have := Nat.mul_pos hn h0
    omega
  · refine ⟨b, off, e, hb, fun i x hi j v hv => ?_⟩
    have hj : j < k := by rw [← hk x]; exact lt_someG hv
    have hil := lt_someG hi
    have h1 := flat_atG hk l i j x hi hj
    rw [Nat.add_assoc, hc (i * k + j) (by rw [flat_lenG hk]; have := Nat.mul_le_mul_right k hil; rw [Nat.succ_mul] at this; omega), h1]
    exact hv
theorem seg_kept {w w' : World} {a : Option Addr} {vs : List Value} (h : Seg w a vs) (hg : Gr w w') : Seg w' a vs := by
  rcases h with h | ⟨b, off, e, hb, hc⟩
  · exact .inl h
  · refine .inr ⟨b, off, e, Nat.lt_of_lt_of_le hb hg.size, fun i hi => ?_⟩
    have h1 := hc i hi
    rw [List.getElem?_eq_getElem hi] at h1 ⊢
    exact hg.cell h1
theorem seg_but {w w' : World} {r : Option Nat} {a : Option Addr} {vs : List Value} (h : Seg w a vs) (hg : w.grownBy w' r) (hr : ∀ b off, vs ≠ [] → a = some ⟨b, off, none⟩ → some b ≠ r) : Seg w' a vs := by
  rcases h with h | ⟨b, off, e, hb, hc⟩
  · exact .inl h
  · by_cases hv : vs = []
    · exact .inl hv
    · refine .inr ⟨b, off, e, Nat.lt_of_lt_of_le hb hg.size, fun i hi => ?_⟩
      rw [← hc i hi]
      have hbk := hg.block b hb (hr b off hv e)
      unfold World.cell?
      simp only [hbk]
theorem seg_take (hk : ∀ x, (f x).length = k) {w : World} {a : Option Addr} {l : List α} (h : Seg w a (l.flatMap f)) (m : Nat) (hm : m ≤ l.length) : Seg w a ((l.take m).flatMap f) := by
  rw [flat_take hk l m hm]
  rcases h with h0 | ⟨b, off, e2, hb, hc⟩
  · left; rw [h0]; simp
  · right
    refine ⟨b, off, e2, hb, fun i hi => ?_⟩
    have hi2 : i < m * k ∧ i < (l.flatMap f).length := by rw [List.length_take] at hi; omega
    rw [hc i hi2.2, List.getElem?_take_of_lt hi2.1]
theorem seg_drop (hk : ∀ x, (f x).length = k) {w : World} {b off : Nat} {l : List α} (h : Seg w (some ⟨b, off, none⟩) (l.flatMap f)) (m : Nat) (hm : m ≤ l.length) : Seg w (some ⟨b, off + m * k, none⟩) ((l.drop m).flatMap f) := by
  rw [flat_drop hk l m hm]
  rcases h with h0 | ⟨b', off', e2, hb, hc⟩
  · left; rw [h0]; simp
  · right
    injection e2 with e2
    injection e2 with e3 e4
    subst e3 e4
    refine ⟨b, off + m * k, rfl, hb, fun i hi => ?_⟩
    rw [List.length_drop] at hi
    rw [Nat.add_assoc, hc (m * k + i) (by omega), List.getElem?_drop]
/-- An owned row reads. -/
theorem own_segG {w : World} {B : Nat} {e : TypeId} {size : Nat} {a : Option Addr} {n cap : Nat} {vs : List Value} (h : w.ownsRow B e size (.slice a n cap) n vs) : Seg w a vs := by
  have hl := h.1
  rcases h.2 with ⟨hv, h0⟩ | ⟨g, cap', cur, hv, hb, hg, hn, hm, hs, ht⟩
  · left
    rw [h0, Nat.zero_mul] at hl
    exact List.eq_nil_of_length_eq_zero hl
  · injection hv with e1 e2 e3
    subst e1
    right
    refine ⟨g, 0, rfl, ?_, fun i hi => ?_⟩
    · rcases Nat.lt_or_ge g w.heap.size with h1 | h1
      · exact h1
      · rw [Array.getElem?_eq_none h1] at hg; cases hg
    · have hc := h.cells (g := g) rfl i vs[i] (by simp [hi])
      rw [addr_add] at hc
      rw [hc]; simp [hi]
theorem own_capG {w : World} {B : Nat} {e : TypeId} {size : Nat} {a : Option Addr} {n cap : Nat} {vs : List Value} (h : w.ownsRow B e size (.slice a n cap) n vs) : n ≤ cap ∧ cap ≤ maxLen ∧ (a = none → n = 0 ∧ cap = 0) := by
  rcases h.2 with ⟨hv, h0⟩ | ⟨g, cap', cur, hv, _, _, hn, hm, _⟩
  · injection hv with e1 e2 e3; subst h0 e3; exact ⟨Nat.le_refl _, by simp [maxLen], fun _ => ⟨rfl, rfl⟩⟩
  · injection hv with e1 e2 e3
    subst e1 e3
    exact ⟨hn, hm, fun h => by cases h⟩
theorem own_blockG {w : World} {B : Nat} {e : TypeId} {size : Nat} {a : Option Addr} {n cap : Nat} {vs : List Value} (h : w.ownsRow B e size (.slice a n cap) n vs) {b off : Nat} (ha : a = some ⟨b, off, none⟩) : off = 0 ∧ (Value.slice a n cap).ownBlock = some b ∧ B ≤ b ∧ b < w.heap.size := by
  rcases h.2 with ⟨hv, h0⟩ | ⟨g, cap', cur, hv, hb, hg, _⟩
  · injection hv with e1 e2 e3; rw [ha] at e1; cases e1
  · injection hv with e1 e2 e3
    subst e1
    injection ha with ha
    injection ha with h1 h2
    subst h1 h2
    refine ⟨rfl, rfl, hb, ?_⟩
    rcases Nat.lt_or_ge g w.heap.size with h1 | h1
    · exact h1
    · rw [Array.getElem?_eq_none h1] at hg; cases hg
theorem own_weakG {w : World} {B B' : Nat} {e : TypeId} {size : Nat} {a : Option Addr} {n cap : Nat} {vs : List Value} (h : w.ownsRow B e size (.slice a n cap) n vs) (hB : B' ≤ B) : w.ownsRow B' e size (.slice a n cap) n vs := by
  refine ⟨h.1, ?_⟩
  rcases h.2 with h0 | ⟨g, cap', cur, hv, hb, hr⟩
  · exact .inl h0
  · exact .inr ⟨g, cap', cur, hv, by omega, hr⟩
theorem own_stayG {w w' : World} {B : Nat} {e : TypeId} {size : Nat} {a : Option Addr} {n cap : Nat} {vs : List Value} (h : w.ownsRow B e size (.slice a n cap) n vs) (hg : Gr w w') : w'.ownsRow B e size (.slice a n cap) n vs :=
  h.kept hg (by cases hv : (Value.slice a n cap).ownBlock <;> simp)
theorem grown_ownG {w0 w1 w2 : World} {B : Nat} {e : TypeId} {size : Nat} {a : Option Addr} {n cap : Nat} {vs : List Value} (h : Gr w0 w1) (ho : w1.ownsRow B e size (.slice a n cap) n vs) (hB : w0.heap.size ≤ B) (hg : w1.grownBy w2 (Value.slice a n cap).ownBlock) : Gr w0 w2 := by
  refine grownBy_trans h hg ?_
  cases hv : (Value.slice a n cap).ownBlock with
  | none => exact .inr (.inl rfl)
  | some g => exact .inr (.inr ⟨g, rfl, by have := (ho.lt g hv).1; omega⟩)
/-! ### a store in the middle of a row -/
theorem setM_left {β : Type} : ∀ (vs A B : List β) (j : Nat), j + vs.length ≤ A.length → setM (A ++ B) j vs = setM A j vs ++ B
  | [], A, B, j, _ => rfl
  | v :: r, A, B, j, h => by
    simp only [List.length_cons] at h
    unfold setM
    rw [List.set_append_left _ _ (by omega), setM_left r (A.set j v) B (j + 1) (by simp; omega)]
theorem setM_right {β : Type} : ∀ (vs A B : List β) (j : Nat), setM (A ++ B) (A.length + j) vs = A ++ setM B j vs
  | [], A, B, j => rfl
  | v :: r, A, B, j => by
    unfold setM
    rw [List.set_append_right _ _ (by omega), show A.length + j - A.length = j by omega, show A.length + j + 1 = A.length + (j + 1) by omega, setM_right r A (B.set j v) (j + 1)]
theorem setM_flat (hk : ∀ x, (f x).length = k) : ∀ (l : List α) (i j : Nat) (x y : α) (vs : List Value), l[i]? = some x → j + vs.length ≤ k → setM (f x) j vs = f y → setM (l.flatMap f) (i * k + j) vs = (l.set i y).flatMap f
  | [], i, j, x, y, vs, h, _, _ => by simp at h
  | z :: l, 0, j, x, y, vs, h, hj, hs => by
    simp at h; subst h
    rw [List.flatMap_cons, Nat.zero_mul, Nat.zero_add, setM_left _ _ _ _ (by rw [hk z]; exact hj), hs]
    simp
  | z :: l, i + 1, j, x, y, vs, h, hj, hs => by
    have ih := setM_flat hk l i j x y vs (by simpa using h) hj hs
    rw [List.flatMap_cons, show (i + 1) * k + j = (f z).length + (i * k + j) by rw [hk z, Nat.add_mul]; omega, setM_right, ih]
    simp
/-- A store into an element of an owned row. -/
theorem own_set (hk : ∀ x, (f x).length = k) {w : World} {B : Nat} {e : TypeId} {g n cap : Nat} {l : List α} (h : w.ownsRow B e k (.slice (some ⟨g, 0, none⟩) n cap) n (l.flatMap f)) (i j : Nat) (x y : α) (vs : List Value) (hi : l[i]? = some x) (hj : j + vs.length ≤ k) (hs : setM (f x) j vs = f y) :
    (w.setCells g (i * k + j) vs).ownsRow B e k (.slice (some ⟨g, 0, none⟩) n cap) n ((l.set i y).flatMap f) := by
  have := own_setCells vs (i * k + j) w _ h
  rw [setM_flat hk l i j x y vs hi hj hs] at this
  exact this
theorem own_thereG (hk : ∀ x, (f x).length = k) {w : World} {B : Nat} {e : TypeId} {g n cap : Nat} {l : List α} (h : w.ownsRow B e k (.slice (some ⟨g, 0, none⟩) n cap) n (l.flatMap f)) (i : Nat) (hi : i < l.length) (j m : Nat) (hj : j + m ≤ k) : w.there g (i * k + j) m := by
  refine there_own h ?_
  rw [flat_lenG hk]
  have := Nat.mul_le_mul_right k hi
  rw [Nat.succ_mul] at this
  omega
/-- An append onto an owned row. -/
theorem app_rowG {P : Program} (hk : ∀ x, (f x).length = k) (h1 : ∀ x, ∀ v ∈ f x, v.oneCell' = true) (B : Nat) (t ty e : TypeId) (i : TypeInfo) (z : Value) (bytes : Nat) (ht : P.underlying t = some (.slice e)) (hi : P.info? e = some i) (hz : i.zero = some z)
    (hsize : i.size = k) (hby : i.bytes = bytes) (hzs : z.cells.size = k) (hsz : 0 < k) (w : World) (a : Option Addr) (n cap : Nat) (l : List α) (hown : w.ownsRow B e k (.slice a n cap) n (l.flatMap f))
    (b : Option Addr) (m c : Nat) (r : List α) (hr : r.length = m) (hseg : Seg w b (r.flatMap f)) (hnil : b = none → m = 0 ∧ c = 0) (h63 : n + m ≤ maxLen) (hbytes : (n + m) * bytes ≤ 140737488355328) (hB : B ≤ w.heap.size) :
    ∃ a' cap' w', (Builtin.append_ #[t, t] ty #[.slice a n cap, .slice b m c]).run P w = .ok (.slice a' (n + m) cap') w' ∧ w'.ownsRow B e k (.slice a' (n + m) cap') (n + m) ((l ++ r).flatMap f) ∧ w.grownBy w' (Value.slice a n cap).ownBlock ∧ Follows w (.slice a n cap) (.slice a' (n + m) cap') := by
  obtain ⟨v', w', hr', ho, hg, hf, -⟩ := run_app (P := P) B t ty e i z k bytes ht hi hz hsize hby hzs hsz w _ n _ hown b m c (r.flatMap f) (by rw [flat_lenG hk, hr]) hseg (by
    intro u hu
    obtain ⟨x, _, hu⟩ := List.mem_flatMap.1 hu
    exact h1 x u hu) hnil h63 hbytes hB
  have hv : ∃ a' cap', v' = .slice a' (n + m) cap' := by
    rcases ho.2 with ⟨hv, h0⟩ | ⟨g, cap', cur, rfl, _⟩
    · exact ⟨none, 0, by rw [hv, h0]⟩
    · exact ⟨_, _, rfl⟩
  obtain ⟨a', cap', rfl⟩ := hv
  exact ⟨a', cap', w', hr', by rw [List.flatMap_append]; exact ho, hg, hf⟩
end
end Go.Proofs.YtlnkofpcidngoaaDoor
/- Layer 06 (flow): Learn of the program. -/
namespace Go.Proofs.YtlnkofpcidngoaaDoor
open Go.ChangeShapes Go.WideShapes Go.ChangeAt Go.RowKit

theorem wpList_load_w {P : Program} {ops : Array Oper} {rest : List Oper} {o : Oper} {a : Act} {w : World} {Q : Exit → Act → World → Prop} (hw : Region.wanted o (yielded ops a.tmps) = true) (ty : TypeId) (x : Operand) (ho : o.op = .load ty x)
    (g : Nat) (hx : a.eval x = .pointer (some ⟨g, 0, none⟩)) (t : TypeId) (cs : Array Value) (fr : Nat × Nat) (d : TypeDesc) (hg : w.heap[g]? = some (.cells cs t fr))
    (hu : P.underlying ty = some d) (hd : (match d with | .struct _ | .array _ _ => true | _ => false) = true) (hi : (P.info? ty).map (·.size) = some cs.size)
    (h : wpList P ops Q rest (a.put o.dst (.agg cs)) w) : wpList P ops Q (o :: rest) a w := by
  unfold wpList
  rw [if_pos hw]
  left
  exact wp_load_row ty x ho g hx t cs fr d hg hu hd hi h
def lrnB (a b : Hdr) : Bool := validH a && (validH b && (a.kind == 2 && sameB a b))
def strS (s t : Int) : Int := if s ≠ 0 ∧ t.tmod s = 0 ∧ 0 ≤ t.tdiv s ∧ t.tdiv s ≤ 65535 then t.tdiv s else 0
def stpH (a b : Hdr) : Int := signedS 16 (numH a) (numH b)
def learnS (a b : Hdr) : Int := if lrnB a b then strS (stpH a b) (signedS 32 a.time b.time) else 0
def learnF (a b : Hdr) : Int := if lrnB a b && (b.id == lowS 16 (a.id + stpH a b)) then 1 else 0
theorem same_is {a b : Hdr} {V : Bool} (hv : sameB a b = V) (w : World) : Calls Tryd.prog 71 #[HVal a, HVal b] w fun e w' => e = .returned (.bool V) ∧ Gr w w' := hv ▸ same_any a b w
def DBlk (g : Nat) (s f : Int) (w : World) : Prop := w.heap[g]? = some (.cells #[.int .i64 s, .int .i64 f] 43 (0, 0))
theorem DBlk.kept {g : Nat} {s f : Int} {w w' : World} (hb : DBlk g s f w) (hg : Gr w w') : DBlk g s f w' := by
  unfold DBlk; rw [hg.block _ (heap_lt hb) (by simp)]; exact hb
theorem DBlk.c0 {g : Nat} {s f : Int} {w : World} (hb : DBlk g s f w) : w.cell? ⟨g, 0, none⟩ = some (.int .i64 s) := by rw [cell_of_block hb]; rfl
theorem DBlk.c1 {g : Nat} {s f : Int} {w : World} (hb : DBlk g s f w) : w.cell? ⟨g, 1, none⟩ = some (.int .i64 f) := by rw [cell_of_block hb]; rfl
theorem DBlk.fz {g : Nat} {s f : Int} {w : World} (hb : DBlk g s f w) (i : Nat) : w.frozen? ⟨g, i, none⟩ = false := frozen_of_block hb i
theorem DBlk.set0 {g : Nat} {s f : Int} {w : World} (hb : DBlk g s f w) (u : Int) : DBlk g u f (w.setCell ⟨g, 0, none⟩ (.int .i64 u)) := by
  unfold DBlk; rw [heap_setCell_eq hb 0]; rfl
theorem DBlk.set1 {g : Nat} {s f : Int} {w : World} (hb : DBlk g s f w) (u : Int) : DBlk g s u (w.setCell ⟨g, 1, none⟩ (.int .i64 u)) := by
  unfold DBlk; rw [heap_setCell_eq hb 1]; rfl
theorem DBlk.other {g p : Nat} {s f : Int} {w : World} (hb : DBlk g s f w) (i : Nat) (v : Value) (hne : g ≠ p) : DBlk g s f (w.setCell ⟨p, i, none⟩ v) := by
  unfold DBlk; rw [heap_setCell_ne _ _ _ _ hne]; exact hb
theorem tdiv_rng {s t : Int} (h1 : -4294967296 ≤ t) (h2 : t ≤ 4294967296) : -4294967296 ≤ t.tdiv s ∧ t.tdiv s ≤ 4294967296 := by
  have h := Int.natAbs_tdiv t s
  have h3 : (t.tdiv s).natAbs ≤ t.natAbs := by rw [h]; exact Nat.div_le_self _ _
  omega
-- the end of a way that says: nothing learnt
end Go.Proofs.YtlnkofpcidngoaaDoor
/- Layer 06 (flow): Learn of the reference. -/
namespace Go.Proofs.YtlnkofpcidngoaaDoor
open Go.ChangeShapes Go.WideShapes Go.ChangeAt Go.RowKit

theorem rsame_is {a b : Hdr} {V : Bool} (hv : sameB a b = V) (w : World) : Calls Tryd.prog 50 #[HVal a, HVal b] w fun e w' => e = .returned (.bool V) ∧ Gr w w' := hv ▸ rsame_any a b w
theorem rlearn_stride (st q tm : Int) : (if (st != 0 && tm.tmod st == 0 && decide (0 ≤ q) && decide (q ≤ 65535)) = true then q else 0) = if st ≠ 0 ∧ tm.tmod st = 0 ∧ 0 ≤ q ∧ q ≤ 65535 then q else 0 := by
  by_cases h1 : st = 0
  · simp [h1]
  · by_cases h2 : tm.tmod st = 0
    · by_cases h3 : 0 ≤ q <;> by_cases h4 : q ≤ 65535 <;> simp [h1, h2, h3, h4]
    · simp [h1, h2]
-- the end of a way that says: nothing learnt
set_option maxRecDepth 100000 in
set_option maxHeartbeats 4000000 in
theorem rlearn_any (a b : Hdr) (w : World) : Calls Tryd.prog 38 #[HVal a, HVal b] w fun e w' => e = .returned (DVal (learnS a b) (learnF a b)) ∧ Gr w w' := by
  go_enter Tryd.func38, Tryd.ntmps38
  go_upto_region 1 with (fail)
  obtain ⟨w1, hw1⟩ : ∃ y, y = ((w.alloc (.cells (HCells a).toArray 49)).alloc (.cells (HCells b).toArray 49)).alloc (.cells #[.int .i64 0, .int .i64 0] 43) := ⟨_, rfl⟩
  obtain ⟨ha1, hb1, hd1⟩ : HBlk w.heap.size a w1 ∧ HBlk (w.heap.size + 1) b w1 ∧ DBlk (w.heap.size + 1 + 1) 0 0 w1 := by rw [hw1]; exact blocks3 _ _ _ _
  have hg1 : Gr w w1 := by rw [hw1]; exact (Gr.alloc _ _).trans ((Gr.alloc _ _).trans (Gr.alloc _ _))
  simp only [HCells] at hw1
  rw [← hw1]
  have HA1 := Lib.hid ha1
  have HB1 := Lib.hid hb1
  have HD1 := Lib.hid hd1
  have HG1 := Lib.hid hg1
  have ha1' := ha1
  unfold HBlk at ha1'
  have HA1' := Lib.hid ha1'
  clear hw1 ha1 hb1 hd1 hg1 ha1'
  obtain ⟨V1, hV1⟩ : ∃ V, validH a = V := ⟨_, rfl⟩
  obtain ⟨V2, hV2⟩ : ∃ V, validH b = V := ⟨_, rfl⟩
  obtain ⟨V4, hV4⟩ : ∃ V, sameB a b = V := ⟨_, rfl⟩
  have HV1 := Lib.hid hV1
  have HV2 := Lib.hid hV2
  have HV4 := Lib.hid hV4
  clear hV1 hV2 hV4
  go_wp2_with (refine wpList_load_w rfl 49 _ rfl w.heap.size rfl 49 _ _ _ HA1'.out Tryd.underlying49 rfl (by kernel_rfl) ?_)
  refine (rvalid_is HV1.out w1).mono ?_
  rintro e w2 ⟨rfl, hg2⟩
  have HA2 := Lib.hid (HA1.out.kept hg2)
  have HB2 := Lib.hid (HB1.out.kept hg2)
  have HD2 := Lib.hid (HD1.out.kept hg2)
  have HG2 := Lib.hid (HG1.out.trans hg2)
  have hb2' := HB2.out
  unfold HBlk at hb2'
  have HB2' := Lib.hid hb2'
  clear hg2 hb2' HA1 HA1' HB1 HD1 HG1
  cases V1
  · have hl : lrnB a b = false := by unfold lrnB; rw [HV1.out]; rfl
    have HRES := Lib.hid (show Ending.returned (DVal 0 0) = .returned (DVal (learnS a b) (learnF a b)) by unfold learnS learnF; rw [hl]; rfl)
    clear hl
    have hd0 := (HD2.out)
    have HGE := Lib.hid (grown_set (grown_set (HG2.out) (a := ⟨w.heap.size + 1 + 1, 0, none⟩) (show w.heap.size ≤ w.heap.size + 1 + 1 by omega) (.int .i64 0)) (a := ⟨w.heap.size + 1 + 1, 1, none⟩) (show w.heap.size ≤ w.heap.size + 1 + 1 by omega) (.int .i64 0))
    have HBE := Lib.hid ((hd0.set0 0).set1 0)
    have z0 := hd0.c0
    have z1 := hd0.c1
    have g0 := hd0.fz 0
    have g1 := hd0.fz 1
    clear hd0
    go_wp2_with fail
    have hbe := HBE.out
    unfold DBlk at hbe
    exact bodyPost_ret (v := DVal 0 0) (results_cell_row Tryd.results38 _ _ (w.heap.size + 1 + 1) _ _ _ _ rfl hbe Tryd.underlying43 rfl (by kernel_rfl)) rfl ⟨HRES.out, HGE.out⟩
  go_wp2_with (refine wpList_load_w rfl 49 _ rfl (w.heap.size + 1) rfl 49 _ _ _ HB2'.out Tryd.underlying49 rfl (by kernel_rfl) ?_)
  refine (rvalid_is HV2.out w2).mono ?_
  rintro e w3 ⟨rfl, hg3⟩
  have HA3 := Lib.hid (HA2.out.kept hg3)
  have HB3 := Lib.hid (HB2.out.kept hg3)
  have HD3 := Lib.hid (HD2.out.kept hg3)
  have HG3 := Lib.hid (HG2.out.trans hg3)
  clear hg3 HA2 HB2' HB2 HD2 HG2
  cases V2
  · have hl : lrnB a b = false := by unfold lrnB; rw [HV1.out, HV2.out]; rfl
    have HRES := Lib.hid (show Ending.returned (DVal 0 0) = .returned (DVal (learnS a b) (learnF a b)) by unfold learnS learnF; rw [hl]; rfl)
    clear hl
    have hd0 := (HD3.out)
    have HGE := Lib.hid (grown_set (grown_set (HG3.out) (a := ⟨w.heap.size + 1 + 1, 0, none⟩) (show w.heap.size ≤ w.heap.size + 1 + 1 by omega) (.int .i64 0)) (a := ⟨w.heap.size + 1 + 1, 1, none⟩) (show w.heap.size ≤ w.heap.size + 1 + 1 by omega) (.int .i64 0))
    have HBE := Lib.hid ((hd0.set0 0).set1 0)
    have z0 := hd0.c0
    have z1 := hd0.c1
    have g0 := hd0.fz 0
    have g1 := hd0.fz 1
    clear hd0
    go_wp2_with fail
    have hbe := HBE.out
    unfold DBlk at hbe
    exact bodyPost_ret (v := DVal 0 0) (results_cell_row Tryd.results38 _ _ (w.heap.size + 1 + 1) _ _ _ _ rfl hbe Tryd.underlying43 rfl (by kernel_rfl)) rfl ⟨HRES.out, HGE.out⟩
  have k0 : w3.cell? ⟨w.heap.size, 0, none⟩ = some (.int .i64 a.kind) := HA3.out.at 0 rfl
  by_cases hk : a.kind = 2
  rotate_left
  · have hl : lrnB a b = false := by unfold lrnB; rw [HV1.out, HV2.out, show (a.kind == 2) = false by simpa using hk]; rfl
    have HRES := Lib.hid (show Ending.returned (DVal 0 0) = .returned (DVal (learnS a b) (learnF a b)) by unfold learnS learnF; rw [hl]; rfl)
    have hkb : (a.kind != 2) = true := by simpa using hk
    clear hl hk
    have hd0 := (HD3.out)
    have HGE := Lib.hid (grown_set (grown_set (HG3.out) (a := ⟨w.heap.size + 1 + 1, 0, none⟩) (show w.heap.size ≤ w.heap.size + 1 + 1 by omega) (.int .i64 0)) (a := ⟨w.heap.size + 1 + 1, 1, none⟩) (show w.heap.size ≤ w.heap.size + 1 + 1 by omega) (.int .i64 0))
    have HBE := Lib.hid ((hd0.set0 0).set1 0)
    have z0 := hd0.c0
    have z1 := hd0.c1
    have g0 := hd0.fz 0
    have g1 := hd0.fz 1
    clear hd0
    go_wp2_with fail
    have hbe := HBE.out
    unfold DBlk at hbe
    exact bodyPost_ret (v := DVal 0 0) (results_cell_row Tryd.results38 _ _ (w.heap.size + 1 + 1) _ _ _ _ rfl hbe Tryd.underlying43 rfl (by kernel_rfl)) rfl ⟨HRES.out, HGE.out⟩
  have hkb : (a.kind != 2) = false := by simpa using hk
  have HK := Lib.hid hk
  clear hk
  have ha3' := HA3.out
  unfold HBlk at ha3'
  have HA3' := Lib.hid ha3'
  have hb3' := HB3.out
  unfold HBlk at hb3'
  have HB3' := Lib.hid hb3'
  clear ha3' hb3'
  go_wp2_with (first | (refine wpList_load_w rfl 49 _ rfl w.heap.size rfl 49 _ _ _ HA3'.out Tryd.underlying49 rfl (by kernel_rfl) ?_) | (refine wpList_load_w rfl 49 _ rfl (w.heap.size + 1) rfl 49 _ _ _ HB3'.out Tryd.underlying49 rfl (by kernel_rfl) ?_))
  refine (rsame_is HV4.out w3).mono ?_
  rintro e w4 ⟨rfl, hg4⟩
  have HA4 := Lib.hid (HA3.out.kept hg4)
  have HB4 := Lib.hid (HB3.out.kept hg4)
  have HD4 := Lib.hid (HD3.out.kept hg4)
  have HG4 := Lib.hid (HG3.out.trans hg4)
  clear hg4 HA3 HB3' HA3' HB3 HD3 HG3 k0
  cases V4
  · have hl : lrnB a b = false := by unfold lrnB; rw [HV1.out, HV2.out, HV4.out, show (a.kind == 2) = true by simpa using HK.out]; rfl
    have HRES := Lib.hid (show Ending.returned (DVal 0 0) = .returned (DVal (learnS a b) (learnF a b)) by unfold learnS learnF; rw [hl]; rfl)
    clear hl
    have hd0 := (HD4.out)
    have HGE := Lib.hid (grown_set (grown_set (HG4.out) (a := ⟨w.heap.size + 1 + 1, 0, none⟩) (show w.heap.size ≤ w.heap.size + 1 + 1 by omega) (.int .i64 0)) (a := ⟨w.heap.size + 1 + 1, 1, none⟩) (show w.heap.size ≤ w.heap.size + 1 + 1 by omega) (.int .i64 0))
    have HBE := Lib.hid ((hd0.set0 0).set1 0)
    have z0 := hd0.c0
    have z1 := hd0.c1
    have g0 := hd0.fz 0
    have g1 := hd0.fz 1
    clear hd0
    go_wp2_with fail
    have hbe := HBE.out
    unfold DBlk at hbe
    exact bodyPost_ret (v := DVal 0 0) (results_cell_row Tryd.results38 _ _ (w.heap.size + 1 + 1) _ _ _ _ rfl hbe Tryd.underlying43 rfl (by kernel_rfl)) rfl ⟨HRES.out, HGE.out⟩
  have HL := Lib.hid (show lrnB a b = true by unfold lrnB; rw [HV1.out, HV2.out, HV4.out, show (a.kind == 2) = true by simpa using HK.out]; rfl)
  have HAK := Lib.hid (fun u (hu : Gr w4 u) => HA4.out.kept hu)
  have HBK := Lib.hid (fun u (hu : Gr w4 u) => HB4.out.kept hu)
  obtain ⟨N1, hN1⟩ : ∃ N, numH a = N := ⟨_, rfl⟩
  obtain ⟨N2, hN2⟩ : ∃ N, numH b = N := ⟨_, rfl⟩
  obtain ⟨st, hst⟩ : ∃ t, signedS 16 N1 N2 = t := ⟨_, rfl⟩
  obtain ⟨tm, htm⟩ : ∃ t, signedS 32 a.time b.time = t := ⟨_, rfl⟩
  have hr1 := signed_rng 16 N1 N2
  have hr2 := signed_rng 32 a.time b.time
  rw [hst] at hr1
  rw [htm] at hr2
  obtain ⟨s1, s2⟩ := hr1
  obtain ⟨t1, t2⟩ := hr2
  have HN1 := Lib.hid hN1
  have HN2 := Lib.hid hN2
  have HST := Lib.hid hst
  have HTM := Lib.hid htm
  clear hN1 hN2 hst htm
  go_wp2_with fail
  refine Sched.wp_region_sched 5 [] [] (by kernel_rfl) (by kernel_rfl) ?_
  simp only [List.take_succ_cons, List.take_zero, List.drop_succ_cons, List.drop_zero]
  refine Sched.walk1_gr rfl rfl rfl (fun K hK => ?_)
  refine ⟨HVal a, fun w1 hw1 => (HAK.out w1 hw1).load _ rfl rfl, ?_⟩
  simp only [Act.put, List.setIfInBounds_toArray, List.set_cons_zero, List.set_cons_succ]
  refine hK _ ?_
  clear hK K
  repeat (first | (refine Sched.walk1_no rfl rfl (fun K hK => ?_); simp only [Act.put, List.setIfInBounds_toArray, List.set_cons_zero, List.set_cons_succ]; refine hK _ ?_; clear hK K) | (refine Sched.walk1_gr rfl rfl rfl (fun K hK => ?_); apply Exists.intro; refine ⟨fun w1 hw1 => ?_, ?_⟩; (focus (go_simp; (try go_ints); (try (simp only [IntWalk.iteOmega]; go_simp)); first | done | (go_at_call 15; (with_reducible exact rnum_is HN1.out _)) | (with_reducible rfl) | (with_reducible exact ⟨rfl, rfl⟩))); simp only [Act.put, List.setIfInBounds_toArray, List.set_cons_zero, List.set_cons_succ]; refine hK _ ?_; clear hK K) | (refine Sched.walk1_pure rfl rfl rfl (fun K hK => ?_); apply Exists.intro; refine ⟨fun w1 => ?_, ?_⟩; (focus (go_simp; (try go_ints); (try (simp only [IntWalk.iteOmega]; go_simp)); first | done | (with_reducible rfl) | (with_reducible exact ⟨rfl, rfl⟩))); simp only [Act.put, List.setIfInBounds_toArray, List.set_cons_zero, List.set_cons_succ]; refine hK _ ?_; clear hK K) | (refine Sched.walk1_box rfl rfl ?_; apply Exists.intro; refine ⟨fun w1 hw1 => ?_, ?_⟩; (focus (go_simp; exact ⟨Gr.alloc _ _, rfl, by simp, heap_alloc_new _ _⟩))))
  refine Sched.walk1_gr rfl rfl rfl (fun K hK => ?_)
  refine ⟨HVal b, fun w1 hw1 => (HBK.out w1 hw1).load _ rfl rfl, ?_⟩
  simp only [Act.put, List.setIfInBounds_toArray, List.set_cons_zero, List.set_cons_succ]
  refine hK _ ?_
  clear hK K
  repeat (first | (refine Sched.walk1_no rfl rfl (fun K hK => ?_); simp only [Act.put, List.setIfInBounds_toArray, List.set_cons_zero, List.set_cons_succ]; refine hK _ ?_; clear hK K) | (refine Sched.walk1_gr rfl rfl rfl (fun K hK => ?_); apply Exists.intro; refine ⟨fun w1 hw1 => ?_, ?_⟩; (focus (go_simp; (try go_ints); (try (simp only [IntWalk.iteOmega]; go_simp)); first | done | (first | (go_at_call 15; (with_reducible exact rnum_is HN2.out _)) | (go_at_call 36; (with_reducible exact gr_same (rsigned_is HST.out _)))) | (with_reducible rfl) | (with_reducible exact ⟨rfl, rfl⟩))); simp only [Act.put, List.setIfInBounds_toArray, List.set_cons_zero, List.set_cons_succ]; refine hK _ ?_; clear hK K) | (refine Sched.walk1_pure rfl rfl rfl (fun K hK => ?_); apply Exists.intro; refine ⟨fun w1 => ?_, ?_⟩; (focus (go_simp; (try go_ints); (try (simp only [IntWalk.iteOmega]; go_simp)); first | done | (with_reducible rfl) | (with_reducible exact ⟨rfl, rfl⟩))); simp only [Act.put, List.setIfInBounds_toArray, List.set_cons_zero, List.set_cons_succ]; refine hK _ ?_; clear hK K) | (refine Sched.walk1_box rfl rfl ?_; apply Exists.intro; refine ⟨fun w1 hw1 => ?_, ?_⟩; (focus (go_simp; exact ⟨Gr.alloc _ _, rfl, by simp, heap_alloc_new _ _⟩))))
  refine Sched.walk1_nil ?_
  intro wq hwq
  have HA6 := Lib.hid (HA4.out.kept hwq)
  have HB6 := Lib.hid (HB4.out.kept hwq)
  have HD6 := Lib.hid (HD4.out.kept hwq)
  have HG6 := Lib.hid (HG4.out.trans hwq)
  clear hwq HAK HBK HA4 HB4 HD4 HG4
  dsimp only [Sched.EndN, List.nil_append, List.cons_append, Act.put]
  (try simp only [List.setIfInBounds_toArray, List.set_cons_zero, List.set_cons_succ])
  repeat (first | (refine Sched.walk2_no rfl (fun K hK => ?_); simp only [Act.put, List.setIfInBounds_toArray, List.set_cons_zero, List.set_cons_succ]; refine hK _ ?_; clear hK K) | (refine Sched.walk2_go rfl (fun K hK => ?_); go_simp; (try go_ints); (try (simp only [IntWalk.iteOmega]; go_simp)); first | (refine hK _ _ ?_; clear hK K) | fail))
  refine Sched.walk2_nil ?_
  have k1 : wq.cell? ⟨w.heap.size, 13, none⟩ = some (.int .i64 a.time) := HA6.out.at 13 rfl
  have k2 : wq.cell? ⟨w.heap.size + 1, 13, none⟩ = some (.int .i64 b.time) := HB6.out.at 13 rfl
  go_upto_region 6 with (go_at_call 36; ((with_reducible refine (rsigned_is HTM.out _).mono ?_)); rintro e w' ⟨rfl, rfl⟩)
  clear k1 k2
  obtain ⟨w7, hw7⟩ : ∃ y, y = wq.alloc (.cells #[.int .i64 0, .int .i64 0] 43) := ⟨_, rfl⟩
  rw [← hw7]
  have hg7 : Gr wq w7 := by rw [hw7]; exact Gr.alloc _ _
  have HE7 := Lib.hid (show DBlk wq.heap.size 0 0 w7 by rw [hw7]; exact heap_alloc_new _ _)
  have HA7 := Lib.hid (HA6.out.kept hg7)
  have HB7 := Lib.hid (HB6.out.kept hg7)
  have HD7 := Lib.hid (HD6.out.kept hg7)
  have HG7 := Lib.hid (HG6.out.trans hg7)
  clear hw7 hg7
  obtain ⟨wo, rfl⟩ : ∃ wo : World, wo = wq := ⟨_, rfl⟩
  obtain ⟨q, hq⟩ : ∃ q, tm.tdiv st = q := ⟨_, rfl⟩
  have hqr := tdiv_rng (s := st) t1 t2
  rw [hq] at hqr
  obtain ⟨q1, q2⟩ := hqr
  have HQ := Lib.hid hq
  clear hq
  obtain ⟨B, hB⟩ : ∃ x, (st != 0 && tm.tmod st == 0 && decide (0 ≤ q) && decide (q ≤ 65535)) = x := ⟨_, rfl⟩
  have HBB := Lib.hid hB
  clear hB
  go_cut [57] from 38 (fun s wc => s = .bool B ∧ w7 = wc)
  case first =>
    by_cases h0 : st = 0
    · have hb0 : (st != 0) = false := by simpa using h0
      have hE : B = false := by rw [← HBB.out, hb0]; rfl
      subst hE
      clear h0
      go_wp2_with fail
      go_meet
      exact ⟨rfl, rfl⟩
    · have hb0 : (st != 0) = true := by simpa using h0
      cases hm : (tm.tmod st == 0)
      · have hE : B = false := by rw [← HBB.out, hm, Bool.and_false]; rfl
        subst hE
        go_wp2_with fail
        go_meet
        exact ⟨rfl, rfl⟩
      · have hq := HQ.out
        by_cases h3 : 0 ≤ q
        · by_cases h4 : q ≤ 65535
          · have hE : B = true := by rw [← HBB.out, hm, hb0, decide_eq_true h3, decide_eq_true h4]; rfl
            subst hE
            go_wp2_with fail
            go_meet
            exact ⟨rfl, rfl⟩
          · have hE : B = false := by rw [← HBB.out, decide_eq_false h4, Bool.and_false]
            subst hE
            have h4' : 65535 < q := by omega
            go_wp2_with fail
            go_meet
            exact ⟨rfl, rfl⟩
        · have hE : B = false := by rw [← HBB.out, decide_eq_false h3, Bool.and_false]; rfl
          subst hE
          have h3' : q < 0 := by omega
          go_wp2_with fail
          go_meet
          exact ⟨rfl, rfl⟩
  case rest =>
    obtain ⟨rfl, rfl⟩ := hcut
    go_upto_if 57 with (fail)
    go_cut [] from 38 (fun wc => DBlk wo.heap.size (if B then q else 0) 0 wc ∧ HBlk w.heap.size a wc ∧ HBlk (w.heap.size + 1) b wc ∧ DBlk (w.heap.size + 1 + 1) 0 0 wc ∧ Gr w wc)
    case first =>
      cases B
      · go_wp2_with fail
        go_meet
        exact ⟨HE7.out, HA7.out, HB7.out, HD7.out, HG7.out⟩
      · have hb1 : ¬ st = 0 := by
          have := HBB.out
          simp only [Bool.and_eq_true, bne_iff_ne] at this
          exact this.1.1.1
        have hq := HQ.out
        have z0 := HE7.out.c0
        have g0 := HE7.out.fz 0
        go_wp2_with fail
        go_meet
        exact ⟨HE7.out.set0 _, HA7.out.other _ _ (by have := heap_lt HA6.out; omega), HB7.out.other _ _ (by have := heap_lt HB6.out; omega), HD7.out.other _ _ (by have := heap_lt HD6.out; omega), grown_set HG7.out (a := ⟨wo.heap.size, 0, none⟩) HG6.out.size _⟩
    case rest =>
      obtain ⟨he9, ha9, hb9, hd9, hg9⟩ := hcut
      have HA9 := Lib.hid ha9
      have HB9 := Lib.hid hb9
      have HD9 := Lib.hid hd9
      have HG9 := Lib.hid hg9
      obtain ⟨S2, hS2⟩ : ∃ x, (if B then q else 0) = x := ⟨_, rfl⟩
      rw [hS2] at he9
      have HE9 := Lib.hid he9
      have HS2 := Lib.hid (show S2 = learnS a b by
        unfold learnS stpH strS
        rw [HL.out, if_pos rfl, HN1.out, HN2.out, HST.out, HTM.out, HQ.out, ← hS2, ← HBB.out]
        exact rlearn_stride st q tm)
      clear he9 ha9 hb9 hd9 hg9 hS2
      obtain ⟨Lw, hLw⟩ : ∃ t, lowS 16 (a.id + st) = t := ⟨_, rfl⟩
      have HLW := Lib.hid hLw
      obtain ⟨v1, v2, _, _⟩ := valid_rng HV1.out
      obtain ⟨F, hF⟩ : ∃ t, (b.id == Lw) = t := ⟨_, rfl⟩
      have HF := Lib.hid hF
      have HFF := Lib.hid (show (if F then (1 : Int) else 0) = learnF a b by
        unfold learnF stpH
        rw [HL.out, HN1.out, HN2.out, HST.out, HLW.out, HF.out, Bool.true_and])
      clear hLw hF
      have x2 : ∀ u, Gr wc u → u.cell? ⟨w.heap.size, 2, none⟩ = some (.int .i64 a.id) := fun u hu => (HA9.out.kept hu).at 2 rfl
      have y2 : ∀ u, Gr wc u → u.cell? ⟨w.heap.size + 1, 2, none⟩ = some (.int .i64 b.id) := fun u hu => (HB9.out.kept hu).at 2 rfl
      have hFF := HF.out
      go_wp2_with fail
      refine Sched.wp_region_sched 7 [] [] (by kernel_rfl) (by kernel_rfl) ?_
      simp only [List.take_succ_cons, List.take_zero, List.drop_succ_cons, List.drop_zero]
      repeat (first | ((with_reducible refine Sched.walk1_no ?_ ?_ (fun K hK => ?_)); (focus rfl); (focus rfl); simp only [Act.put, List.setIfInBounds_toArray, List.set_cons_zero, List.set_cons_succ]; refine hK _ ?_; clear hK K) | ((with_reducible refine Sched.walk1_gr ?_ ?_ ?_ (fun K hK => ?_)); (focus rfl); (focus rfl); (focus rfl); apply Exists.intro; refine ⟨fun w1 hw1 => ?_, ?_⟩; (focus (go_simp; (try go_ints); (try (simp only [IntWalk.iteOmega]; go_simp)); first | done | (go_at_call 43; (with_reducible exact gr_same (rlow_is rfl HLW.out _))) | (with_reducible rfl) | (with_reducible exact ⟨rfl, rfl⟩))); simp only [Act.put, List.setIfInBounds_toArray, List.set_cons_zero, List.set_cons_succ]; refine hK _ ?_; clear hK K) | ((with_reducible refine Sched.walk1_pure ?_ ?_ ?_ (fun K hK => ?_)); (focus rfl); (focus rfl); (focus rfl); apply Exists.intro; refine ⟨fun w1 => ?_, ?_⟩; (focus (go_simp; (try go_ints); (try (simp only [IntWalk.iteOmega]; go_simp)); first | done | (with_reducible rfl) | (with_reducible exact ⟨rfl, rfl⟩))); simp only [Act.put, List.setIfInBounds_toArray, List.set_cons_zero, List.set_cons_succ]; refine hK _ ?_; clear hK K) | (refine Sched.walk1_box rfl rfl ?_; apply Exists.intro; refine ⟨fun w1 hw1 => ?_, ?_⟩; (focus (go_simp; exact ⟨Gr.alloc _ _, rfl, by simp, heap_alloc_new _ _⟩))))
      (with_reducible refine Sched.walk1_nil ?_)
      intro wq hwq
      have HA10 := Lib.hid (HA9.out.kept hwq)
      have HB10 := Lib.hid (HB9.out.kept hwq)
      have HD10 := Lib.hid (HD9.out.kept hwq)
      have HE10 := Lib.hid (HE9.out.kept hwq)
      have HG10 := Lib.hid (HG9.out.trans hwq)
      clear hwq x2 y2
      dsimp only [Sched.EndN, List.nil_append, List.cons_append, Act.put]
      (try simp only [List.setIfInBounds_toArray, List.set_cons_zero, List.set_cons_succ])
      repeat (first | (refine Sched.walk2_no rfl (fun K hK => ?_); simp only [Act.put, List.setIfInBounds_toArray, List.set_cons_zero, List.set_cons_succ]; refine hK _ ?_; clear hK K) | (refine Sched.walk2_go rfl (fun K hK => ?_); go_simp; (try go_ints); (try (simp only [IntWalk.iteOmega]; go_simp)); first | (refine hK _ _ ?_; clear hK K) | fail))
      refine Sched.walk2_nil ?_
      clear hFF
      have HRES := Lib.hid (show Ending.returned (DVal S2 (if F then 1 else 0)) = .returned (DVal (learnS a b) (learnF a b)) by rw [HS2.out, HFF.out])
      have z0 := HD10.out.c0
      have z1 := HD10.out.c1
      have g0 := HD10.out.fz 0
      have g1 := HD10.out.fz 1
      have e0 := HE10.out.c0
      have e1 := HE10.out.c1
      have f1 := HE10.out.fz 1
      have hne := heap_lt HD6.out
      cases F
      · have HGE := Lib.hid (grown_set (grown_set HG10.out (a := ⟨w.heap.size + 1 + 1, 0, none⟩) (show w.heap.size ≤ w.heap.size + 1 + 1 by omega) (.int .i64 S2)) (a := ⟨w.heap.size + 1 + 1, 1, none⟩) (show w.heap.size ≤ w.heap.size + 1 + 1 by omega) (.int .i64 0))
        have HBE := Lib.hid ((HD10.out.set0 S2).set1 0)
        go_wp2_with fail
        have hbe := HBE.out
        unfold DBlk at hbe
        exact bodyPost_ret (v := DVal S2 0) (results_cell_row Tryd.results38 _ _ (w.heap.size + 1 + 1) _ _ _ _ rfl hbe Tryd.underlying43 rfl (by kernel_rfl)) rfl ⟨HRES.out, HGE.out⟩
      · have HGE := Lib.hid (grown_set (grown_set (grown_set HG10.out (a := ⟨wo.heap.size, 1, none⟩) HG6.out.size (.int .i64 1)) (a := ⟨w.heap.size + 1 + 1, 0, none⟩) (show w.heap.size ≤ w.heap.size + 1 + 1 by omega) (.int .i64 S2)) (a := ⟨w.heap.size + 1 + 1, 1, none⟩) (show w.heap.size ≤ w.heap.size + 1 + 1 by omega) (.int .i64 1))
        have HBE := Lib.hid (((HD10.out.other (p := wo.heap.size) 1 (.int .i64 1) (by omega)).set0 S2).set1 1)
        go_wp2_with fail
        have hbe := HBE.out
        unfold DBlk at hbe
        exact bodyPost_ret (v := DVal S2 1) (results_cell_row Tryd.results38 _ _ (w.heap.size + 1 + 1) _ _ _ _ rfl hbe Tryd.underlying43 rfl (by kernel_rfl)) rfl ⟨HRES.out, HGE.out⟩
end Go.Proofs.YtlnkofpcidngoaaDoor
/- Layer 9 (compressor): contexts in memory; when they are valid (plain). -/
namespace Go.Proofs.YtlnkofpcidngoaaDoor
open Go.ChangeShapes Go.WideShapes Go.ChangeAt Go.RowKit

structure Snd where
  act : Bool
  full : Int
  refr : Int
  ser : Int
  since : Int
  long : Int
  str : Int
  fol : Int
  a : Option Addr
  n : Nat
  c : Nat
  refs : List Hdr
abbrev SCells (s : Snd) : List Value := [.bool s.act, .int .i64 s.full, .int .i64 s.refr, .int .i64 s.ser, .int .i64 s.since, .int .i64 s.long, .int .i64 s.str, .int .i64 s.fol, .slice s.a s.n s.c]
abbrev SVal (s : Snd) : Value := .agg #[.bool s.act, .int .i64 s.full, .int .i64 s.refr, .int .i64 s.ser, .int .i64 s.since, .int .i64 s.long, .int .i64 s.str, .int .i64 s.fol, .slice s.a s.n s.c]
abbrev CVal (mode width : Int) (a : Option Addr) (n c : Nat) : Value := .agg #[.int .i64 mode, .int .i64 width, .slice a n c]
theorem hcells_len (h : Hdr) : (HCells h).length = 15 := rfl
theorem scells_len (s : Snd) : (SCells s).length = 9 := rfl
theorem scells_one (s : Snd) : (SCells s).all (·.oneCell') = true := rfl
def RdH (w : World) (a : Option Addr) (n c : Nat) (hs : List Hdr) : Prop := hs.length = n ∧ n ≤ c ∧ c ≤ maxLen ∧ (a = none → n = 0 ∧ c = 0) ∧ Seg w a (hs.flatMap HCells) ∧ ∀ h ∈ hs, HOk h
def RdC (w : World) (a : Option Addr) (n c : Nat) (L : List Snd) : Prop := L.length = n ∧ n ≤ c ∧ c ≤ maxLen ∧ (a = none → n = 0 ∧ c = 0) ∧ Seg w a (L.flatMap SCells) ∧ ∀ s ∈ L, RdH w s.a s.n s.c s.refs
theorem RdH.kept {w w' : World} {a : Option Addr} {n c : Nat} {hs : List Hdr} (h : RdH w a n c hs) (hg : Gr w w') : RdH w' a n c hs :=
  ⟨h.1, h.2.1, h.2.2.1, h.2.2.2.1, seg_kept h.2.2.2.2.1 hg, h.2.2.2.2.2⟩
theorem RdC.kept {w w' : World} {a : Option Addr} {n c : Nat} {L : List Snd} (h : RdC w a n c L) (hg : Gr w w') : RdC w' a n c L :=
  ⟨h.1, h.2.1, h.2.2.1, h.2.2.2.1, seg_kept h.2.2.2.2.1 hg, fun s hs => (h.2.2.2.2.2 s hs).kept hg⟩
theorem RdH.row {w : World} {a : Option Addr} {n c : Nat} {hs : List Hdr} (h : RdH w a n c hs) (hn : 0 < n) : ∃ b off, a = some ⟨b, off, none⟩ ∧ b < w.heap.size ∧ ∀ i x, hs[i]? = some x → w.rangeAt b (off + i * 15) (HCells x) :=
  seg_row hcells_len (by omega) h.2.2.2.2.1 (by rw [h.1]; exact hn)
theorem RdC.row {w : World} {a : Option Addr} {n c : Nat} {L : List Snd} (h : RdC w a n c L) (hn : 0 < n) : ∃ b off, a = some ⟨b, off, none⟩ ∧ b < w.heap.size ∧ ∀ i x, L[i]? = some x → w.rangeAt b (off + i * 9) (SCells x) :=
  seg_row scells_len (by omega) h.2.2.2.2.1 (by rw [h.1]; exact hn)
theorem RdH.get {w : World} {a : Option Addr} {n c : Nat} {hs : List Hdr} (h : RdH w a n c hs) {i : Nat} (hi : i < n) : ∃ x, hs[i]? = some x ∧ HOk x := by
  have hl : i < hs.length := by rw [h.1]; exact hi
  exact ⟨hs[i], List.getElem?_eq_getElem hl, h.2.2.2.2.2 _ (List.getElem_mem hl)⟩
theorem RdC.get {w : World} {a : Option Addr} {n c : Nat} {L : List Snd} (h : RdC w a n c L) {i : Nat} (hi : i < n) : ∃ s, L[i]? = some s ∧ RdH w s.a s.n s.c s.refs := by
  have hl : i < L.length := by rw [h.1]; exact hi
  exact ⟨L[i], List.getElem?_eq_getElem hl, h.2.2.2.2.2 _ (List.getElem_mem hl)⟩
theorem RdH.take {w : World} {a : Option Addr} {n c : Nat} {hs : List Hdr} (h : RdH w a n c hs) (m : Nat) (hm : m ≤ n) : RdH w a m c (hs.take m) := by
  obtain ⟨h1, h2, h3, h4, h5, h6⟩ := h
  exact ⟨by simp; omega, by omega, h3, fun e => by have := h4 e; omega, seg_take hcells_len h5 m (by omega), fun x hx => h6 x (List.mem_of_mem_take hx)⟩
theorem RdC.take {w : World} {a : Option Addr} {n c : Nat} {L : List Snd} (h : RdC w a n c L) (m : Nat) (hm : m ≤ n) : RdC w a m c (L.take m) := by
  obtain ⟨h1, h2, h3, h4, h5, h6⟩ := h
  exact ⟨by simp; omega, by omega, h3, fun e => by have := h4 e; omega, seg_take scells_len h5 m (by omega), fun x hx => h6 x (List.mem_of_mem_take hx)⟩
theorem RdH.drop {w : World} {b off : Nat} {n c : Nat} {hs : List Hdr} (h : RdH w (some ⟨b, off, none⟩) n c hs) (m : Nat) (hm : m ≤ n) : RdH w (some ⟨b, off + m * 15, none⟩) (n - m) (c - m) (hs.drop m) := by
  obtain ⟨h1, h2, h3, h4, h5, h6⟩ := h
  exact ⟨by simp; omega, by omega, by omega, (fun e => by cases e), seg_drop hcells_len h5 m (by omega), fun x hx => h6 x (List.mem_of_mem_drop hx)⟩
/-! ### plain -/
def headS (s : Snd) : Hdr := s.refs.headD zeroH
def emptyB (s : Snd) : Bool := decide (s.full = 0) && (decide (s.refr = 0) && (decide (s.ser = 0) && (decide (s.since = 0) && (decide (s.long = 0) && ((decide (s.str = 0) && decide (s.fol = 0)) && decide (s.refs.length = 0))))))
def most (mode width : Int) : Int := if mode = 3 then 32 else width
def rngB (mode width : Int) (s : Snd) : Bool :=
  decide (1 ≤ s.refs.length) && (decide ((s.refs.length : Int) ≤ most mode width) && (inB s.ser s.refs.length && (inB s.full width && (inB s.refr width && !(decide (0 < s.full) && decide (0 < s.refr))))))
def plainB (s : Snd) : Bool := decide ((headS s).kind = 2) || (decide (s.str = 0) && decide (s.fol = 0))
def okRef (s : Snd) (h : Hdr) : Bool := validH h && sameB h (headS s)
def actB (mode width : Int) (s : Snd) : Bool := rngB mode width s && (inB s.since 32 && (inB s.long 3 && (dynB s.str s.fol && (plainB s && s.refs.all (okRef s)))))
def ctxB (mode width : Int) (s : Snd) : Bool := if s.act then actB mode width s else emptyB s
def likeB (s t : Snd) : Bool := s.act && (t.act && sameB (headS s) (headS t))
def shapedB (mode width : Int) : Bool := decide (1 ≤ mode) && (decide (mode ≤ 3) && (decide (1 ≤ width) && decide (width ≤ 8)))
def okAt (mode width : Int) (L : List Snd) (i : Nat) : Bool := match L[i]? with | some s => ctxB mode width s && !((L.take i).any (likeB s)) | none => true
def validC (mode width : Int) (L : List Snd) : Bool := shapedB mode width && (decide (L.length = 16) && (List.range L.length).all (okAt mode width L))
end Go.Proofs.YtlnkofpcidngoaaDoor
