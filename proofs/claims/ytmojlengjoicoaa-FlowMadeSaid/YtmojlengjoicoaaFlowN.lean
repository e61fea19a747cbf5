/- Layer 06 (flow): what Learn makes of a regular row of headers. Plain. -/
import Derived.Test.YtmojlengjoicoaaFlowT
import Derived.Test.YtmojlengjoicoaaFlowF
import Derived.Test.YtmojlengjoicoaaFlowX
namespace Go.Proofs.Ytmojlengjoicoaa
open Go.ChangeShapes Go.WideShapes Go.ChangeAt Go.RowKit

def FolRel (a : Hdr) (n : Int) (b : Hdr) : Prop := (n = 0 ∧ b = a) ∨ (1 ≤ n ∧ ∃ c, ChkOk a c ∧ b = folH a n c)
theorem fol_check (a : Hdr) (n c : Int) : (folH a n c).check = c := by unfold folH; split <;> rfl
theorem fol_stat (a : Hdr) (n c : Int) : statH (folH a n c) = statH a := by unfold folH; split <;> rfl
theorem fol_fol (a : Hdr) (n c d : Int) : folH (folH a n c) 1 d = folH a (n + 1) d := by
  have e1 (x : Int) : (x + n) % 65536 + 1 = (x + n) % 65536 + 1 := rfl
  have e2 (x : Int) : ((x + n) % 65536 + 1) % 65536 = (x + (n + 1)) % 65536 := by omega
  have e3 (x : Int) : ((x + 160 * n) % 4294967296 + 160 * 1) % 4294967296 = (x + 160 * (n + 1)) % 4294967296 := by omega
  unfold folH
  by_cases h : a.kind = 2
  · simp only [if_pos h, e2, e3]
  · simp only [if_neg h, e2]
theorem chk_fol {a : Hdr} {n c d : Int} (h : ChkOk a c) (k : ChkOk (folH a n c) d) : ChkOk a d := by
  obtain ⟨_, h1, h2⟩ := h
  obtain ⟨k0, k1, k2⟩ := k
  rw [fol_check] at k1 k2
  exact ⟨k0, fun x => k1 (h1 x), fun x => k2 (h2 x)⟩
theorem FolRel.next {a b : Hdr} {n c : Int} (h : FolRel a n b) (hn : 0 ≤ n) (hc : ChkOk b c) : FolRel a (n + 1) (folH b 1 c) := by
  rcases h with ⟨rfl, rfl⟩ | ⟨h1, d, hd, rfl⟩
  · exact .inr ⟨by omega, c, hc, rfl⟩
  · exact .inr ⟨by omega, c, chk_fol hd hc, fol_fol a n d c⟩
theorem made_fol {fl : Int} {a : Hdr} {n c : Int} (hm : MadeH fl a) (hc : ChkOk a c) : MadeH fl (folH a n c) := by
  obtain ⟨k, t, i, ff, l, fr, tt, fp, tp, ck, r⟩ := hm
  obtain ⟨⟨c1, c2⟩, _⟩ := hc
  unfold folH
  rcases r with ⟨r0, r1, r2, r3, r4, r5⟩ | ⟨r0, r1, r2, r3, r4, r5⟩
  · rw [if_neg (by omega)]
    exact ⟨k, t, by show 0 ≤ (a.id + n) % 65536 ∧ (a.id + n) % 65536 ≤ 65535; omega, ff, l, fr, tt, fp, tp, ⟨c1, c2⟩, .inl ⟨r0, r1, r2, r3, r4, r5⟩⟩
  · rw [if_pos (by omega)]
    exact ⟨k, t, by show 0 ≤ (a.id + n) % 65536 ∧ (a.id + n) % 65536 ≤ 65535; omega, ff, l, fr, tt, fp, tp, ⟨c1, c2⟩, .inr ⟨r0, by show (0 : Int) ≤ 0 ∧ (0 : Int) ≤ 1; omega, r2, by show 0 ≤ (a.seq + n) % 65536 ∧ (a.seq + n) % 65536 ≤ 65535; omega, by show 0 ≤ (a.time + 160 * n) % 4294967296 ∧ (a.time + 160 * n) % 4294967296 ≤ 4294967295; omega, r5⟩⟩
theorem FolRel.made {fl : Int} {a b : Hdr} {n : Int} (h : FolRel a n b) (hm : MadeH fl a) : MadeH fl b := by
  rcases h with ⟨rfl, rfl⟩ | ⟨h1, d, hd, rfl⟩
  · exact hm
  · exact made_fol hm hd
theorem ch_folN {a : Hdr} {s c : Int} (hc : ChkOk a c) : chH a (folH a s c) = 0 := by
  obtain ⟨_, h1, h2⟩ := hc
  have e : ((a.check == 0) != (c == 0)) = false := by
    by_cases h : a.check = 0
    · rw [h, h1 h]; rfl
    · rw [beq_false_of_ne h, beq_false_of_ne (h2 h)]; rfl
  unfold chH folH
  split <;> simp [ch5, e]
theorem learns_law {fl n c : Int} {a : Hdr} (hm : MadeH fl a) (h0 : 0 ≤ fl) (h1 : fl ≤ 10) (n1 : 1 ≤ n) (n2 : n ≤ 40) (hc : ChkOk a c) :
    ∃ S F, learnS a (folH a n c) = S ∧ learnF a (folH a n c) = F ∧ dynB S F = true ∧ (HCells (predH S F a (numH (folH a n c)))).set 9 (.int .i64 c) = HCells (folH a n c) ∧ chH a (folH a n c) = 0 := by
  have hv := made_valid hm h0 h1
  have hvb := made_valid (made_fol (n := n) hm hc) h0 h1
  have hs : sameB a (folH a n c) = true := by rw [← stat_eq, fol_stat, eqH_refl]
  have hch := ch_folN (s := n) hc
  obtain ⟨b, hb⟩ : ∃ b, folH a n c = b := ⟨_, rfl⟩
  obtain ⟨k, t, i, ff, l, fr, tt, fp, tp, ck, r⟩ := hm
  rcases r with ⟨r0, r1, r2, r3, r4, r5⟩ | ⟨r0, r1, r2, r3, r4, r5⟩
  · have hk : a.kind = 1 := by omega
    have hl : lrnB a (folH a n c) = false := by
      have : (a.kind == 2) = false := by rw [hk]; rfl
      simp [lrnB, this]
    have e1 : learnS a (folH a n c) = 0 := by unfold learnS; rw [hl]; rfl
    have e2 : learnF a (folH a n c) = 0 := by unfold learnF; rw [hl]; rfl
    refine ⟨0, 0, e1, e2, rfl, ?_, hch⟩
    have hkb : (folH a n c).kind = 1 := by unfold folH; rw [if_neg (by omega)]; exact hk
    rw [pred_one hv rfl hk, num_one hkb]
    have e : ((a.id + n) % 65536) % 65536 % 65536 = (a.id + n) % 65536 := by omega
    unfold folH
    rw [if_neg (by omega)]
    simp only [updU, e, r1, List.set_cons_zero, List.set_cons_succ]
  · have hk : a.kind = 2 := by omega
    have eb : folH a n c = ⟨a.kind, a.tos, (a.id + n) % 65536, a.fixed, a.ttl, a.frm, a.to, a.fport, a.tport, c, 0, a.type, (a.seq + n) % 65536, (a.time + 160 * n) % 4294967296, a.source⟩ := by unfold folH; rw [if_pos hk]
    have hl : lrnB a (folH a n c) = true := by
      have : (a.kind == 2) = true := by rw [hk]; rfl
      unfold lrnB; rw [hv, hvb, this, hs]; rfl
    have hkb : (folH a n c).kind = 2 := by rw [eb]; exact hk
    have hna : numH a = a.seq % 65536 := num_two hk
    have hnb : numH (folH a n c) = (a.seq + n) % 65536 := by rw [num_two hkb, eb]; show (a.seq + n) % 65536 % 65536 = _; omega
    have hst : stpH a (folH a n c) = n := by
      unfold stpH
      rw [hna, hnb]
      exact signed_of (by omega) (by omega) (by omega)
    have htm : signedS 32 a.time (folH a n c).time = 160 * n := by
      rw [eb]
      show signedS 32 a.time ((a.time + 160 * n) % 4294967296) = _
      exact signed32_of (by omega) (by omega) (by omega)
    have hd : (160 * n).tdiv n = 160 := Int.mul_tdiv_cancel _ (by omega)
    have hmd : (160 * n).tmod n = 0 := Int.mul_tmod_left _ _
    have e1 : learnS a (folH a n c) = 160 := by
      unfold learnS
      rw [hl, hst, htm, if_pos rfl]
      unfold strS
      rw [hd, hmd, if_pos (by omega)]
    have e2 : learnF a (folH a n c) = 1 := by
      unfold learnF
      rw [hl, hst, low16]
      have : ((folH a n c).id == (a.id + n) % 65536) = true := by rw [eb]; simp
      rw [this]; rfl
    refine ⟨160, 1, e1, e2, rfl, ?_, hch⟩
    have hsp : stepH a (numH (folH a n c)) = n := hst
    rw [pred_two hv rfl hk hsp, hnb, eb]
    have x1 : (a.seq + n) % 65536 % 65536 = (a.seq + n) % 65536 := by omega
    have x2 : a.id + 1 * n = a.id + n := by omega
    simp only [updR, x1, x2, List.set_cons_zero, List.set_cons_succ]
end Go.Proofs.Ytmojlengjoicoaa
