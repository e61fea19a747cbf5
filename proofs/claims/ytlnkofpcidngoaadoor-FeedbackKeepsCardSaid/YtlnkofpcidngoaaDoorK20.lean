/- Several texts in one. -/
import Derived.Test.YtlnkofpcidngoaaDoorK0
import Derived.Test.YtlnkofpcidngoaaDoorK15
import Derived.Test.YtlnkofpcidngoaaDoorK18
import Derived.Test.YtlnkofpcidngoaaDoorK19
import Derived.Test.YtlnkofpcidngoaaDoorK11
import Derived.Test.YtlnkofpcidngoaaDoorK9
namespace Go.Proofs.YtlnkofpcidngoaaDoor
open Go.ChangeShapes Go.WideShapes Go.ChangeAt Go.RowKit
theorem sameB_iff {a b : Hdr} : sameB a b = true ↔ a.kind = b.kind ∧ a.frm = b.frm ∧ a.to = b.to ∧ a.fport = b.fport ∧ a.tport = b.tport ∧ a.source = b.source := by
 simp [sameB]
theorem sameB_symm {a b : Hdr} (h : sameB a b = true) : sameB b a = true := by
 rw [sameB_iff] at h ⊢
 obtain ⟨h1, h2, h3, h4, h5, h6⟩ := h
 exact ⟨h1.symm, h2.symm, h3.symm, h4.symm, h5.symm, h6.symm⟩
theorem sameB_trans {a b c : Hdr} (h : sameB a b = true) (k : sameB b c = true) : sameB a c = true := by
 rw [sameB_iff] at h k ⊢
 obtain ⟨h1, h2, h3, h4, h5, h6⟩ := h
 obtain ⟨k1, k2, k3, k4, k5, k6⟩ := k
 exact ⟨h1.trans k1, h2.trans k2, h3.trans k3, h4.trans k4, h5.trans k5, h6.trans k6⟩
theorem sameB_refl (a : Hdr) : sameB a a = true := by rw [sameB_iff]; exact ⟨rfl, rfl, rfl, rfl, rfl, rfl⟩
structure CI (mode W : Int) (h : Hdr) (had : Bool) (P : Snd) : Prop where
 act : P.act = true
 full : 0 ≤ P.full ∧ P.full ≤ W
 refr : 0 ≤ P.refr ∧ P.refr ≤ W
 both : P.full ≤ 0 ∨ P.refr ≤ 0
 since : 0 ≤ P.since ∧ P.since ≤ 32
 long : 0 ≤ P.long ∧ P.long ≤ 3
 dyn : dynB P.str P.fol = true
 kind : h.kind = 1 → P.str = 0 ∧ P.fol = 0
 refs : ∀ x ∈ P.refs, validH x = true ∧ sameB x h = true
 len : P.refs.length = P.n
 n : P.n ≤ 32 ∧ (P.n : Int) ≤ most mode W
 ser : 0 ≤ P.ser ∧ P.ser ≤ 32
 new : had = false → mode = 3 → P.full = W ∧ P.refr = 0 ∧ P.n = 0
theorem most_le {mode W : Int} (hs : shapedB mode W = true) : most mode W ≤ 32 := by
 have := shaped_yes hs
 unfold most
 split <;> omega
theorem CI.of_act {mode W : Int} {h : Hdr} {s : Snd} (hs : shapedB mode W = true) (hc : ctxB mode W s = true) (ha : s.act = true) (hk : sameB (headS s) h = true) (hl : s.refs.length = s.n) : CI mode W h true s ∧ s.ser ≤ s.n ∧ 1 ≤ s.n := by
 unfold ctxB at hc
 rw [if_pos ha] at hc
 obtain ⟨⟨h1, h2⟩, h3, h4, h5, h6, h7, h8, h9, h10, h11⟩ := act_yes hc
 have hm := most_le hs
 refine ⟨⟨ha, h4, h5, h6, h7, h8, h9, fun hk1 => ?_, fun x hx => ⟨(h11 x hx).1, sameB_trans (h11 x hx).2 hk⟩, hl, ⟨by omega, by omega⟩, ⟨by omega, by omega⟩, fun e => by cases e⟩, by omega, by omega⟩
 have e := (sameB_iff.1 hk).1
 simp only [plainB, Bool.or_eq_true, decide_eq_true_eq, Bool.and_eq_true] at h10
 rcases h10 with h10 | h10
 · omega
 · exact h10
theorem CI.of_new {mode W : Int} {h : Hdr} {s : Snd} (hs : shapedB mode W = true) (hc : ctxB mode W s = true) (ha : s.act = false) (hl : s.refs.length = s.n) : s.n = 0 ∧ s.ser = 0 ∧ s.full = 0 ∧ s.refr = 0 ∧ s.since = 0 ∧ s.refs = [] ∧ CI mode W h false ⟨true, W, s.refr, s.ser, s.since, s.long, s.str, s.fol, s.a, s.n, s.c, s.refs⟩ := by
 unfold ctxB at hc
 rw [ha] at hc
 obtain ⟨h1, h2, h3, h4, h5, h6, h7, h8⟩ := empty_yes (by simpa using hc)
 obtain ⟨q1, q2, q3, q4⟩ := shaped_yes hs
 have hr : s.refs = [] := List.eq_nil_of_length_eq_zero h8
 have hn : s.n = 0 := by omega
 have hmo : 0 ≤ most mode W := by unfold most; split <;> omega
 refine ⟨hn, h3, h1, h2, h4, hr, ⟨rfl, ⟨by show 0 ≤ W; omega, Int.le_refl _⟩, ⟨by show 0 ≤ s.refr; omega, by show s.refr ≤ W; omega⟩, .inr (by show s.refr ≤ 0; omega), ⟨by show 0 ≤ s.since; omega, by show s.since ≤ 32; omega⟩, ⟨by show 0 ≤ s.long; omega, by show s.long ≤ 3; omega⟩, ?_, fun _ => ⟨h6, h7⟩, ?_, hl, ⟨by show s.n ≤ 32; omega, by show (s.n : Int) ≤ _; omega⟩, ⟨by show 0 ≤ s.ser; omega, by show s.ser ≤ 32; omega⟩, fun _ _ => ⟨rfl, h2, hn⟩⟩⟩
 · show dynB s.str s.fol = true
   rw [h6, h7]; rfl
 · intro x hx
   have hx' : x ∈ s.refs := hx
   rw [hr] at hx'
   cases hx'
theorem strS_rng (s t : Int) : 0 ≤ strS s t ∧ strS s t ≤ 65535 := by
 unfold strS
 split
 · rename_i h; exact ⟨h.2.2.1, h.2.2.2⟩
 · omega
theorem learn_dyn (a b : Hdr) : dynB (learnS a b) (learnF a b) = true := by
 have h1 : 0 ≤ learnS a b ∧ learnS a b ≤ 65535 := by
   unfold learnS
   split
   · exact strS_rng _ _
   · omega
 have h2 : learnF a b = 0 ∨ learnF a b = 1 := by
   unfold learnF
   split
   · exact .inr rfl
   · exact .inl rfl
 simp only [dynB, Bool.and_eq_true, decide_eq_true_eq, Bool.or_eq_true]
 exact ⟨h1.1, h1.2, h2⟩
theorem learn_plain {a b : Hdr} (h : b.kind = 1) : learnS a b = 0 ∧ learnF a b = 0 := by
 have hl : lrnB a b = false := by
   unfold lrnB
   cases hs : sameB a b
   · simp
   · have e := (sameB_iff.1 hs).1
     have : (a.kind == 2) = false := by rw [e, h]; rfl
     simp [this]
 constructor
 · unfold learnS; rw [hl]; rfl
 · unfold learnF; rw [hl]; rfl
theorem beg_dyn (had : Bool) (last h : Hdr) : dynB (begD had last h).1 (begD had last h).2 = true ∧ (h.kind = 1 → (begD had last h).1 = 0 ∧ (begD had last h).2 = 0) := by
 unfold begD
 cases had
 · exact ⟨rfl, fun _ => ⟨rfl, rfl⟩⟩
 · exact ⟨learn_dyn last h, fun hk => learn_plain hk⟩
theorem beg_dyn2 {mode W : Int} {h : Hdr} {had : Bool} {P : Snd} (hP : CI mode W h had P) : dynB P.str P.fol = true ∧ (h.kind = 1 → P.str = 0 ∧ P.fol = 0) := ⟨hP.dyn, hP.kind⟩
theorem CI.begin {mode W : Int} {h : Hdr} {had : Bool} {P : Snd} (hP : CI mode W h had P) (last : Hdr) : CI mode W h had (begS P last had h) :=
 ⟨hP.act, hP.full, hP.refr, hP.both, hP.since, hP.long, (beg_dyn had last h).1, (beg_dyn had last h).2, hP.refs, hP.len, hP.n, ⟨by show 0 ≤ (P.n : Int); omega, by show (P.n : Int) ≤ 32; have := hP.n; omega⟩, hP.new⟩
theorem CI.upd {mode W : Int} {h : Hdr} {had : Bool} {P : Snd} (hP : CI mode W h had P) (f r s t l : Int) (hf : 0 ≤ f ∧ f ≤ W) (hr : 0 ≤ r ∧ r ≤ W) (hb : f ≤ 0 ∨ r ≤ 0) (hs : 0 ≤ s ∧ s ≤ 32) (ht : 0 ≤ t ∧ t ≤ 32) (hl : 0 ≤ l ∧ l ≤ 3) (hn : had = false → mode = 3 → f = W ∧ r = 0) :
   CI mode W h had ⟨P.act, f, r, s, t, l, P.str, P.fol, P.a, P.n, P.c, P.refs⟩ :=
 ⟨hP.act, hf, hr, hb, ht, hl, hP.dyn, hP.kind, hP.refs, hP.len, hP.n, hs, fun e1 e2 => ⟨(hn e1 e2).1, (hn e1 e2).2, (hP.new e1 e2).2.2⟩⟩
theorem CI.cut {mode W : Int} {h : Hdr} {had : Bool} {P : Snd} (hsh : shapedB mode W = true) (hP : CI mode W h had P) : CI mode W h had ⟨P.act, W, 0, P.ser, P.since, P.long, P.str, P.fol, none, 0, 0, []⟩ := by
 obtain ⟨q1, q2, q3, q4⟩ := shaped_yes hsh
 have hmo : 0 ≤ most mode W := by unfold most; split <;> omega
 exact ⟨hP.act, ⟨by show 0 ≤ W; omega, Int.le_refl _⟩, ⟨by show (0 : Int) ≤ 0; omega, by show 0 ≤ W; omega⟩, .inr (Int.le_refl _), hP.since, hP.long, hP.dyn, hP.kind, (fun x hx => by cases hx), rfl, ⟨by show 0 ≤ 32; omega, by show ((0 : Nat) : Int) ≤ _; omega⟩, hP.ser, fun _ _ => ⟨rfl, rfl, rfl⟩⟩
theorem CI.fin {mode W : Int} {h : Hdr} {had : Bool} {P : Snd} (_hs : shapedB mode W = true) (hv : validH h = true) (hP : CI mode W h had P) (R : Snd) (k : Nat) (hk : k ≤ P.n) (hs1 : P.ser ≤ P.n)
   (e1 : R.act = P.act) (e2 : R.full = P.full) (e3 : R.refr = P.refr) (e4 : R.ser = if (k : Int) ≤ P.ser then P.ser - k else 0) (e5 : R.since = P.since) (e6 : R.long = P.long) (e7 : R.str = P.str) (e8 : R.fol = P.fol) (e9 : R.refs = (P.refs ++ [h]).drop k) (hm : ((P.n + 1 - k : Nat) : Int) ≤ most mode W) :
   ctxB mode W R = true ∧ R.act = true ∧ sameB (headS R) h = true := by
 have hlen : R.refs.length = P.n + 1 - k := by rw [e9]; simp [hP.len]
 have hmem : ∀ x ∈ R.refs, validH x = true ∧ sameB x h = true := by
   intro x hx
   rw [e9] at hx
   rcases List.mem_append.1 (List.mem_of_mem_drop hx) with hx | hx
   · exact hP.refs x hx
   · simp only [List.mem_singleton] at hx
     subst hx
     exact ⟨hv, sameB_refl _⟩
 have hhead : headS R ∈ R.refs := by
   unfold headS
   cases hr : R.refs with
   | nil => rw [hr] at hlen; simp at hlen; omega
   | cons x l => simp
 have hh := hmem _ hhead
 have ha : R.act = true := by rw [e1]; exact hP.act
 refine ⟨?_, ha, hh.2⟩
 unfold ctxB
 rw [if_pos ha]
 have f1 := hP.full
 have f2 := hP.refr
 have f3 := hP.both
 have f4 := hP.since
 have f5 := hP.long
 have f6 := hP.dyn
 have f7 := hP.ser
 simp only [actB, rngB, inB, Bool.and_eq_true, decide_eq_true_eq, Bool.not_eq_true', Bool.and_eq_false_iff, decide_eq_false_iff_not, List.all_eq_true]
 refine ⟨⟨by omega, by rw [hlen]; exact hm, ⟨?_, ?_⟩, by omega, by omega, by omega⟩, by omega, by omega, by rw [e7, e8]; exact f6, ?_, fun x hx => ?_⟩
 · rw [e4]; split <;> omega
 · rw [e4, hlen]; split <;> omega
 · have hkk := (sameB_iff.1 hh.2).1
   rcases (valid_all hv).1 with h1 | h1
   · obtain ⟨p1, p2⟩ := hP.kind h1
     simp only [plainB, e7, e8, p1, p2, decide_true, Bool.and_self, Bool.or_true]
   · simp only [plainB, hkk, h1, decide_true, Bool.true_or]
 · simp only [okRef, Bool.and_eq_true]
   exact ⟨(hmem x hx).1, sameB_trans (hmem x hx).2 (sameB_symm hh.2)⟩
theorem likeNo {mode W : Int} {L : List Snd} (hv : validC mode W L = true) {k i : Nat} {t s : Snd} (hk : L[k]? = some t) (hi : L[i]? = some s) (hne : k ≠ i) : likeB t s = false := by
 obtain ⟨_, _, h3⟩ := valid_parts hv
 have key : ∀ {a b : Nat} {x y : Snd}, L[a]? = some x → L[b]? = some y → a < b → likeB y x = false := by
   intro a b x y ha hb hab
   have h4 := h3 b (lt_someG hb)
   rw [okAt_at hb, Bool.and_eq_true] at h4
   have h5 := h4.2
   rw [Bool.not_eq_true', List.any_eq_false] at h5
   have hm : x ∈ L.take b := by
     apply List.mem_of_getElem? (i := a)
     rw [List.getElem?_take, if_pos hab]; exact ha
   exact Bool.eq_false_iff.2 (h5 x hm)
 have symm : ∀ x y : Snd, likeB x y = false → likeB y x = false := by
   intro x y hxy
   cases hyx : likeB y x
   · rfl
   · simp only [likeB, Bool.and_eq_true] at hyx
     have : likeB x y = true := by
       simp only [likeB, Bool.and_eq_true]
       exact ⟨hyx.2.1, hyx.1, sameB_symm hyx.2.2⟩
     rw [this] at hxy; cases hxy
 rcases Nat.lt_or_gt_of_ne hne with h | h
 · exact symm _ _ (key hk hi h)
 · exact key hi hk h
theorem found_other {mode W : Int} {L : List Snd} {h : Hdr} {i : Nat} (hv : validC mode W L = true) (hf : Found L h i) {k : Nat} {t : Snd} (hk : L[k]? = some t) (hne : k ≠ i) (ha : t.act = true) : sameB (headS t) h = false := by
 obtain ⟨s, hs, ⟨h1, h2⟩ | ⟨h1, h2, _⟩⟩ := hf
 · cases hc : sameB (headS t) h
   · rfl
   · have := likeNo hv hk hs hne
     simp only [likeB, ha, h1, Bool.true_and] at this
     rw [sameB_trans hc (sameB_symm h2)] at this
     cases this
 · exact h2 k t (lt_someG hk) hk ha
theorem valid_set {mode W : Int} {L : List Snd} {h : Hdr} {i : Nat} {R : Snd} (hv : validC mode W L = true) (hf : Found L h i) (hR : ctxB mode W R = true) (_ha : R.act = true) (hh : sameB (headS R) h = true) : validC mode W (L.set i R) = true := by
 obtain ⟨g1, g2, g3⟩ := valid_parts hv
 have hil : i < L.length := by obtain ⟨s, hs, _⟩ := hf; exact lt_someG hs
 refine valid_yes g1 (by simpa using g2) fun j hj => ?_
 have hj' : j < L.length := by simpa using hj
 obtain ⟨t, ht⟩ : ∃ t, L[j]? = some t := ⟨L[j], List.getElem?_eq_getElem hj'⟩
 have hoj := g3 j hj'
 rw [okAt_at ht, Bool.and_eq_true, Bool.not_eq_true', List.any_eq_false] at hoj
 have noR : ∀ k x, L[k]? = some x → k ≠ i → likeB x R = false ∧ likeB R x = false := by
   intro k x hx hne
   constructor
   · cases hl : likeB x R
     · rfl
     · simp only [likeB, Bool.and_eq_true] at hl
       have := found_other hv hf hx hne hl.1
       rw [sameB_trans hl.2.2 hh] at this
       cases this
   · cases hl : likeB R x
     · rfl
     · simp only [likeB, Bool.and_eq_true] at hl
       have := found_other hv hf hx hne hl.2.1
       rw [sameB_trans (sameB_symm hl.2.2) hh] at this
       cases this
 have mems : ∀ x ∈ (L.set i R).take j, ∃ k, k < j ∧ ((k = i ∧ x = R) ∨ (k ≠ i ∧ L[k]? = some x)) := by
   intro x hx
   obtain ⟨k, hk⟩ := List.getElem?_of_mem hx
   rw [List.getElem?_take] at hk
   split at hk
   · rename_i hkj
     by_cases he : k = i
     · subst he
       rw [List.getElem?_set_self hil] at hk
       injection hk with hk
       exact ⟨k, hkj, .inl ⟨rfl, hk.symm⟩⟩
     · rw [List.getElem?_set_ne (fun e => he e.symm)] at hk
       exact ⟨k, hkj, .inr ⟨he, hk⟩⟩
   · cases hk
 by_cases hji : j = i
 · subst hji
   rw [okAt_at (List.getElem?_set_self hil), Bool.and_eq_true, Bool.not_eq_true', List.any_eq_false]
   refine ⟨hR, fun x hx => ?_⟩
   obtain ⟨k, hkj, ⟨h1, _⟩ | ⟨h1, h2⟩⟩ := mems x hx
   · omega
   · rw [(noR k x h2 h1).2]; simp
 · rw [okAt_at (by rw [List.getElem?_set_ne (fun e => hji e.symm)]; exact ht), Bool.and_eq_true, Bool.not_eq_true', List.any_eq_false]
   refine ⟨hoj.1, fun x hx => ?_⟩
   obtain ⟨k, hkj, ⟨h1, h2⟩ | ⟨h1, h2⟩⟩ := mems x hx
   · rw [h2, (noR j t ht hji).1]; simp
   · exact hoj.2 x (by
       apply List.mem_of_getElem? (i := k)
       rw [List.getElem?_take, if_pos hkj]; exact h2)
theorem parseF_ok {xs : List Int} (h : (parseF xs).2.2 = 0) : validH (parseF xs).1 = true ∧ (parseF xs).2.1.length ≤ 1500 := by
 unfold parseF at h ⊢
 split at h
 · cases h
 · rename_i hl
   rw [if_neg hl]
   split at h
   · rename_i hb
     rw [if_pos hb]
     refine ⟨?_, by simp only [List.length_drop]; omega⟩
     cases hv : validH (parseH xs)
     · exfalso
       have : (buildF (parseH xs) (xs.drop (parseN xs))).2 = [] := by unfold buildF; rw [hv]; rfl
       rw [this] at hb
       rw [← hb] at hl
       simp at hl
     · rfl
   · cases h
theorem gr_any {w w' : World} (h : Gr w w') (r : Option Nat) : w.grownBy w' r := ⟨h.os, h.tape, h.output, h.size, fun i hi _ => h.block i hi (by simp)⟩
abbrev Blks := List (Nat × TypeId × List Value)
def Buf (w0 : World) (gs : Blks) (a : Option Addr) (n cap : Nat) (xs : List Int) (wn : World) : Prop :=
 (∀ (i g : Nat) (t : TypeId) (cs : List Value), gs[i]? = some (g, t, cs) → CBlk g t cs wn ∧ (Value.slice a n cap).ownBlock ≠ some g) ∧ OwnI w0.heap.size 5 .u8 wn a n cap xs ∧ Gr w0 wn
section
variable {w0 wn w' : World} {gs : Blks} {a : Option Addr} {n cap : Nat} {xs : List Int}
theorem Buf.blk (hI : Buf w0 gs a n cap xs wn) (i : Nat) {g : Nat} {t : TypeId} {cs : List Value} (h : gs[i]? = some (g, t, cs)) : CBlk g t cs wn := (hI.1 i g t cs h).1
theorem Buf.at (hI : Buf w0 gs a n cap xs wn) (i : Nat) {g : Nat} {t : TypeId} {cs : List Value} (h : gs[i]? = some (g, t, cs)) (j : Nat) {v : Value} (hv : cs[j]? = some v) : wn.cell? ⟨g, j, none⟩ = some v := (hI.blk i h).at j hv
theorem Buf.own (hI : Buf w0 gs a n cap xs wn) : OwnI w0.heap.size 5 .u8 wn a n cap xs := hI.2.1
theorem Buf.gr0 (hI : Buf w0 gs a n cap xs wn) : Gr w0 wn := hI.2.2
theorem Buf.turn {a' : Option Addr} {n' cap' : Nat} {ys : List Int} (hI : Buf w0 gs a n cap xs wn) (ho : OwnI w0.heap.size 5 .u8 w' a' n' cap' ys) (hg : wn.grownBy w' (Value.slice a n cap).ownBlock) (hf : Follows wn (.slice a n cap) (.slice a' n' cap')) : Buf w0 gs a' n' cap' ys w' := by
 obtain ⟨h1, h2, h3⟩ := hI
 refine ⟨fun i g t cs h => ?_, ho, grown_own h3 h2 (Nat.le_refl _) hg⟩
 obtain ⟨k1, k2⟩ := h1 i g t cs h
 refine ⟨k1.but hg fun e => k2 e.symm, fun e => ?_⟩
 rcases hf with hf | ⟨g', hf, hle⟩
 · rw [hf] at e; exact k2 e
 · rw [hf] at e
   injection e with e
   have := k1.lt
   omega
theorem Buf.gr (hI : Buf w0 gs a n cap xs wn) (hg : Gr wn w') : Buf w0 gs a n cap xs w' :=
 ⟨fun i g t cs h => ⟨(hI.1 i g t cs h).1.kept hg, (hI.1 i g t cs h).2⟩, hI.2.1.stay hg, hI.2.2.trans hg⟩
theorem Buf.start (h1 : ∀ (i g : Nat) (t : TypeId) (cs : List Value), gs[i]? = some (g, t, cs) → CBlk g t cs wn) (h3 : Gr w0 wn) : Buf w0 gs none 0 0 [] wn :=
 ⟨fun i g t cs h => ⟨h1 i g t cs h, by simp [Value.ownBlock]⟩, OwnI.nil _ _ _ _, h3⟩
theorem Buf.one {g : Nat} {t : TypeId} {cs : List Value} (h1 : CBlk g t cs wn) (h3 : Gr w0 wn) : Buf w0 [(g, t, cs)] none 0 0 [] wn :=
 Buf.start (fun i g' t' cs' h => by
   rcases i with _ | i
   · simp only [List.getElem?_cons_zero] at h
     injection h with h
     cases h
     exact h1
   · simp at h) h3
theorem Buf.add (hI : Buf w0 gs a n cap xs wn) {g : Nat} {t : TypeId} {cs : List Value} (hb : CBlk g t cs w') (hg : Gr wn w') (hle : wn.heap.size ≤ g) : Buf w0 ((g, t, cs) :: gs) a n cap xs w' := by
 obtain ⟨h1, h2, h3⟩ := hI.gr hg
 refine ⟨fun i g' t' cs' h => ?_, h2, h3⟩
 rcases i with _ | i
 · simp only [List.getElem?_cons_zero] at h
   injection h with h
   cases h
   refine ⟨hb, fun e => ?_⟩
   have := (hI.2.1.below _ e).2
   omega
 · exact h1 i g' t' cs' (by simpa using h)
theorem Buf.drop {p : Nat × TypeId × List Value} (hI : Buf w0 (p :: gs) a n cap xs wn) : Buf w0 gs a n cap xs wn :=
 ⟨fun i g t cs h => hI.1 (i + 1) g t cs (by simpa using h), hI.2.1, hI.2.2⟩
theorem Buf.put (hI : Buf w0 gs a n cap xs wn) (K : Int) (k N : Nat) (x : Int) (hK : K = k) (hN : N = n + k) (hn : n ≤ 20000) (hk : k ≤ 7) :
   Calls Tryd.prog 51 #[.slice a n cap, .int .i64 K, .int .i64 x] wn fun e w' => ∃ a' cap', e = .returned (.slice a' N cap') ∧ Buf w0 gs a' N cap' (xs ++ putR x k) w' := by
 refine (put_any _ a n cap xs K k x wn hK hI.2.1 (by omega) hk hI.2.2.size).mono ?_
 rintro e w' ⟨a', cap', n', e1, e2, ho, hg, hf⟩
 subst hN
 subst e1
 exact ⟨a', cap', e2, hI.turn ho hg hf⟩
theorem Buf.app (hI : Buf w0 gs a n cap xs wn) (b : Option Addr) (m c : Nat) (ys : List Int) (N : Nat) (hN : N = n + m) (hr : Rd .u8 wn b m ys) (hn : n + m ≤ 140737488355328) :
   ∃ a' cap' w', (Builtin.append_ #[39, 39] 39 #[.slice a n cap, .slice b m c]).run Tryd.prog wn = .ok (.slice a' N cap') w' ∧ Buf w0 gs a' N cap' (xs ++ ys) w' := by
 subst hN
 obtain ⟨a', cap', w', h1, h2, h3, h4⟩ := app_u8 _ wn a n cap xs hI.2.1 b m c ys hr hn hI.2.2.size
 exact ⟨a', cap', w', h1, hI.turn h2 h3 h4⟩
theorem Buf.lit (hI : Buf w0 gs a n cap xs wn) (zs : List Int) (m N : Nat) (hN : N = n + m) (hm : zs.length = m) (hz : ∀ z ∈ zs, 0 ≤ z ∧ z ≤ 255) (hn : n + m ≤ 100000000) (hm2 : m ≤ 10000) :
   ∃ a' cap' w', (Builtin.append_ #[39, 39] 39 #[.slice a n cap, .slice (some ⟨wn.heap.size, 0, none⟩) m m]).run Tryd.prog (wn.alloc (.cells (zs.map (Value.int .u8)).toArray 5)) = .ok (.slice a' N cap') w' ∧ Buf w0 gs a' N cap' (xs ++ zs) w' := by
 have hrd := rd_new (k := .u8) (w := wn) zs 5 (0, 0) m hm (by simp only [maxLen]; omega) (fun z h => by have := hz z h; exact WalkArith.wf_u8 (by omega))
 exact (hI.gr (Gr.alloc _ _)).app _ m m zs N hN hrd (by omega)
end
theorem tq_app {P : Program} {o : Oper} {a : Act} {w : World} {K : Act → World → Prop} (s x : Operand) (t : TypeId)
   (ho : o.op = .call { callee := .builtin .append, args := #[s, x], argTypes := #[t, t] }) {vs vx v' : Value} {w' : World} (hs : a.eval s = vs) (hx : a.eval x = vx)
   (hrun : (Builtin.append_ #[t, t] o.type #[vs, vx]).run P w = .ok v' w') (h : K (a.put o.dst v') w') : Sched.tq P o a w K := by
 unfold Sched.tq execOp
 simp only [ho, resolve, invoke, builtin, Sem.run_bind, Sem.run_pure, Result.andThen_ok, List.map_toArray, List.map_cons, List.map_nil, hs, hx, hrun]
 exact h
theorem rd_cblk {w : World} {g : Nat} (zs : List Int) (m : Nat) {cs : List Value} (h : CBlk g 5 cs w) (hc : cs = zs.map (Value.int .u8)) (hm : zs.length = m) (hl : m ≤ 100) (hb : ∀ z ∈ zs, 0 ≤ z ∧ z ≤ 255) : Rd .u8 w (some ⟨g, 0, none⟩) m zs := by
 subst hc
 refine ⟨hm, fun z hz => WalkArith.wf_u8 (by have := hb z hz; omega), by simp only [maxLen]; omega, .inr ⟨g, 0, rfl, h.lt, fun i hi => ?_⟩⟩
 rw [Nat.zero_add, cell_of_block h]
 simp [show i < zs.length by omega]
def EBuf (w0 : World) (gs : Blks) (lo hi : Nat) (v : Value) (wn : World) : Prop := ∃ a n cap xs, v = .slice a n cap ∧ lo ≤ n ∧ n ≤ hi ∧ Buf w0 gs a n cap xs wn
end Go.Proofs.YtlnkofpcidngoaaDoor
