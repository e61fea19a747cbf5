/- Several texts in one. -/
import Derived.Test.YtlnkofpcidngoaaDoorB0
import Derived.Test.YtlnkofpcidngoaaDoorB31
import Derived.Test.YtlnkofpcidngoaaDoorB21
import Derived.Test.YtlnkofpcidngoaaDoorB24
import Derived.Test.YtlnkofpcidngoaaDoorB22
import Derived.Test.YtlnkofpcidngoaaDoorB1
import Derived.Test.YtlnkofpcidngoaaDoorB2
namespace Go.Proofs.YtlnkofpcidngoaaDoor
open Go.ChangeShapes Go.WideShapes Go.ChangeAt Go.RowKit
def RawPost (w : World) (e : Ending) (w' : World) : Prop := ∃ a n cap ys, e = .returned (.slice a n cap) ∧ 1 ≤ n ∧ n ≤ 1570 ∧ OwnI w.heap.size 5 .u8 w' a n cap ys ∧ Gr w w'
set_option maxRecDepth 20000 in
set_option maxHeartbeats 2000000 in
theorem raw_any (b : Option Addr) (bn bc : Nat) (xs : List Int) (w : World) (hb : Rd .u8 w b bn xs) (hn : bn ≤ 1500) : Calls Tryd.prog 34 #[.slice b bn bc] w (RawPost w) := by
 have HX := zqd (enc8_yes ⟨0, 6, 0, 0, 0, 0, 0, kindH 0, 0, 0, 0, b, bn, bc⟩ xs w ⟨rfl, hn, .inr (.inr ⟨rfl, rfl, rfl, rfl, rfl, rfl, rfl, rfl, rfl, rfl, rfl⟩)⟩ hb)
 clear hb
 go_enter Tryd.func34, Tryd.ntmps34
 go_wp2_with fail
 refine HX.out.mono ?_
 rintro e w2 ⟨a, m, cap, ys, rfl, h1, h2, ho, hg⟩
 have HO := zqd ho
 have HG := zqd hg
 clear ho hg
 go_wp2_with fail
 go_ret
 exact ⟨a, m, cap, ys, rfl, h1, h2, HO.out, HG.out⟩
theorem owni_other {B lo : Nat} {e : TypeId} {k : IntKind} {w w' : World} {a : Option Addr} {n cap : Nat} {xs : List Int} (h : OwnI lo e k w a n cap xs) {g : Nat} (hg : w.grownBy w' (Option.some g)) (hl : g < B) (hB : B ≤ lo) : OwnI lo e k w' a n cap xs :=
 h.kept hg (by
   cases hv : (Value.slice a n cap).ownBlock with
   | none => exact .inl rfl
   | some q => right; intro e; injection e with e; have := (h.below q hv).1; omega)
def NRaw : Sched.NPred := fun lo _ v w => ∃ a n c ys, v = .slice a n c ∧ 1 ≤ n ∧ n ≤ 1570 ∧ OwnI lo 5 .u8 w a n c ys
theorem NRaw.stable : Sched.Stable NRaw := by
 rintro lo hi v w w' ⟨a, n, c, ys, rfl, h1, h2, ho⟩ hg
 exact ⟨a, n, c, ys, rfl, h1, h2, ho.stay hg⟩
def AboveC (B : Nat) (a : Option Addr) (M : List Snd) : Prop := (∀ b off, a = some ⟨b, off, none⟩ → B ≤ b) ∧ ∀ t ∈ M, ∀ b off, t.a = some ⟨b, off, none⟩ → B ≤ b
theorem OwnC.aboveC {B B' : Nat} {w : World} {a : Option Addr} {n c : Nat} {M : List Snd} (h : OwnC B w a n c M) (hB : B' ≤ B) : AboveC B' a M := by
 refine ⟨fun b off e => ?_, fun t ht b off e => ?_⟩
 · have := (own_blockG h.1 e).2.2.1; omega
 · have := (own_blockG (h.2.1 t ht).1 e).2.2.1; omega
def CmpPost (mode W : Int) (L : List Snd) (F : Hdr × List Int × Int) (w : World) (e : Ending) (w' : World) : Prop :=
 ∃ a' c' M b bn bc bs, e = .returned (.tuple #[CVal mode W a' 16 c', .slice b bn bc, .int .i64 0]) ∧ RdC w' a' 16 c' M ∧ validC mode W M = true ∧ 1 ≤ bn ∧ bn ≤ 1570 ∧ Rd .u8 w' b bn bs ∧ Gr w w' ∧ AboveC w.heap.size a' M ∧ (F.2.2 = 0 → mode = 3 → (∀ s ∈ L, s.act = false) → ∃ R, M[0]? = some R ∧ R.act = true ∧ R.full = W ∧ R.refr = 0 ∧ R.ser = 0 ∧ R.refs = [F.1])
theorem same_act {L M : List Snd} (h : SameL L M) : (∀ s ∈ L, s.act = false) → ∀ t ∈ M, t.act = false := by
 intro hz t ht
 obtain ⟨k, hk⟩ := List.getElem?_of_mem ht
 obtain ⟨s, hs, he⟩ := h.symm.get hk
 have := hz s (List.mem_of_getElem? hs)
 have e2 := congrArg Snd.act he
 simpa [plainS, this] using e2.symm
theorem all_act {mode W : Int} {L M : List Snd} (hv : validC mode W M = true) (hall : ∀ (k : Nat) (t : Snd), k < M.length → M[k]? = some t → t.act = true) (hact : (∀ s ∈ L, s.act = false) → ∀ t ∈ M, t.act = false) : ¬ ∀ s ∈ L, s.act = false := by
 intro hz
 have hl := (valid_parts hv).2.1
 have hl0 : 0 < M.length := by omega
 have h0 : M[0]? = some M[0] := List.getElem?_eq_getElem hl0
 have h1 := hall 0 _ (by omega) h0
 have h2 := hact hz _ (List.getElem_mem hl0)
 rw [h1] at h2
 cases h2
def LstRel (g13 g16 : Nat) (S0 : Snd) (w7 wc : World) : Prop := ∃ last, CBlk g13 46 (SCells S0) wc ∧ CBlk g16 49 (HCells last) wc ∧ Gr w7 wc
def SgnRel (g13 g16 : Nat) (S0 : Snd) (last : Hdr) (w7 wc : World) : Prop := CBlk g13 46 (SCells S0) wc ∧ CBlk g16 49 (HCells last) wc ∧ Gr w7 wc
def CmRel (E : Snd → Prop) (mode W : Int) (h : Hdr) (A : Bool) (g13 g16 : Nat) (last : Hdr) (w7 wc : World) : Prop := ∃ P, CI mode W h A P ∧ E P ∧ CBlk g13 46 (SCells P) wc ∧ CBlk g16 49 (HCells last) wc ∧ Gr w7 wc
def BegRel (E : Snd → Prop) (mode W : Int) (h : Hdr) (A : Bool) (g13 g16 : Nat) (last : Hdr) (w7 : World) (v : Value) (wc : World) : Prop := ∃ beg : Bool, v = .bool beg ∧ ∃ P, CI mode W h A P ∧ E P ∧ (beg = false → P.ser ≤ P.n ∧ A = true) ∧ CBlk g13 46 (SCells P) wc ∧ CBlk g16 49 (HCells last) wc ∧ Gr w7 wc
def SameRef (S0 P : Snd) : Prop := P.a = S0.a ∧ P.n = S0.n ∧ P.c = S0.c ∧ P.refs = S0.refs
def NoRef (P : Snd) : Prop := P.a = none ∧ P.n = 0 ∧ P.c = 0 ∧ P.refs = []
def RefE (mode : Int) (S0 P : Snd) : Prop := (SameRef S0 P ∨ NoRef P) ∧ (mode = 3 → P.n ≤ 31)
def FinE (mode : Int) (S0 P : Snd) : Prop := RefE mode S0 P ∧ P.ser ≤ P.n
theorem ref_rd {mode : Int} {S0 P : Snd} {w : World} (h : RefE mode S0 P) (hr : RdH w S0.a S0.n S0.c S0.refs) : RdH w P.a P.n P.c P.refs := by
 rcases h.1 with ⟨e1, e2, e3, e4⟩ | ⟨e1, e2, e3, e4⟩
 · rw [e1, e2, e3, e4]; exact hr
 · rw [e1, e2, e3, e4]; exact (OwnHd.nil 0 w).rd (fun x hx => by cases hx)
def FmtRel (mode W : Int) (h : Hdr) (A : Bool) (S0 : Snd) (g13 g16 : Nat) (last : Hdr) (w7 : World) (v : Value) (wc : World) : Prop := ∃ F : Int, v = .int .i64 F ∧ (F = 1 ∨ F = 2 ∨ F = 3 ∨ F = 4 ∨ F = 5) ∧ ∃ P, CI mode W h A P ∧ FinE mode S0 P ∧ ((F = 5 → 0 < P.full) ∧ (F = 4 → 0 < P.refr)) ∧ CBlk g13 46 (SCells P) wc ∧ CBlk g16 49 (HCells last) wc ∧ Gr w7 wc
def BoolRel (E : Bool → Prop) (wd : World) (v : Value) (wc : World) : Prop := ∃ C : Bool, v = .bool C ∧ E C ∧ Gr wd wc
theorem run_neqD (a b c d : Int) (w : World) : (binOp .neq 43 (DVal a b) (DVal c d)).run Tryd.prog w = .ok (.bool (!(decide (a = c) && decide (b = d)))) w := by
 go_simp
 by_cases h1 : a = c
 · rw [if_pos h1, decide_eq_true h1, Bool.not_true, Bool.false_or]
   by_cases h2 : b = d
   · rw [if_pos h2, decide_eq_true h2]; rfl
   · rw [if_neg h2, decide_eq_false h2]; rfl
 · rw [if_neg h1, decide_eq_false h1]; rfl
theorem gr_own {w wa wx : World} {r : Option Nat} (h : Gr w wa) (k : wa.grownBy wx r) (hr : ∀ q, r = some q → w.heap.size ≤ q) : Gr w wx := by
 cases r with
 | none => exact h.trans k
 | some q => exact grownBy_trans h k (.inr (.inr ⟨q, rfl, hr q rfl⟩))
theorem cblk_far {g B g7 : Nat} {t : TypeId} {cs : List Value} {w w' : World} {r : Option Nat} (hb : CBlk g t cs w) (hg : w.grownBy w' r) (hr : ∀ q, r = some q → B ≤ q ∧ q < g7) (h : g < B ∨ g7 ≤ g) : CBlk g t cs w' :=
 hb.but hg (fun e => by have := hr g e.symm; omega)
theorem ref_own {mode : Int} {S0 P : Snd} {B : Nat} {w : World} (h : RefE mode S0 P) (ho : OwnHd B w S0.a S0.n S0.c S0.refs) : OwnHd B w P.a P.n P.c P.refs := by
 rcases h.1 with ⟨e1, e2, e3, e4⟩ | ⟨e1, e2, e3, e4⟩
 · rw [e1, e2, e3, e4]; exact ho
 · rw [e1, e2, e3, e4]; exact OwnHd.nil B w
theorem ref_blk {mode : Int} {S0 P : Snd} (h : RefE mode S0 P) : ownB P.a P.n P.c = none ∨ ownB P.a P.n P.c = ownB S0.a S0.n S0.c := by
 rcases h.1 with ⟨e1, e2, e3, e4⟩ | ⟨e1, e2, e3, e4⟩
 · rw [e1, e2, e3]; exact .inr rfl
 · rw [e1, e2, e3]; exact .inl rfl
theorem hok_valid {h : Hdr} (hv : validH h = true) : HOk h := by
 obtain ⟨hk, h1, h2, h3, h4, h5, h6, h7, h8, h9, hu, hr⟩ := valid_all hv
 unfold HOk i64
 rcases hk with hk | hk
 · have := hu hk; omega
 · have := hr hk; omega
def TInv (B g7 g3 c3 : Nat) (M : List Snd) (i : Nat) (S0 : Snd) (w : World) : Prop :=
 Elt B g3 16 c3 M i S0 w ∧ (B ≤ g3 ∧ g3 < g7) ∧ ∀ k t, k ≠ i → M[k]? = some t → RdH w t.a t.n t.c t.refs ∧ ∀ q off, t.a = some ⟨q, off, none⟩ → B ≤ q ∧ q < g7 ∧ q ≠ g3
theorem pair_ne {L : List Snd} (hp : L.Pairwise (fun s t => ∀ g, ownB s.a s.n s.c = some g → ownB t.a t.n t.c ≠ some g)) {k i : Nat} {t s : Snd} (hk : L[k]? = some t) (hi : L[i]? = some s) (hne : k ≠ i) : ∀ g, ownB t.a t.n t.c = some g → ownB s.a s.n s.c ≠ some g := by
 rw [List.pairwise_iff_getElem] at hp
 obtain ⟨hk1, hk2⟩ := List.getElem?_eq_some_iff.1 hk
 obtain ⟨hi1, hi2⟩ := List.getElem?_eq_some_iff.1 hi
 intro g hg hs
 rcases Nat.lt_or_gt_of_ne hne with h | h
 · have := hp k i hk1 hi1 h g (by rw [hk2]; exact hg)
   rw [hi2] at this
   exact this hs
 · have := hp i k hi1 hk1 h g (by rw [hi2]; exact hs)
   rw [hk2] at this
   exact this hg
theorem after_app {B g7 g3 c3 : Nat} {M : List Snd} {i : Nat} {S0 : Snd} {w w' : World} {r : Option Nat} (h : OwnC B w (some ⟨g3, 0, none⟩) 16 c3 M) (hi : M[i]? = some S0) (hl : (B ≤ g3 ∧ g3 < g7) ∧ ∀ t ∈ M, ∀ q, ownB t.a t.n t.c = some q → B ≤ q ∧ q < g7) (hg : w.grownBy w' r) (hr : r = none ∨ r = ownB S0.a S0.n S0.c) : TInv B g7 g3 c3 M i S0 w' := by
 refine ⟨⟨h.1.kept hg ?_, hi⟩, hl.1, fun k t hne hk => ?_⟩
 · right
   rcases hr with rfl | rfl
   · intro e; cases e
   · intro e
     exact h.2.2.1 S0 (List.mem_of_getElem? hi) g3 e.symm rfl
 · have hm := List.mem_of_getElem? hk
   have ho := (h.2.1 t hm).1
   refine ⟨OwnHd.rd (B := B) (ho.kept hg ?_) (h.2.1 t hm).2, fun q off e => ?_⟩
   · cases hv : (Value.slice t.a t.n t.c).ownBlock with
     | none => exact .inl rfl
     | some q =>
       right
       rcases hr with rfl | rfl
       · intro e; cases e
       · intro e
         exact pair_ne h.2.2.2 hk hi hne q hv e.symm
   · have hb := (own_blockG ho e).2.1
     have h2 := hl.2 t hm q hb
     refine ⟨h2.1, h2.2, fun e3 => ?_⟩
     subst e3
     exact h.2.2.1 t hm q hb rfl
theorem TInv.but {B g7 g3 c3 : Nat} {M : List Snd} {i : Nat} {S0 : Snd} {w w' : World} {g : Nat} (h : TInv B g7 g3 c3 M i S0 w) (hg : w.grownBy w' (some g)) (hh : g7 ≤ g ∨ g < B) : TInv B g7 g3 c3 M i S0 w' := by
 obtain ⟨h1, h2, h3⟩ := h
 have hne3 : g3 ≠ g := by omega
 refine ⟨⟨h1.1.kept hg (.inr (fun e => hne3 (Option.some.inj e))), h1.2⟩, h2, fun k t hne hk => ?_⟩
 obtain ⟨q1, q2⟩ := h3 k t hne hk
 exact ⟨rdh_but q1 hg (fun b off e => by have := q2 b off e; intro e2; injection e2 with e2; omega), q2⟩
theorem TInv.gr {B g7 g3 c3 : Nat} {M : List Snd} {i : Nat} {S0 : Snd} {w w' : World} (h : TInv B g7 g3 c3 M i S0 w) (hg : Gr w w') : TInv B g7 g3 c3 M i S0 w' :=
 ⟨h.1.kept hg, h.2.1, fun k t hne hk => ⟨(h.2.2 k t hne hk).1.kept hg, (h.2.2 k t hne hk).2⟩⟩
theorem TInv.done {B g7 g3 c3 : Nat} {M : List Snd} {i : Nat} {S0 R : Snd} {w w' : World} (h : TInv B g7 g3 c3 M i S0 w) (hR : RdH w R.a R.n R.c R.refs) (hq : ∀ q off, R.a = some ⟨q, off, none⟩ → q ≠ g3) (hw : w.setCells g3 (i * 9) (SCells R) = w') : RdC w' (some ⟨g3, 0, none⟩) 16 c3 (M.set i R) := by
 obtain ⟨h1, h2, h3⟩ := h
 have hil := lt_someG h1.2
 have ho := own_set scells_len h1.1 i 0 S0 R (SCells R) h1.2 (by simp) (setM_whole _ _ rfl)
 rw [Nat.add_zero, hw] at ho
 obtain ⟨c1, c2, c4⟩ := own_capG ho
 have hlen := flat_lenG scells_len M
 have hlM : M.length = 16 := by have := h1.1.1; rw [hlen] at this; omega
 have hgg : w.grownBy w' (some g3) := by rw [← hw]; exact grown_setCells g3 _ _ w
 refine ⟨by simpa using hlM, c1, c2, c4, own_segG ho, fun y hy => ?_⟩
 obtain ⟨k, hk⟩ := List.getElem?_of_mem hy
 by_cases hki : k = i
 · subst hki
   rw [List.getElem?_set_self hil] at hk
   injection hk with hk
   subst hk
   exact rdh_but hR hgg (fun b off e => by have := hq b off e; intro e2; injection e2 with e2; omega)
 · rw [List.getElem?_set_ne (fun e => hki e.symm)] at hk
   obtain ⟨q1, q2⟩ := h3 k y hki hk
   exact rdh_but q1 hgg (fun b off e => by have := q2 b off e; intro e2; injection e2 with e2; omega)
theorem TInv.above {B g7 g3 c3 : Nat} {M : List Snd} {i : Nat} {S0 R : Snd} {w : World} (h : TInv B g7 g3 c3 M i S0 w) (hq : ∀ q off, R.a = some ⟨q, off, none⟩ → B ≤ q) {p : Nat} (hp : p < B) : ∀ y ∈ M.set i R, NotIn p y.a := by
 intro y hy b off e
 obtain ⟨k, hk⟩ := List.getElem?_of_mem hy
 by_cases hki : k = i
 · subst hki
   rw [List.getElem?_set_self (lt_someG h.1.2)] at hk
   injection hk with hk
   subst hk
   have := hq b off e
   omega
 · rw [List.getElem?_set_ne (fun e => hki e.symm)] at hk
   have := (h.2.2 k y hki hk).2 b off e
   omega
theorem TInv.aboveC {B g7 g3 c3 : Nat} {M : List Snd} {i : Nat} {S0 R : Snd} {w : World} (h : TInv B g7 g3 c3 M i S0 w) (hq : ∀ q off, R.a = some ⟨q, off, none⟩ → B ≤ q) {B' : Nat} (hB : B' ≤ B) : AboveC B' (some ⟨g3, 0, none⟩) (M.set i R) := by
 refine ⟨fun b off e => ?_, fun y hy b off e => ?_⟩
 · injection e with e; injection e with e1 e2
   have := h.2.1.1; omega
 · obtain ⟨k, hk⟩ := List.getElem?_of_mem hy
   by_cases hki : k = i
   · subst hki
     rw [List.getElem?_set_self (lt_someG h.1.2)] at hk
     injection hk with hk
     subst hk
     have := hq b off e
     omega
   · rw [List.getElem?_set_ne (fun e => hki e.symm)] at hk
     have := (h.2.2 k y hki hk).2 b off e
     omega
theorem TInv.there {B g7 g3 c3 : Nat} {M : List Snd} {i : Nat} {S0 : Snd} {w : World} (h : TInv B g7 g3 c3 M i S0 w) : w.there g3 (i * 9) 9 := by
 have := own_thereG scells_len h.1.1 i (lt_someG h.1.2) 0 9 (by omega)
 rwa [Nat.add_zero] at this
def TailRel (mode W : Int) (h : Hdr) (A : Bool) (B g3 g13 : Nat) (wy wc : World) : Prop := ∃ R : Snd, (ctxB mode W R = true ∧ R.act = true ∧ sameB (headS R) h = true) ∧ (dynB R.str R.fol = true ∧ (h.kind = 1 → R.str = 0 ∧ R.fol = 0)) ∧ (A = false → mode = 3 → R.full = W ∧ R.refr = 0 ∧ R.ser = 0 ∧ R.refs = [h]) ∧ CBlk g13 46 (SCells R) wc ∧ RdH wc R.a R.n R.c R.refs ∧ (∀ q off, R.a = some ⟨q, off, none⟩ → q ≠ g3 ∧ q ≠ g13 ∧ B ≤ q) ∧ wy.grownBy wc (some g13)
theorem found_zero {M : List Snd} {h : Hdr} {i : Nat} (hf : Found M h i) (hz : ∀ t ∈ M, t.act = false) : i = 0 := by
 obtain ⟨s, hs, ⟨h1, _⟩ | ⟨_, _, h3⟩⟩ := hf
 · have := hz s (List.mem_of_getElem? hs)
   rw [h1] at this; cases this
 · rcases Nat.eq_zero_or_pos i with h0 | h0
   · exact h0
   · have hl := lt_someG hs
     have hl0 : 0 < M.length := by omega
     have h4 := h3 0 M[0] h0 (List.getElem?_eq_getElem hl0)
     have h5 := hz _ (List.getElem_mem hl0)
     rw [h4] at h5; cases h5
theorem info_i64 : (Tryd.prog.info? 3).map (fun i => (i.zero, i.size, i.bytes)) = some (some (.int .i64 0), 1, 8) := by kernel_rfl
theorem app_i64 (B : Nat) (w : World) (a : Option Addr) (n cap : Nat) (xs : List Int) (hown : OwnI B 3 .i64 w a n cap xs)
   (b : Option Addr) (m c : Nat) (ys : List Int) (hr : Rd .i64 w b m ys) (hlen : n + m ≤ 17592186044416) (hbase : B ≤ w.heap.size) :
   ∃ a' cap' w', (Builtin.append_ #[27, 27] 27 #[.slice a n cap, .slice b m c]).run Tryd.prog w = .ok (.slice a' (n + m) cap') w' ∧ OwnI B 3 .i64 w' a' (n + m) cap' (xs ++ ys) ∧
     w.grownBy w' (Value.slice a n cap).ownBlock ∧ Follows w (.slice a n cap) (.slice a' (n + m) cap') := by
 obtain ⟨i0, hi, hz0, hz1, hz2⟩ := info_parts info_i64
 exact run_appI B _ _ _ i0 (.int .i64 0) .i64 8 Tryd.underlying27 hi hz0 hz1 hz2 rfl w a n cap xs hown b m c ys hr (by omega) (by simp [maxLen]; omega) hbase
theorem Rd.take {k : IntKind} {w : World} {a : Option Addr} {len : Nat} {xs : List Int} (h : Rd k w a len xs) (n : Nat) (hn : n ≤ len) : Rd k w a n (xs.take n) := by
 obtain ⟨h1, h2, h3, h4⟩ := h
 refine ⟨by simp; omega, fun x hx => h2 x (List.mem_of_mem_take hx), by omega, ?_⟩
 rcases h4 with h0 | ⟨b, off, rfl, hb, hc⟩
 · exact .inl (by omega)
 · refine .inr ⟨b, off, rfl, hb, fun i hi => ?_⟩
   rw [hc i (by omega), List.getElem?_take_of_lt hi]
def offS (k : Int) : Int := if 3 ≤ k ∧ k ≤ 32 then 2 ^ (k - 3).toNat - 1 else -1
def knownB (w : Int) : Bool := decide (w = 8 ∨ w = 16 ∨ w = 32)
def valB (w v : Int) : Bool := decide (0 ≤ v ∧ v < 2 ^ w.toNat)
def decS (w r k low : Int) : Int := lowS w (r - offS k + distS k (r - offS k) low)
def decV (w r k low : Int) : Int := if knownB w && decide (3 ≤ k ∧ k ≤ w) && valB w r && valB k low then decS w r k low else 0
def decE (w r k low : Int) : Int := if knownB w then (if decide (3 ≤ k ∧ k ≤ w) && valB w r && valB k low then 0 else 3) else 7
def fitOne (w k v r : Int) : Bool := valB w r && (decS w r k (lowS k v) == v)
def fitHead (w k v : Int) : Bool := knownB w && decide (3 ≤ k ∧ k ≤ w) && valB w v
def fitsS (w : Int) (rs : List Int) (k v : Int) : Bool := fitHead w k v && rs.all (fitOne w k v)
theorem known_rng {w : Int} (h : knownB w = true) : 8 ≤ w ∧ w ≤ 32 := by
 simp only [knownB, decide_eq_true_eq] at h; omega
theorem off_rng {k : Int} : -1 ≤ offS k ∧ offS k < 4294967296 := by
 unfold offS; split
 · have h1 := two_pow_pos (k - 3).toNat
   have h2 : (2 : Int) ^ (k - 3).toNat ≤ 2 ^ 32 := two_pow_le (by omega)
   have h3 : (2 : Int) ^ 32 = 4294967296 := by rfl
   omega
 · omega
theorem val_rng {w v : Int} (hw : w ≤ 32) (h : valB w v = true) : 0 ≤ v ∧ v < 4294967296 := by
 simp only [valB, decide_eq_true_eq] at h
 have h2 : (2 : Int) ^ w.toNat ≤ 2 ^ 32 := two_pow_le (by omega)
 have h3 : (2 : Int) ^ 32 = 4294967296 := by rfl
 omega
theorem low_val {k v : Int} (h1 : 1 ≤ k) (h2 : k ≤ 32) : valB k (lowS k v) = true := by
 simp only [valB, lowS, vld_mk h1 h2, if_true, decide_eq_true_eq]
 have hp := two_pow_pos k.toNat
 exact ⟨Int.emod_nonneg _ (by omega), Int.emod_lt_of_pos _ hp⟩
theorem dec_yes {x r k low : Int} (h1 : knownB x = true) (h2 : 3 ≤ k ∧ k ≤ x) (h3 : valB x r = true) (h4 : valB k low = true) : decS x r k low = decV x r k low ∧ 0 = decE x r k low := by
 simp [decV, decE, h1, h2, h3, h4]
theorem dec_no {x r k low : Int} (h1 : knownB x = true) (h2 : ¬ (3 ≤ k ∧ k ≤ x ∧ valB x r = true ∧ valB k low = true)) : 0 = decV x r k low ∧ 3 = decE x r k low := by
 have : (decide (3 ≤ k ∧ k ≤ x) && valB x r && valB k low) = false := by
   cases h : (decide (3 ≤ k ∧ k ≤ x) && valB x r && valB k low)
   · rfl
   · simp only [Bool.and_eq_true, decide_eq_true_eq] at h; exact absurd ⟨h.1.1.1, h.1.1.2, h.1.2, h.2⟩ h2
 unfold decV decE
 rw [h1]
 simp only [Bool.true_and, this]
 exact ⟨rfl, rfl⟩
theorem ret_ii' {a b x y : Int} (h : a = b) (k : x = y) : Ending.returned (.tuple #[.int .i64 a, .int .i64 x]) = .returned (.tuple #[.int .i64 b, .int .i64 y]) := by rw [h, k]
theorem fits_len {w : Int} {rs : List Int} {k v : Int} (h : fitHead w k v = true) : fitsS w rs k v = rs.all (fitOne w k v) := by simp [fitsS, h]
theorem fits_nohead {w : Int} {rs : List Int} {k v : Int} (h : fitHead w k v = false) : fitsS w rs k v = false := by simp [fitsS, h]
theorem head_parts {w k v : Int} : fitHead w k v = true ↔ knownB w = true ∧ (3 ≤ k ∧ k ≤ w) ∧ valB w v = true := by
 simp [fitHead, and_assoc]
theorem fhead_no {w k v : Int} (h : ¬ (knownB w = true ∧ (3 ≤ k ∧ k ≤ w) ∧ valB w v = true)) : fitHead w k v = false := by
 cases hh : fitHead w k v
 · rfl
 · exact absurd (head_parts.1 hh) h
theorem all_drop {p : Int → Bool} (rs : List Int) (i : Nat) (h : i < rs.length) : (rs.drop i).all p = (p (rs[i]?.getD 0) && (rs.drop (i + 1)).all p) := by
 rw [List.drop_eq_getElem_cons h, List.all_cons]; simp [h]
set_option maxRecDepth 20000 in
set_option maxHeartbeats 2000000 in
theorem rwide_any (x : Int) (w : World) : Calls Tryd.prog 86 #[.int .i64 x] w fun e w' => e = .returned (.bool (knownB x)) ∧ w = w' := by
 go_enter Tryd.func86, Tryd.ntmps86
 go_wp2
 all_goals (go_ret; exact ⟨ret_bool (by rw [Bool.eq_iff_iff]; simp [knownB]; omega), rfl⟩)
set_option maxRecDepth 20000 in
set_option maxHeartbeats 2000000 in
theorem roffset_any (k : Int) (w : World) : Calls Tryd.prog 101 #[.int .i64 k] w fun e w' => e = .returned (.int .i64 (offS k)) ∧ w = w' := by
 go_enter Tryd.func101, Tryd.ntmps101
 go_wp2
 · go_ret
   exact ⟨ret_i64 (by unfold offS; rw [if_neg (by omega)]), rfl⟩
 · go_ret
   exact ⟨ret_i64 (by unfold offS; rw [if_pos (by assumption), wrap_pow1 (by omega)]), rfl⟩
 · go_ret
   exact ⟨ret_i64 (by unfold offS; rw [if_neg (by omega)]), rfl⟩
theorem val_neg {x r : Int} (h : r < 0) : valB x r = false := by simp [valB]; omega
theorem val_far {x r : Int} (h : 2 ^ x.toNat ≤ r) : valB x r = false := by simp [valB]; omega
theorem val_yes {x r : Int} (h : ¬ r < 0) (h2 : ¬ 2 ^ x.toNat ≤ r) : valB x r = true := by simp [valB]; omega
set_option maxRecDepth 20000 in
set_option maxHeartbeats 2000000 in
theorem rdecode_any (x r k low : Int) (w : World) :
   Calls Tryd.prog 87 #[.int .i64 x, .int .i64 r, .int .i64 k, .int .i64 low] w fun e w' => e = .returned (.tuple #[.int .i64 (decV x r k low), .int .i64 (decE x r k low)]) ∧ w = w' := by
 by_cases h1 : knownB x = true
 · have hx := known_rng h1
   by_cases h3 : k < 3
   · have hn := dec_no (r := r) (k := k) (low := low) h1 (fun h => by omega)
     have HN := zqd hn
     clear hn
     go_enter Tryd.func87, Tryd.ntmps87
     go_wp2_with ((go_at_call 86; refine (rwide_any _ _).mono ?_; rintro e w' ⟨rfl, rfl⟩))
     go_ret2
     exact ⟨ret_ii' HN.out.1 HN.out.2, rfl⟩
   · by_cases h4 : x < k
     · have hn := dec_no (r := r) (k := k) (low := low) h1 (fun h => by omega)
       have HN := zqd hn
       clear hn
       go_enter Tryd.func87, Tryd.ntmps87
       go_wp2_with ((go_at_call 86; refine (rwide_any _ _).mono ?_; rintro e w' ⟨rfl, rfl⟩))
       go_ret2
       exact ⟨ret_ii' HN.out.1 HN.out.2, rfl⟩
     · have hwx := wrap_pow (show x.toNat ≤ 62 by omega)
       have hwk := wrap_pow (show k.toNat ≤ 62 by omega)
       by_cases b1 : r < 0
       · have hn := dec_no (r := r) (k := k) (low := low) h1 (fun h => by rw [val_neg b1] at h; simp at h)
         have HN := zqd hn
         clear hn
         go_enter Tryd.func87, Tryd.ntmps87
         go_wp2_with ((go_at_call 86; refine (rwide_any _ _).mono ?_; rintro e w' ⟨rfl, rfl⟩))
         go_ret2
         exact ⟨ret_ii' HN.out.1 HN.out.2, rfl⟩
       · by_cases b2 : 2 ^ x.toNat ≤ r
         · have hn := dec_no (r := r) (k := k) (low := low) h1 (fun h => by rw [val_far b2] at h; simp at h)
           have HN := zqd hn
           clear hn
           go_enter Tryd.func87, Tryd.ntmps87
           go_wp2_with ((go_at_call 86; refine (rwide_any _ _).mono ?_; rintro e w' ⟨rfl, rfl⟩))
           go_ret2
           exact ⟨ret_ii' HN.out.1 HN.out.2, rfl⟩
         · by_cases b3 : low < 0
           · have hn := dec_no (r := r) (k := k) (low := low) h1 (fun h => by rw [val_neg b3] at h; simp at h)
             have HN := zqd hn
             clear hn
             go_enter Tryd.func87, Tryd.ntmps87
             go_wp2_with ((go_at_call 86; refine (rwide_any _ _).mono ?_; rintro e w' ⟨rfl, rfl⟩))
             go_ret2
             exact ⟨ret_ii' HN.out.1 HN.out.2, rfl⟩
           · by_cases b4 : 2 ^ k.toNat ≤ low
             · have hn := dec_no (r := r) (k := k) (low := low) h1 (fun h => by rw [val_far b4] at h; simp at h)
               have HN := zqd hn
               clear hn
               go_enter Tryd.func87, Tryd.ntmps87
               go_wp2_with ((go_at_call 86; refine (rwide_any _ _).mono ?_; rintro e w' ⟨rfl, rfl⟩))
               go_ret2
               exact ⟨ret_ii' HN.out.1 HN.out.2, rfl⟩
             · have h5 := val_yes b1 b2
               have h6 := val_yes b3 b4
               have hr := val_rng hx.2 h5
               have ho := off_rng (k := k)
               have hd : -1 ≤ distS k (r - offS k) low ∧ distS k (r - offS k) low < 4294967296 := lowS_rng k (low - (r - offS k))
               have hn := dec_yes h1 (by omega) h5 h6
               have HN := zqd hn
               clear hn h5 h6
               go_enter Tryd.func87, Tryd.ntmps87
               go_wp2_with (first | ((go_at_call 86; refine (rwide_any _ _).mono ?_; rintro e w' ⟨rfl, rfl⟩)) | ((go_at_call 101; refine (roffset_any _ _).mono ?_; rintro e w' ⟨rfl, rfl⟩)) | ((go_at_call 59; refine (rdist _ _ _ _).mono ?_; rintro e w' ⟨rfl, rfl⟩)) | ((go_at_call 43; refine (rlow _ _ _).mono ?_; rintro e w' ⟨rfl, rfl⟩)))
               go_ret2
               exact ⟨ret_ii' HN.out.1 HN.out.2, rfl⟩
 · have h1' : knownB x = false := by simpa using h1
   have hn : 0 = decV x r k low ∧ 7 = decE x r k low := by simp [decV, decE, h1']
   have HN := zqd hn
   clear hn h1
   go_enter Tryd.func87, Tryd.ntmps87
   go_wp2_with ((go_at_call 86; refine (rwide_any _ _).mono ?_; rintro e w' ⟨rfl, rfl⟩))
   go_ret2
   exact ⟨ret_ii' HN.out.1 HN.out.2, rfl⟩
end Go.Proofs.YtlnkofpcidngoaaDoor
