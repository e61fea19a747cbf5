import Derived.Test.YtlnkofpcidngoaaDoorK0
import Derived.Test.YtlnkofpcidngoaaDoorK27
import Derived.Test.YtlnkofpcidngoaaDoorK17
import Derived.Test.YtlnkofpcidngoaaDoorK20
namespace Go.Proofs.YtlnkofpcidngoaaDoor
open Go.ChangeShapes Go.WideShapes Go.ChangeAt Go.RowKit
def RawPost (w : World) (e : Ending) (w' : World) : Prop := ∃ a n cap ys, e = .returned (.slice a n cap) ∧ 1 ≤ n ∧ n ≤ 1570 ∧ OwnI w.heap.size 5 .u8 w' a n cap ys ∧ Gr w w'
set_option maxRecDepth 20000 in
set_option maxHeartbeats 2000000 in
theorem raw_any (b : Option Addr) (bn bc : Nat) (xs : List Int) (w : World) (hb : Rd .u8 w b bn xs) (hn : bn ≤ 1500) : Calls Tryd.prog 34 #[.slice b bn bc] w (RawPost w) := by
 have HX := zqd (enc8_yes ⟨0, 6, 0, 0, 0, 0, 0, kindH 0, 0, 0, 0, b, bn, bc⟩ xs w ⟨rfl, hn, .inr (.inr ⟨rfl, rfl, rfl, rfl, rfl, rfl, rfl, rfl, rfl, rfl, rfl⟩)⟩ hb)
 clear hb
 go_enter Tryd.func34, Tryd.ntmps34
 go_wp2_with fail
 refine HX.out.mono ?_
 rintro e w2 ⟨a, m, cap, ys, rfl, h1, h2, ho, hg⟩
 have HO := zqd ho
 have HG := zqd hg
 clear ho hg
 go_wp2_with fail
 go_ret
 exact ⟨a, m, cap, ys, rfl, h1, h2, HO.out, HG.out⟩
theorem owni_other {B lo : Nat} {e : TypeId} {k : IntKind} {w w' : World} {a : Option Addr} {n cap : Nat} {xs : List Int} (h : OwnI lo e k w a n cap xs) {g : Nat} (hg : w.grownBy w' (Option.some g)) (hl : g < B) (hB : B ≤ lo) : OwnI lo e k w' a n cap xs :=
 h.kept hg (by
   cases hv : (Value.slice a n cap).ownBlock with
   | none => exact .inl rfl
   | some q => right; intro e; injection e with e; have := (h.below q hv).1; omega)
def NRaw : Sched.NPred := fun lo _ v w => ∃ a n c ys, v = .slice a n c ∧ 1 ≤ n ∧ n ≤ 1570 ∧ OwnI lo 5 .u8 w a n c ys
theorem NRaw.stable : Sched.Stable NRaw := by
 rintro lo hi v w w' ⟨a, n, c, ys, rfl, h1, h2, ho⟩ hg
 exact ⟨a, n, c, ys, rfl, h1, h2, ho.stay hg⟩
def AboveC (B : Nat) (a : Option Addr) (M : List Snd) : Prop := (∀ b off, a = some ⟨b, off, none⟩ → B ≤ b) ∧ ∀ t ∈ M, ∀ b off, t.a = some ⟨b, off, none⟩ → B ≤ b
theorem OwnC.aboveC {B B' : Nat} {w : World} {a : Option Addr} {n c : Nat} {M : List Snd} (h : OwnC B w a n c M) (hB : B' ≤ B) : AboveC B' a M := by
 refine ⟨fun b off e => ?_, fun t ht b off e => ?_⟩
 · have := (own_blockG h.1 e).2.2.1; omega
 · have := (own_blockG (h.2.1 t ht).1 e).2.2.1; omega
def CmpPost (mode W : Int) (L : List Snd) (F : Hdr × List Int × Int) (w : World) (e : Ending) (w' : World) : Prop :=
 ∃ a' c' M b bn bc bs, e = .returned (.tuple #[CVal mode W a' 16 c', .slice b bn bc, .int .i64 0]) ∧ RdC w' a' 16 c' M ∧ validC mode W M = true ∧ 1 ≤ bn ∧ bn ≤ 1570 ∧ Rd .u8 w' b bn bs ∧ Gr w w' ∧ AboveC w.heap.size a' M ∧ (F.2.2 = 0 → mode = 3 → (∀ s ∈ L, s.act = false) → ∃ R, M[0]? = some R ∧ R.act = true ∧ R.full = W ∧ R.refr = 0 ∧ R.ser = 0 ∧ R.refs = [F.1])
theorem same_act {L M : List Snd} (h : SameL L M) : (∀ s ∈ L, s.act = false) → ∀ t ∈ M, t.act = false := by
 intro hz t ht
 obtain ⟨k, hk⟩ := List.getElem?_of_mem ht
 obtain ⟨s, hs, he⟩ := h.symm.get hk
 have := hz s (List.mem_of_getElem? hs)
 have e2 := congrArg Snd.act he
 simpa [plainS, this] using e2.symm
theorem all_act {mode W : Int} {L M : List Snd} (hv : validC mode W M = true) (hall : ∀ (k : Nat) (t : Snd), k < M.length → M[k]? = some t → t.act = true) (hact : (∀ s ∈ L, s.act = false) → ∀ t ∈ M, t.act = false) : ¬ ∀ s ∈ L, s.act = false := by
 intro hz
 have hl := (valid_parts hv).2.1
 have hl0 : 0 < M.length := by omega
 have h0 : M[0]? = some M[0] := List.getElem?_eq_getElem hl0
 have h1 := hall 0 _ (by omega) h0
 have h2 := hact hz _ (List.getElem_mem hl0)
 rw [h1] at h2
 cases h2
def LstRel (g13 g16 : Nat) (S0 : Snd) (w7 wc : World) : Prop := ∃ last, CBlk g13 46 (SCells S0) wc ∧ CBlk g16 49 (HCells last) wc ∧ Gr w7 wc
def SgnRel (g13 g16 : Nat) (S0 : Snd) (last : Hdr) (w7 wc : World) : Prop := CBlk g13 46 (SCells S0) wc ∧ CBlk g16 49 (HCells last) wc ∧ Gr w7 wc
def CmRel (E : Snd → Prop) (mode W : Int) (h : Hdr) (A : Bool) (g13 g16 : Nat) (last : Hdr) (w7 wc : World) : Prop := ∃ P, CI mode W h A P ∧ E P ∧ CBlk g13 46 (SCells P) wc ∧ CBlk g16 49 (HCells last) wc ∧ Gr w7 wc
def BegRel (E : Snd → Prop) (mode W : Int) (h : Hdr) (A : Bool) (g13 g16 : Nat) (last : Hdr) (w7 : World) (v : Value) (wc : World) : Prop := ∃ beg : Bool, v = .bool beg ∧ ∃ P, CI mode W h A P ∧ E P ∧ (beg = false → P.ser ≤ P.n ∧ A = true) ∧ CBlk g13 46 (SCells P) wc ∧ CBlk g16 49 (HCells last) wc ∧ Gr w7 wc
def SameRef (S0 P : Snd) : Prop := P.a = S0.a ∧ P.n = S0.n ∧ P.c = S0.c ∧ P.refs = S0.refs
def NoRef (P : Snd) : Prop := P.a = none ∧ P.n = 0 ∧ P.c = 0 ∧ P.refs = []
def RefE (mode : Int) (S0 P : Snd) : Prop := (SameRef S0 P ∨ NoRef P) ∧ (mode = 3 → P.n ≤ 31)
def FinE (mode : Int) (S0 P : Snd) : Prop := RefE mode S0 P ∧ P.ser ≤ P.n
theorem ref_rd {mode : Int} {S0 P : Snd} {w : World} (h : RefE mode S0 P) (hr : RdH w S0.a S0.n S0.c S0.refs) : RdH w P.a P.n P.c P.refs := by
 rcases h.1 with ⟨e1, e2, e3, e4⟩ | ⟨e1, e2, e3, e4⟩
 · rw [e1, e2, e3, e4]; exact hr
 · rw [e1, e2, e3, e4]; exact (OwnHd.nil 0 w).rd (fun x hx => by cases hx)
def FmtRel (mode W : Int) (h : Hdr) (A : Bool) (S0 : Snd) (g13 g16 : Nat) (last : Hdr) (w7 : World) (v : Value) (wc : World) : Prop := ∃ F : Int, v = .int .i64 F ∧ (F = 1 ∨ F = 2 ∨ F = 3 ∨ F = 4 ∨ F = 5) ∧ ∃ P, CI mode W h A P ∧ FinE mode S0 P ∧ ((F = 5 → 0 < P.full) ∧ (F = 4 → 0 < P.refr)) ∧ CBlk g13 46 (SCells P) wc ∧ CBlk g16 49 (HCells last) wc ∧ Gr w7 wc
def BoolRel (E : Bool → Prop) (wd : World) (v : Value) (wc : World) : Prop := ∃ C : Bool, v = .bool C ∧ E C ∧ Gr wd wc
theorem run_neqD (a b c d : Int) (w : World) : (binOp .neq 43 (DVal a b) (DVal c d)).run Tryd.prog w = .ok (.bool (!(decide (a = c) && decide (b = d)))) w := by
 go_simp
 by_cases h1 : a = c
 · rw [if_pos h1, decide_eq_true h1, Bool.not_true, Bool.false_or]
   by_cases h2 : b = d
   · rw [if_pos h2, decide_eq_true h2]; rfl
   · rw [if_neg h2, decide_eq_false h2]; rfl
 · rw [if_neg h1, decide_eq_false h1]; rfl
end Go.Proofs.YtlnkofpcidngoaaDoor
