/- Several texts in one. -/
import Derived.Test.YtlnkofpcidngoaaDoorA0
import Derived.Test.YtlnkofpcidngoaaDoorA1
import Derived.Test.YtlnkofpcidngoaaDoorA10
import Derived.Test.YtlnkofpcidngoaaDoorA13
import Derived.Test.YtlnkofpcidngoaaDoorA12
/- Layer 11 (feedback): when feedback is valid; Encode of both sides. -/
namespace Go.Proofs.YtlnkofpcidngoaaDoor
open Go.ChangeShapes Go.WideShapes Go.ChangeAt Go.RowKit
open Crc
abbrev FVal (c k n : Int) : Value := .agg #[.int .i64 c, .int .i64 k, .int .i64 n]
def fbB (c k n : Int) : Bool := decide (0 ≤ c) && (decide (c < 16) && (decide (0 ≤ k) && (decide (k ≤ 2) && (decide (0 ≤ n) && decide (n ≤ 65535)))))
theorem fb_yes {c k n : Int} (h : fbB c k n = true) : 0 ≤ c ∧ c < 16 ∧ 0 ≤ k ∧ k ≤ 2 ∧ 0 ≤ n ∧ n ≤ 65535 := by simpa [fbB] using h
set_option maxRecDepth 20000 in
set_option maxHeartbeats 2000000 in
theorem fbvalid_any (c k n : Int) (w : World) : Calls Tryd.prog 45 #[FVal c k n] w fun e w' => e = .returned (.bool (fbB c k n)) ∧ Gr w w' := by
 by_cases h1 : 0 ≤ c
 ·by_cases h2 : c < 16
  ·by_cases h3 : 0 ≤ k
   ·by_cases h4 : k ≤ 2
    ·by_cases h5 : 0 ≤ n
     ·by_cases h6 : n ≤ 65535
      ·go_enter Tryd.func45, Tryd.ntmps45
       go_wp2
       go_ret
       exact ⟨ret_bool (by simp [fbB]; try omega), Gr.alloc _ _⟩
      ·go_enter Tryd.func45, Tryd.ntmps45
       go_wp2
       go_ret
       exact ⟨ret_bool (by simp [fbB]; try omega), Gr.alloc _ _⟩
     ·go_enter Tryd.func45, Tryd.ntmps45
      go_wp2
      go_ret
      exact ⟨ret_bool (by simp [fbB]; try omega), Gr.alloc _ _⟩
    ·go_enter Tryd.func45, Tryd.ntmps45
     go_wp2
     go_ret
     exact ⟨ret_bool (by simp [fbB]; try omega), Gr.alloc _ _⟩
   ·go_enter Tryd.func45, Tryd.ntmps45
    go_wp2
    go_ret
    exact ⟨ret_bool (by simp [fbB]; try omega), Gr.alloc _ _⟩
  ·go_enter Tryd.func45, Tryd.ntmps45
   go_wp2
   go_ret
   exact ⟨ret_bool (by simp [fbB]; try omega), Gr.alloc _ _⟩
 ·go_enter Tryd.func45, Tryd.ntmps45
  go_wp2
  go_ret
  exact ⟨ret_bool (by simp [fbB]; try omega), Gr.alloc _ _⟩
set_option maxRecDepth 20000 in
set_option maxHeartbeats 2000000 in
theorem rfbvalid_any (c k n : Int) (w : World) : Calls Tryd.prog 48 #[FVal c k n] w fun e w' => e = .returned (.bool (fbB c k n)) ∧ Gr w w' := by
 by_cases h1 : 0 ≤ c
 ·by_cases h2 : c < 16
  ·by_cases h3 : 0 ≤ k
   ·by_cases h4 : k ≤ 2
    ·by_cases h5 : 0 ≤ n
     ·by_cases h6 : n ≤ 65535
      ·go_enter Tryd.func48, Tryd.ntmps48
       go_wp2
       go_ret
       exact ⟨ret_bool (by simp [fbB]; try omega), Gr.alloc _ _⟩
      ·go_enter Tryd.func48, Tryd.ntmps48
       go_wp2
       go_ret
       exact ⟨ret_bool (by simp [fbB]; try omega), Gr.alloc _ _⟩
     ·go_enter Tryd.func48, Tryd.ntmps48
      go_wp2
      go_ret
      exact ⟨ret_bool (by simp [fbB]; try omega), Gr.alloc _ _⟩
    ·go_enter Tryd.func48, Tryd.ntmps48
     go_wp2
     go_ret
     exact ⟨ret_bool (by simp [fbB]; try omega), Gr.alloc _ _⟩
   ·go_enter Tryd.func48, Tryd.ntmps48
    go_wp2
    go_ret
    exact ⟨ret_bool (by simp [fbB]; try omega), Gr.alloc _ _⟩
  ·go_enter Tryd.func48, Tryd.ntmps48
   go_wp2
   go_ret
   exact ⟨ret_bool (by simp [fbB]; try omega), Gr.alloc _ _⟩
 ·go_enter Tryd.func48, Tryd.ntmps48
  go_wp2
  go_ret
  exact ⟨ret_bool (by simp [fbB]; try omega), Gr.alloc _ _⟩
theorem fbvalid_is {c k n : Int} {V : Bool} (h : fbB c k n = V) (w : World) : Calls Tryd.prog 45 #[FVal c k n] w fun e w' => e = .returned (.bool V) ∧ Gr w w' := h ▸ fbvalid_any c k n w
theorem rfbvalid_is {c k n : Int} {V : Bool} (h : fbB c k n = V) (w : World) : Calls Tryd.prog 48 #[FVal c k n] w fun e w' => e = .returned (.bool V) ∧ Gr w w' := h ▸ rfbvalid_any c k n w
end Go.Proofs.YtlnkofpcidngoaaDoor
/- Layer 11 (feedback): acknowledge. -/
namespace Go.Proofs.YtlnkofpcidngoaaDoor
open Go.ChangeShapes Go.WideShapes Go.ChangeAt Go.RowKit
def Elt (B g n c : Nat) (M : List Snd) (i : Nat) (s : Snd) (w : World) : Prop := w.ownsRow B 46 9 (.slice (some ⟨g, 0, none⟩) n c) n (M.flatMap SCells) ∧ M[i]? = some s
section
variable {B g n c : Nat} {M : List Snd} {i : Nat} {s : Snd} {w w' : World}
theorem Elt.kept (h : Elt B g n c M i s w) (hg : Gr w w') : Elt B g n c M i s w' := ⟨own_stayG h.1 hg, h.2⟩
theorem Elt.cell (h : Elt B g n c M i s w) (j : Nat) {v : Value} (hv : (SCells s)[j]? = some v) : w.cell? ⟨g, i * 9 + j, none⟩ = some v := by
 have h1 := flat_atG scells_len M i j s h.2 (lt_someG hv)
 have h2 := h.1.cells (g := g) rfl (i * 9 + j) v (by rw [h1]; exact hv)
 rw [addr_add, Nat.zero_add] at h2
 exact h2
theorem Elt.rng (h : Elt B g n c M i s w) : w.rangeAt g (i * 9) (SCells s) := fun j _ hv => h.cell j hv
theorem Elt.fz (h : Elt B g n c M i s w) (j : Nat) : w.frozen? ⟨g, j, none⟩ = false := h.1.frozenAt j
theorem Elt.set (h : Elt B g n c M i s w) (j : Nat) (v : Value) (t : Snd) (hj : j < 9) (ht : (SCells s).set j v = SCells t) : Elt B g n c (M.set i t) i t (w.setCell ⟨g, i * 9 + j, none⟩ v) :=
 ⟨own_set scells_len h.1 i j s t [v] h.2 (by simp; omega) ht, by rw [List.getElem?_set_self (lt_someG h.2)]⟩
theorem Elt.lt (h : Elt B g n c M i s w) : B ≤ g ∧ g < w.heap.size := ⟨(own_blockG h.1 rfl).2.2.1, (own_blockG h.1 rfl).2.2.2⟩
theorem Elt.row (h : Elt B g n c M i s w) : w.ownsRow B 46 9 (.slice (some ⟨g, 0, none⟩) n c) n (M.flatMap SCells) := h.1
end
theorem rdh_but {w w' : World} {a : Option Addr} {n c : Nat} {hs : List Hdr} {r : Option Nat} (h : RdH w a n c hs) (hg : w.grownBy w' r) (hr : ∀ b off, a = some ⟨b, off, none⟩ → some b ≠ r) : RdH w' a n c hs :=
 ⟨h.1, h.2.1, h.2.2.1, h.2.2.2.1, seg_but h.2.2.2.2.1 hg (fun b off _ ha => hr b off ha), h.2.2.2.2.2⟩
theorem set_same {α : Type} {l : List α} {i : Nat} {x : α} (h : l[i]? = some x) : l.set i x = l := by
 apply List.ext_getElem?
 intro j
 rw [List.getElem?_set]
 split
 ·rename_i e; subst e
  rw [if_pos (lt_someG h), h]
 ·rfl
theorem gr_some {w w' : World} (h : Gr w w') (r : Option Nat) : w.grownBy w' r := ⟨h.os, h.tape, h.output, h.size, fun i hi _ => h.block i hi (by simp)⟩
theorem grown_setE {w w' : World} {g : Nat} (h : w.grownBy w' (some g)) (i : Nat) (v : Value) : w.grownBy (w'.setCell ⟨g, i, none⟩ v) (some g) := grown_trans' h (grown_setAt w' g i v)
/-! ### plain -/
def lastK (hs : List Hdr) (num : Int) : Nat → Option Nat
 | 0 => none
 | j + 1 => if numH ((hs[j]?).getD zeroH) = num then some j else lastK hs num j
theorem lastK_lt {hs : List Hdr} {num : Int} : ∀ {j k : Nat}, lastK hs num j = some k → k < j
 | j + 1, k, h => by
  unfold lastK at h
  split at h
  ·injection h with h; omega
  ·have := lastK_lt h; omega
def ackP (mode : Int) (s : Snd) (num : Int) : Snd :=
 match lastK s.refs num s.refs.length with
 | none => plainS s
 | some k => ⟨s.act, if s.ser ≤ k then 0 else s.full, if s.ser ≤ k then 0 else s.refr, if mode = 3 then (if 0 < s.ser - k then s.ser - k else 0) else s.ser, s.since, s.long, s.str, s.fol, none, 0, 0, if mode = 3 then s.refs.drop k else s.refs⟩
def NotIn (g : Nat) (a : Option Addr) : Prop := ∀ b off, a = some ⟨b, off, none⟩ → b ≠ g
def SubA (a t : Option Addr) : Prop := ∀ b off, t = some ⟨b, off, none⟩ → ∃ o, a = some ⟨b, o, none⟩
def AckPost (B g n c : Nat) (M : List Snd) (i : Nat) (s P : Snd) (w : World) (e : Ending) (w' : World) : Prop :=
 ∃ t, e = .returned (.tuple #[]) ∧ plainS t = P ∧ Elt B g n c (M.set i t) i t w' ∧ RdH w' t.a t.n t.c t.refs ∧ SubA s.a t.a ∧ w.grownBy w' (some g)
set_option maxHeartbeats 2000000 in
set_option maxRecDepth 100000 in
theorem ack_any (B g n c : Nat) (M : List Snd) (i : Nat) (s : Snd) (mode num : Int) (w : World) (h : Elt B g n c M i s w) (hr : RdH w s.a s.n s.c s.refs) (hne : NotIn g s.a) (hn : s.n ≤ 1000) (hser : 0 ≤ s.ser ∧ s.ser ≤ 1000) :
  Calls Tryd.prog 47 #[.pointer (some ⟨g, i * 9, none⟩), .int .i64 mode, .int .i64 num] w (AckPost B g n c M i s (ackP mode s num) w) := by
 obtain ⟨P, hP⟩ : ∃ P, ackP mode s num = P := ⟨_, rfl⟩
 rw [hP]
 have HP := zqd hP
 have H := zqd h
 have HR := zqd hr
 have HN := zqd hr.1
 have HNE := zqd hne
 obtain ⟨s1, s2⟩ := hser
 clear hP h hr hne
 go_enter Tryd.func47, Tryd.ntmps47
 have c8 := H.out.cell 8 rfl
 go_wp2_with fail
 clear c8
 go_loopw [6] (fun k wr => ∃ j : Nat, j ≤ s.n ∧ k = .int .i64 ((j : Int) - 1) ∧ lastK s.refs num s.n = lastK s.refs num j ∧ Gr w wr) (fun k _ => (intOf k + 1).toNat)
 case atStart => exact ⟨s.n, by omega, by go_num, rfl, Gr.refl _⟩
 case round =>
  obtain ⟨j, hj, rfl, hlk, hg⟩ := hrel
  have HLK := zqd hlk
  have HG := zqd hg
  clear hlk hg
  have c8 := (H.out.kept HG.out).cell 8 rfl
  cases j with
  | zero =>
   have HPN := zqd (show plainS s = P by rw [← HP.out, ackP, HN.out, HLK.out]; rfl)
   go_wp2_with fail
   go_end0
   exact ⟨s, rfl, HPN.out, by rw [set_same H.out.2]; exact H.out.kept HG.out, HR.out.kept HG.out, (fun b off h => ⟨off, h⟩), gr_some HG.out _⟩
  | succ j =>
   have hq : ((j + 1 : Nat) : Int) - 1 = (j : Int) := by omega
   rw [hq]
   obtain ⟨x, hx, -⟩ := HR.out.get (show j < s.n by omega)
   obtain ⟨b, off, ea, -, hrow⟩ := (HR.out.kept HG.out).row (by omega)
   have HRG := zqd (hrow j x hx)
   have HX := zqd hx
   have HEA := zqd ea
   rw [ea] at c8
   obtain ⟨N, hN⟩ : ∃ N, numH x = N := ⟨_, rfl⟩
   have HNN := zqd hN
   have HLS := zqd (show lastK s.refs num (j + 1) = if N = num then some j else lastK s.refs num j by rw [lastK, hx, Option.getD_some, hN])
   clear hrow hx ea hN
   go_wp2_with (refine rng_load rfl 49 _ rfl b (off + j * 15) rfl (HCells x) HRG.out Tryd.underlying49 rfl (by kernel_rfl) ?_)
   refine (num_is HNN.out wr).mono ?_
   rintro e w2 ⟨rfl, hg2⟩
   have HG2 := zqd (HG.out.trans hg2)
   clear hg2 c8
   by_cases hnum : N = num
   rotate_left
   ·have hb : (N != num) = true := by simpa using hnum
    go_wp2_with fail
    go_roundw
    case rel => exact ⟨j, by omega, by go_num, by rw [HLK.out, HLS.out, if_neg hnum], HG2.out⟩
    case measure => (simp [intOf] <;> omega)
   ·have hb : (N != num) = false := by simpa using hnum
    have HLJ := zqd (show lastK s.refs num s.n = some j by rw [HLK.out, HLS.out, if_pos hnum])
    have H2 := zqd (H.out.kept HG2.out)
    have c3 := H2.out.cell 3 rfl
    clear hnum
    have HR2 := zqd (show RdH w2 (some ⟨b, off, none⟩) s.n s.c s.refs by rw [← HEA.out]; exact HR.out.kept HG2.out)
    have HBG := zqd (HNE.out b off HEA.out)
    have hcap : s.n ≤ s.c := HR2.out.2.1
    go_upto_region 4 with (fail)
    by_cases hle : s.ser ≤ j
    ·have HIFP := zqd hle
     have c1 := H2.out.cell 1 rfl
     have c2 := H2.out.cell 2 rfl
     have f1 := H2.out.fz (i * 9 + 1)
     have f2 := H2.out.fz (i * 9 + 2)
     go_upto_region 6 with (fail)
     obtain ⟨w3, hw3⟩ : ∃ y, y = (w2.setCell ⟨g, i * 9 + 1, none⟩ (.int .i64 0)).setCell ⟨g, i * 9 + 2, none⟩ (.int .i64 0) := ⟨_, rfl⟩
     rw [← hw3]
     have HE3 := zqd (show Elt B g n c (M.set i ⟨s.act, 0, 0, s.ser, s.since, s.long, s.str, s.fol, s.a, s.n, s.c, s.refs⟩) i ⟨s.act, 0, 0, s.ser, s.since, s.long, s.str, s.fol, s.a, s.n, s.c, s.refs⟩ w3 by
      rw [hw3]
      have h1 := H2.out.set 1 (.int .i64 0) ⟨s.act, 0, s.refr, s.ser, s.since, s.long, s.str, s.fol, s.a, s.n, s.c, s.refs⟩ (by omega) rfl
      have h2 := h1.set 2 (.int .i64 0) ⟨s.act, 0, 0, s.ser, s.since, s.long, s.str, s.fol, s.a, s.n, s.c, s.refs⟩ (by omega) rfl
      rw [List.set_set] at h2
      exact h2)
     have HG3 := zqd (show w.grownBy w3 (some g) by rw [hw3]; exact grown_setE (grown_setE (gr_some HG2.out _) _ _) _ _)
     have hgg : w2.grownBy w3 (some g) := by rw [hw3]; exact grown_setE (grown_setAt w2 g _ _) _ _
     have HR3 := zqd (show RdH w3 (some ⟨b, off, none⟩) s.n s.c s.refs from rdh_but HR2.out hgg (fun b' off' e => by injection e with e; injection e with e1 e2; subst e1; have := HBG.out; simpa using this))
     clear hw3 hgg c1 c2 f1 f2 c3
     by_cases hm3 : mode = 3
     rotate_left
     ·have HPN := zqd (show (⟨s.act, 0, 0, s.ser, s.since, s.long, s.str, s.fol, none, 0, 0, s.refs⟩ : Snd) = P by rw [← HP.out, ackP, HN.out, HLJ.out]; simp only; rw [if_pos HIFP.out, if_pos HIFP.out, if_neg hm3, if_neg hm3])
      have hmb : (mode == 3) = false := by simpa using hm3
      clear hm3
      go_wp2_with fail
      go_end0
      exact ⟨⟨s.act, 0, 0, s.ser, s.since, s.long, s.str, s.fol, s.a, s.n, s.c, s.refs⟩, rfl, HPN.out, HE3.out, by rw [HEA.out]; exact HR3.out, (fun b off h => ⟨off, h⟩), HG3.out⟩
     ·have c8 := (HE3.out).cell 8 rfl
      have c3 := (HE3.out).cell 3 rfl
      have hmb : (mode == 3) = true := by simpa using hm3
      have f8 := (HE3.out).fz (i * 9 + 8)
      have f3 := (HE3.out).fz (i * 9 + 3)
      have c8' : (w3).cell? ⟨g, i * 9 + 8, none⟩ = some (.slice (some ⟨b, off, none⟩) s.n s.c) := by rw [← HEA.out]; exact c8
      clear c8
      go_upto_region 8 with (fail)
      obtain ⟨w4, hw4⟩ : ∃ y, y = (w3).setCell ⟨g, i * 9 + 8, none⟩ (.slice (some ⟨b, off + j * 15, none⟩) (s.n - j) (s.c - j)) := ⟨_, rfl⟩
      rw [← hw4]
      have HE4 := zqd (show Elt B g n c (M.set i ⟨s.act, 0, 0, s.ser, s.since, s.long, s.str, s.fol, some ⟨b, off + j * 15, none⟩, s.n - j, s.c - j, s.refs.drop j⟩) i ⟨s.act, 0, 0, s.ser, s.since, s.long, s.str, s.fol, some ⟨b, off + j * 15, none⟩, s.n - j, s.c - j, s.refs.drop j⟩ w4 by
       rw [hw4]
       have h1 := (HE3.out).set 8 (.slice (some ⟨b, off + j * 15, none⟩) (s.n - j) (s.c - j)) ⟨s.act, 0, 0, s.ser, s.since, s.long, s.str, s.fol, some ⟨b, off + j * 15, none⟩, s.n - j, s.c - j, s.refs.drop j⟩ (by omega) rfl
       rw [List.set_set] at h1
       exact h1)
      have HG4 := zqd (show w.grownBy w4 (some g) by rw [hw4]; exact grown_setE HG3.out _ _)
      have hgg : (w3).grownBy w4 (some g) := by rw [hw4]; exact grown_setAt w3 g _ _
      have HR4 := zqd (show RdH w4 (some ⟨b, off + j * 15, none⟩) (s.n - j) (s.c - j) (s.refs.drop j) from rdh_but (HR3.out.drop j (by omega)) hgg (fun b' off' e => by injection e with e; injection e with e1 e2; subst e1; have := HBG.out; simpa using this))
      clear hw4 hgg c8' f8 c3 f3
      have d3 : w4.cell? ⟨g, i * 9 + 3, none⟩ = some (.int .i64 s.ser) := HE4.out.cell 3 rfl
      have f3 := HE4.out.fz (i * 9 + 3)
      have HPN := zqd (show (⟨s.act, 0, 0, 0, s.since, s.long, s.str, s.fol, none, 0, 0, s.refs.drop j⟩ : Snd) = P by rw [← HP.out, ackP, HN.out, HLJ.out]; simp only; rw [if_pos HIFP.out, if_pos HIFP.out, if_pos hm3, if_pos hm3, if_neg (by have := HIFP.out; omega)])
      go_wp2_with fail
      go_end0
      refine ⟨⟨s.act, 0, 0, 0, s.since, s.long, s.str, s.fol, some ⟨b, off + j * 15, none⟩, s.n - j, s.c - j, s.refs.drop j⟩, rfl, HPN.out, ?_, ?_, ?_, grown_setE HG4.out _ _⟩
      ·have h1 := HE4.out.set 3 (.int .i64 (0)) ⟨s.act, 0, 0, 0, s.since, s.long, s.str, s.fol, some ⟨b, off + j * 15, none⟩, s.n - j, s.c - j, s.refs.drop j⟩ (by omega) rfl
       rw [List.set_set] at h1
       exact h1
      ·exact rdh_but HR4.out (grown_setAt w4 g _ _) (fun b' off' e => by injection e with e; injection e with e1 e2; subst e1; have := HBG.out; simpa using this)
      ·intro b' off' e; injection e with e; injection e with e1 e2; subst e1; exact ⟨off, HEA.out⟩
    ·have HIFN := zqd (show ¬ s.ser ≤ (j : Int) from hle)
     go_upto_region 6 with (fail)
     clear c3
     have HE3 := zqd (show Elt B g n c (M.set i s) i s w2 by rw [set_same H2.out.2]; exact H2.out)
     have HG3 := zqd (gr_some HG2.out (some g))
     by_cases hm3 : mode = 3
     rotate_left
     ·have HPN := zqd (show (⟨s.act, s.full, s.refr, s.ser, s.since, s.long, s.str, s.fol, none, 0, 0, s.refs⟩ : Snd) = P by rw [← HP.out, ackP, HN.out, HLJ.out]; simp only; rw [if_neg HIFN.out, if_neg HIFN.out, if_neg hm3, if_neg hm3])
      have hmb : (mode == 3) = false := by simpa using hm3
      clear hm3
      go_wp2_with fail
      go_end0
      exact ⟨⟨s.act, s.full, s.refr, s.ser, s.since, s.long, s.str, s.fol, s.a, s.n, s.c, s.refs⟩, rfl, HPN.out, HE3.out, by rw [HEA.out]; exact HR2.out, (fun b off h => ⟨off, h⟩), HG3.out⟩
     ·have c8 := (HE3.out).cell 8 rfl
      have c3 := (HE3.out).cell 3 rfl
      have hmb : (mode == 3) = true := by simpa using hm3
      have f8 := (HE3.out).fz (i * 9 + 8)
      have f3 := (HE3.out).fz (i * 9 + 3)
      have c8' : (w2).cell? ⟨g, i * 9 + 8, none⟩ = some (.slice (some ⟨b, off, none⟩) s.n s.c) := by rw [← HEA.out]; exact c8
      clear c8
      go_upto_region 8 with (fail)
      obtain ⟨w4, hw4⟩ : ∃ y, y = (w2).setCell ⟨g, i * 9 + 8, none⟩ (.slice (some ⟨b, off + j * 15, none⟩) (s.n - j) (s.c - j)) := ⟨_, rfl⟩
      rw [← hw4]
      have HE4 := zqd (show Elt B g n c (M.set i ⟨s.act, s.full, s.refr, s.ser, s.since, s.long, s.str, s.fol, some ⟨b, off + j * 15, none⟩, s.n - j, s.c - j, s.refs.drop j⟩) i ⟨s.act, s.full, s.refr, s.ser, s.since, s.long, s.str, s.fol, some ⟨b, off + j * 15, none⟩, s.n - j, s.c - j, s.refs.drop j⟩ w4 by
       rw [hw4]
       have h1 := (HE3.out).set 8 (.slice (some ⟨b, off + j * 15, none⟩) (s.n - j) (s.c - j)) ⟨s.act, s.full, s.refr, s.ser, s.since, s.long, s.str, s.fol, some ⟨b, off + j * 15, none⟩, s.n - j, s.c - j, s.refs.drop j⟩ (by omega) rfl
       rw [List.set_set] at h1
       exact h1)
      have HG4 := zqd (show w.grownBy w4 (some g) by rw [hw4]; exact grown_setE HG3.out _ _)
      have hgg : (w2).grownBy w4 (some g) := by rw [hw4]; exact grown_setAt w2 g _ _
      have HR4 := zqd (show RdH w4 (some ⟨b, off + j * 15, none⟩) (s.n - j) (s.c - j) (s.refs.drop j) from rdh_but (HR2.out.drop j (by omega)) hgg (fun b' off' e => by injection e with e; injection e with e1 e2; subst e1; have := HBG.out; simpa using this))
      clear hw4 hgg c8' f8 c3 f3
      have d3 : w4.cell? ⟨g, i * 9 + 3, none⟩ = some (.int .i64 s.ser) := HE4.out.cell 3 rfl
      have f3 := HE4.out.fz (i * 9 + 3)
      have HPN := zqd (show (⟨s.act, s.full, s.refr, s.ser - j, s.since, s.long, s.str, s.fol, none, 0, 0, s.refs.drop j⟩ : Snd) = P by rw [← HP.out, ackP, HN.out, HLJ.out]; simp only; rw [if_neg HIFN.out, if_neg HIFN.out, if_pos hm3, if_pos hm3, if_pos (by have := HIFN.out; omega)])
      go_wp2_with fail
      go_end0
      refine ⟨⟨s.act, s.full, s.refr, s.ser - j, s.since, s.long, s.str, s.fol, some ⟨b, off + j * 15, none⟩, s.n - j, s.c - j, s.refs.drop j⟩, rfl, HPN.out, ?_, ?_, ?_, grown_setE HG4.out _ _⟩
      ·have h1 := HE4.out.set 3 (.int .i64 (s.ser - j)) ⟨s.act, s.full, s.refr, s.ser - j, s.since, s.long, s.str, s.fol, some ⟨b, off + j * 15, none⟩, s.n - j, s.c - j, s.refs.drop j⟩ (by omega) rfl
       rw [List.set_set] at h1
       exact h1
      ·exact rdh_but HR4.out (grown_setAt w4 g _ _) (fun b' off' e => by injection e with e; injection e with e1 e2; subst e1; have := HBG.out; simpa using this)
      ·intro b' off' e; injection e with e; injection e with e1 e2; subst e1; exact ⟨off, HEA.out⟩
end Go.Proofs.YtlnkofpcidngoaaDoor
/- Layer 11 (feedback): Apply of the program. -/
namespace Go.Proofs.YtlnkofpcidngoaaDoor
open Go.ChangeShapes Go.WideShapes Go.ChangeAt Go.RowKit
def sndAt (L : List Snd) (c : Int) : Snd := (L[c.toNat]?).getD zeroS
def fbP (mode width : Int) (s : Snd) (k num : Int) : Snd :=
 if k = 0 then ackP mode s num
 else if k = 2 then ⟨s.act, width, 0, s.refs.length, s.since, s.long, s.str, s.fol, none, 0, 0, s.refs⟩
 else if 0 < s.full then ⟨s.act, width, s.refr, s.refs.length, s.since, s.long, s.str, s.fol, none, 0, 0, s.refs⟩
 else ⟨s.act, s.full, width, s.refs.length, s.since, s.long, s.str, s.fol, none, 0, 0, s.refs⟩
def apE (mode width : Int) (L : List Snd) (c k n : Int) : Int :=
 if (validC mode width L && fbB c k n) = false then 1 else if mode = 1 then 16 else if (sndAt L c).act = false then 8 else 0
def apL (mode width : Int) (L : List Snd) (c k n : Int) : List Snd := (L.map plainS).set c.toNat (fbP mode width (sndAt L c) k n)
theorem OwnC.notin {B : Nat} {w : World} {g n c : Nat} {M : List Snd} (h : OwnC B w (some ⟨g, 0, none⟩) n c M) {t : Snd} (ht : t ∈ M) : NotIn g t.a := by
 intro b off e hb
 subst hb
 have h1 := (own_blockG (h.2.1 t ht).1 e).2.1
 exact h.2.2.1 t ht b h1 rfl
theorem OwnC.above {B : Nat} {w : World} {a : Option Addr} {n c : Nat} {M : List Snd} (h : OwnC B w a n c M) {t : Snd} (ht : t ∈ M) {r : Nat} (hr : r < B) : NotIn r t.a := by
 intro b off e
 have h1 := (own_blockG (h.2.1 t ht).1 e).2.2.1
 omega
theorem rdc_but {w w' : World} {a : Option Addr} {n c : Nat} {M : List Snd} {r : Nat} (h : RdC w a n c M) (hg : w.grownBy w' (some r)) (h1 : NotIn r a) (h2 : ∀ t ∈ M, NotIn r t.a) : RdC w' a n c M :=
 ⟨h.1, h.2.1, h.2.2.1, h.2.2.2.1, seg_but h.2.2.2.2.1 hg (fun b off _ e => by have := h1 b off e; simpa using this), fun t ht => rdh_but (h.2.2.2.2.2 t ht) hg (fun b off e => by have := h2 t ht b off e; simpa using this)⟩
theorem mem_set {α : Type} {l : List α} {i : Nat} {x y : α} (h : y ∈ l.set i x) : y ∈ l ∨ y = x := List.mem_or_eq_of_mem_set h
theorem rdc_set {B : Nat} {w w' : World} {g n c i : Nat} {M : List Snd} {t : Snd} (h : OwnC B w (some ⟨g, 0, none⟩) n c M) (hg : w.grownBy w' (some g)) (he : Elt B g n c (M.set i t) i t w') (ht : RdH w' t.a t.n t.c t.refs) : RdC w' (some ⟨g, 0, none⟩) n c (M.set i t) := by
 obtain ⟨h1, h2, h3⟩ := own_capG he.1
 have hlen : (M.set i t).length = n := by have := h.len; simp [this]
 refine ⟨hlen, h1, h2, h3, own_segG he.1, fun y hy => ?_⟩
 rcases mem_set hy with hm | rfl
 ·exact rdh_but ((h.2.1 y hm).1.rd (h.2.1 y hm).2) hg (fun b off e => by have := h.notin hm b off e; simpa using this)
 ·exact ht
theorem valid_small {mode width : Int} {L : List Snd} (h : validC mode width L = true) {i : Nat} {s : Snd} (hs : L[i]? = some s) : s.refs.length ≤ 32 ∧ 0 ≤ s.ser ∧ s.ser ≤ 32 := by
 obtain ⟨h1, h2, h3⟩ := valid_parts h
 have h4 := h3 i (lt_someG hs)
 rw [okAt_at hs, Bool.and_eq_true] at h4
 have h5 := h4.1
 obtain ⟨m1, m2, q1, q2⟩ := shaped_yes h1
 unfold ctxB at h5
 split at h5
 ·simp only [actB, rngB, inB, Bool.and_eq_true, decide_eq_true_eq] at h5
  obtain ⟨⟨a1, a2, ⟨a3, a4⟩, _⟩, _⟩ := h5
  have : most mode width ≤ 32 := by unfold most; split <;> omega
  omega
 ·simp only [emptyB, Bool.and_eq_true, decide_eq_true_eq] at h5
  omega
end Go.Proofs.YtlnkofpcidngoaaDoor
