/- Dice: a header that follows another one. -/
import Derived.Test.YtlnkofpcidngoaaDoorA0
import Derived.Test.YtlnkofpcidngoaaDoorA34
import Derived.Deep.CutRange
import Derived.Test.YtlnkofpcidngoaaDoorA11
namespace Go.Proofs.YtlnkofpcidngoaaDoor
open Go.ChangeShapes Go.WideShapes Go.ChangeAt Go.RowKit
def setTos (h : Hdr) (x : Int) : Hdr := ⟨h.kind, x, h.id, h.fixed, h.ttl, h.frm, h.to, h.fport, h.tport, h.check, h.marker, h.type, h.seq, h.time, h.source⟩
def setId (h : Hdr) (x : Int) : Hdr := ⟨h.kind, h.tos, x, h.fixed, h.ttl, h.frm, h.to, h.fport, h.tport, h.check, h.marker, h.type, h.seq, h.time, h.source⟩
def setTtl (h : Hdr) (x : Int) : Hdr := ⟨h.kind, h.tos, h.id, h.fixed, x, h.frm, h.to, h.fport, h.tport, h.check, h.marker, h.type, h.seq, h.time, h.source⟩
def setChk (h : Hdr) (x : Int) : Hdr := ⟨h.kind, h.tos, h.id, h.fixed, h.ttl, h.frm, h.to, h.fport, h.tport, x, h.marker, h.type, h.seq, h.time, h.source⟩
def setMrk (h : Hdr) (x : Int) : Hdr := ⟨h.kind, h.tos, h.id, h.fixed, h.ttl, h.frm, h.to, h.fport, h.tport, h.check, x, h.type, h.seq, h.time, h.source⟩
def setTyp (h : Hdr) (x : Int) : Hdr := ⟨h.kind, h.tos, h.id, h.fixed, h.ttl, h.frm, h.to, h.fport, h.tport, h.check, h.marker, x, h.seq, h.time, h.source⟩
def setSeq (h : Hdr) (x : Int) : Hdr := ⟨h.kind, h.tos, h.id, h.fixed, h.ttl, h.frm, h.to, h.fport, h.tport, h.check, h.marker, h.type, x, h.time, h.source⟩
def setTim (h : Hdr) (x : Int) : Hdr := ⟨h.kind, h.tos, h.id, h.fixed, h.ttl, h.frm, h.to, h.fport, h.tport, h.check, h.marker, h.type, h.seq, x, h.source⟩
def RngH (h : Hdr) : Prop := HOk h ∧ (0 ≤ h.id ∧ h.id ≤ 65535) ∧ (0 ≤ h.check ∧ h.check ≤ 65535) ∧ (0 ≤ h.seq ∧ h.seq ≤ 65535) ∧ (0 ≤ h.time ∧ h.time ≤ 4294967295)
def folH (h : Hdr) (s c : Int) : Hdr :=
 if h.kind = 2 then ⟨h.kind, h.tos, (h.id + s) % 65536, h.fixed, h.ttl, h.frm, h.to, h.fport, h.tport, c, 0, h.type, (h.seq + s) % 65536, (h.time + 160 * s) % 4294967296, h.source⟩
 else ⟨h.kind, h.tos, (h.id + s) % 65536, h.fixed, h.ttl, h.frm, h.to, h.fport, h.tport, c, h.marker, h.type, h.seq, h.time, h.source⟩
def ChkOk (h : Hdr) (c : Int) : Prop := (0 ≤ c ∧ c ≤ 65535) ∧ (h.check = 0 → c = 0) ∧ (h.check ≠ 0 → c ≠ 0)
def StepRel (p : Nat) (h : Hdr) (reg : Bool) (w : World) (v : Value) (wc : World) : Prop := ∃ s : Int, v = .int .i64 s ∧ 1 ≤ s ∧ s ≤ 20 ∧ (reg = true → s = 1) ∧ HBlk w.heap.size h wc ∧ HBlk (w.heap.size + 1) zeroH wc ∧ Die wc p ∧ w.grownBy wc (some p)
def OneRel (p : Nat) (h : Hdr) (reg : Bool) (w : World) (v : Value) (wc : World) : Prop := ∃ b : Bool, v = .bool b ∧ (reg = true → b = false) ∧ HBlk w.heap.size h wc ∧ HBlk (w.heap.size + 1) zeroH wc ∧ Die wc p ∧ w.grownBy wc (some p)
def HRel (p : Nat) (h : Hdr) (w : World) (wc : World) : Prop := HBlk w.heap.size h wc ∧ HBlk (w.heap.size + 1) zeroH wc ∧ Die wc p ∧ w.grownBy wc (some p)
def CRel (p : Nat) (h : Hdr) (f : Int → Hdr) (w : World) (wc : World) : Prop := ∃ c, ChkOk h c ∧ HRel p (f c) w wc
theorem HRel.set {p : Nat} {h k : Hdr} {w wc : World} (hr : HRel p h w wc) (hp : p < w.heap.size) (i : Nat) (v : Value) (hk : (HCells h).set i v = HCells k) : HRel p k w (wc.setCell ⟨w.heap.size, i, none⟩ v) :=
 ⟨hr.1.set i v hk, hr.2.1.other _ _ (by omega), die_set hr.2.2.1 hp, grown_new hr.2.2.2 (a := ⟨w.heap.size, i, none⟩) (Nat.le_refl _) _⟩
theorem HRel.dice {p : Nat} {h : Hdr} {w wc w' : World} (hr : HRel p h w wc) (hp : p < w.heap.size) (hd : Die w' p) (hg : wc.grownBy w' (some p)) : HRel p h w w' :=
 ⟨hr.1.dice hg (by omega), hr.2.1.dice hg (by omega), hd, grown_trans' hr.2.2.2 hg⟩
theorem HRel.at {p : Nat} {h : Hdr} {w wc : World} (hr : HRel p h w wc) (i : Nat) {v : Value} (hv : (HVal h).cells[i]? = some v) : wc.cell? ⟨w.heap.size, i, none⟩ = some v := hr.1.at i hv
end Go.Proofs.YtlnkofpcidngoaaDoor