/- Several texts in one. -/
import Derived.Test.YtlnkofpcidngoaaDoorA0
import Derived.Test.YtlnkofpcidngoaaDoorA14
import Derived.Test.YtlnkofpcidngoaaDoorA10
import Derived.Test.YtlnkofpcidngoaaDoorA1
import Derived.Test.YtlnkofpcidngoaaDoorA11
/- Layer 11 (feedback): Apply of the program, walked. -/
namespace Go.Proofs.YtlnkofpcidngoaaDoor
open Go.ChangeShapes Go.WideShapes Go.ChangeAt Go.RowKit
theorem cvalid_is {mode width : Int} {a : Option Addr} {n c : Nat} {L : List Snd} {V : Bool} (h : validC mode width L = V) (w : World) (hr : RdC w a n c L) : Calls Tryd.prog 44 #[CVal mode width a n c] w fun e w' => e = .returned (.bool V) ∧ Gr w w' :=
 h ▸ cvalid_any mode width a n c L w hr (by have h1 := hr.2.1; have h2 := hr.2.2.1; simp only [maxLen] at h2; omega)
end Go.Proofs.YtlnkofpcidngoaaDoor
/- Literal bytes appended to an owned slice. -/
namespace Go.Proofs.YtlnkofpcidngoaaDoor
open Go.ChangeShapes Go.WideShapes Go.ChangeAt Go.RowKit
theorem lit8 {w0 w : World} {a : Option Addr} {n cap : Nat} {xs : List Int} (hg : Gr w0 w) (ho : OwnI w0.heap.size 5 .u8 w a n cap xs) (zs : List Int) (m : Nat) (hm : zs.length = m) (hz : ∀ z ∈ zs, 0 ≤ z ∧ z ≤ 255) (hn : n + m ≤ 100000000) (hm2 : m ≤ 10000) :
  ∃ a' cap' w', (Builtin.append_ #[39, 39] 39 #[.slice a n cap, .slice (some ⟨w.heap.size, 0, none⟩) m m]).run Tryd.prog (w.alloc (.cells (zs.map (Value.int .u8)).toArray 5)) = .ok (.slice a' (n + m) cap') w' ∧
   OwnI w0.heap.size 5 .u8 w' a' (n + m) cap' (xs ++ zs) ∧ Gr w0 w' := by
 have hrd := rd_new (k := .u8) (w := w) zs 5 (0, 0) m hm (by simp only [maxLen]; omega) (fun z h => by have := hz z h; exact WalkArith.wf_u8 (by omega))
 obtain ⟨a5, c5, w5, hrun5, ho5, hg5, _⟩ := app_u8 w0.heap.size (w.alloc (.cells (zs.map (Value.int .u8)).toArray 5)) a n cap xs (ho.stay (Gr.alloc _ _)) (some ⟨w.heap.size, 0, none⟩) m m _ hrd (by omega) (Nat.le_trans hg.size (by simp))
 exact ⟨a5, c5, w5, hrun5, ho5, grown_own (hg.trans (Gr.alloc _ _)) (ho.stay (Gr.alloc _ _)) (Nat.le_refl _) hg5⟩
end Go.Proofs.YtlnkofpcidngoaaDoor
/- Bytes that grow beside a block whose cells are known. -/
namespace Go.Proofs.YtlnkofpcidngoaaDoor
open Go.ChangeShapes Go.WideShapes Go.ChangeAt Go.RowKit
def BufC (w0 : World) (t : TypeId) (cs : List Value) (a : Option Addr) (n cap : Nat) (xs : List Int) (wn : World) : Prop :=
 CBlk w0.heap.size t cs wn ∧ OwnI (w0.heap.size + 1) 5 .u8 wn a n cap xs ∧ Gr w0 wn
section
variable {w0 wn w' : World} {t : TypeId} {cs : List Value} {a : Option Addr} {n cap : Nat} {xs : List Int}
theorem BufC.turn {a' : Option Addr} {n' cap' : Nat} {ys : List Int} (hI : BufC w0 t cs a n cap xs wn) (ho : OwnI (w0.heap.size + 1) 5 .u8 w' a' n' cap' ys) (hg : wn.grownBy w' (Value.slice a n cap).ownBlock) : BufC w0 t cs a' n' cap' ys w' := by
 obtain ⟨h1, h2, h3⟩ := hI
 refine ⟨h1.but hg fun e => ?_, ho, grown_own h3 h2 (by omega) hg⟩
 have := (h2.below _ e.symm).1
 omega
theorem BufC.gr (hI : BufC w0 t cs a n cap xs wn) (hg : Gr wn w') : BufC w0 t cs a n cap xs w' := ⟨hI.1.kept hg, hI.2.1.stay hg, hI.2.2.trans hg⟩
theorem BufC.le (hI : BufC w0 t cs a n cap xs wn) : w0.heap.size + 1 ≤ wn.heap.size := hI.1.lt
theorem BufC.start (h1 : CBlk w0.heap.size t cs wn) (h3 : Gr w0 wn) : BufC w0 t cs none 0 0 [] wn := ⟨h1, OwnI.nil _ _ _ _, h3⟩
theorem BufC.done (hI : BufC w0 t cs a n cap xs wn) : OwnI w0.heap.size 5 .u8 wn a n cap xs := hI.2.1.weak (by omega)
theorem BufC.put (hI : BufC w0 t cs a n cap xs wn) (K : Int) (k N : Nat) (x : Int) (hK : K = k) (hN : N = n + k) (hn : n ≤ 20000) (hk : k ≤ 7) :
  Calls Tryd.prog 51 #[.slice a n cap, .int .i64 K, .int .i64 x] wn fun e w' => ∃ a' cap', e = .returned (.slice a' N cap') ∧ BufC w0 t cs a' N cap' (xs ++ putR x k) w' := by
 refine (put_any _ a n cap xs K k x wn hK hI.2.1 (by omega) hk hI.le).mono ?_
 rintro e w' ⟨a', cap', n', e1, e2, ho, hg, _⟩
 subst hN
 subst e1
 exact ⟨a', cap', e2, hI.turn ho hg⟩
theorem BufC.app (hI : BufC w0 t cs a n cap xs wn) (b : Option Addr) (m c : Nat) (ys : List Int) (N : Nat) (hN : N = n + m) (hr : Rd .u8 wn b m ys) (hn : n + m ≤ 140737488355328) :
  ∃ a' cap' w', (Builtin.append_ #[39, 39] 39 #[.slice a n cap, .slice b m c]).run Tryd.prog wn = .ok (.slice a' N cap') w' ∧ BufC w0 t cs a' N cap' (xs ++ ys) w' := by
 subst hN
 obtain ⟨a', cap', w', h1, h2, h3, _⟩ := app_u8 _ wn a n cap xs hI.2.1 b m c ys hr hn hI.le
 exact ⟨a', cap', w', h1, hI.turn h2 h3⟩
theorem BufC.lit (hI : BufC w0 t cs a n cap xs wn) (zs : List Int) (m N : Nat) (hN : N = n + m) (hm : zs.length = m) (hz : ∀ z ∈ zs, 0 ≤ z ∧ z ≤ 255) (hn : n + m ≤ 100000000) (hm2 : m ≤ 10000) :
  ∃ a' cap' w', (Builtin.append_ #[39, 39] 39 #[.slice a n cap, .slice (some ⟨wn.heap.size, 0, none⟩) m m]).run Tryd.prog (wn.alloc (.cells (zs.map (Value.int .u8)).toArray 5)) = .ok (.slice a' N cap') w' ∧ BufC w0 t cs a' N cap' (xs ++ zs) w' := by
 have hrd := rd_new (k := .u8) (w := wn) zs 5 (0, 0) m hm (by simp only [maxLen]; omega) (fun z h => by have := hz z h; exact WalkArith.wf_u8 (by omega))
 exact (hI.gr (Gr.alloc _ _)).app _ m m zs N hN hrd (by omega)
end
end Go.Proofs.YtlnkofpcidngoaaDoor
/- Bytes that grow beside any known blocks. -/
namespace Go.Proofs.YtlnkofpcidngoaaDoor
open Go.ChangeShapes Go.WideShapes Go.ChangeAt Go.RowKit
theorem gr_any {w w' : World} (h : Gr w w') (r : Option Nat) : w.grownBy w' r := ⟨h.os, h.tape, h.output, h.size, fun i hi _ => h.block i hi (by simp)⟩
abbrev Blks := List (Nat × TypeId × List Value)
def Buf (w0 : World) (gs : Blks) (a : Option Addr) (n cap : Nat) (xs : List Int) (wn : World) : Prop :=
 (∀ (i g : Nat) (t : TypeId) (cs : List Value), gs[i]? = some (g, t, cs) → CBlk g t cs wn ∧ (Value.slice a n cap).ownBlock ≠ some g) ∧ OwnI w0.heap.size 5 .u8 wn a n cap xs ∧ Gr w0 wn
section
variable {w0 wn w' : World} {gs : Blks} {a : Option Addr} {n cap : Nat} {xs : List Int}
theorem Buf.blk (hI : Buf w0 gs a n cap xs wn) (i : Nat) {g : Nat} {t : TypeId} {cs : List Value} (h : gs[i]? = some (g, t, cs)) : CBlk g t cs wn := (hI.1 i g t cs h).1
theorem Buf.at (hI : Buf w0 gs a n cap xs wn) (i : Nat) {g : Nat} {t : TypeId} {cs : List Value} (h : gs[i]? = some (g, t, cs)) (j : Nat) {v : Value} (hv : cs[j]? = some v) : wn.cell? ⟨g, j, none⟩ = some v := (hI.blk i h).at j hv
theorem Buf.own (hI : Buf w0 gs a n cap xs wn) : OwnI w0.heap.size 5 .u8 wn a n cap xs := hI.2.1
theorem Buf.gr0 (hI : Buf w0 gs a n cap xs wn) : Gr w0 wn := hI.2.2
theorem Buf.turn {a' : Option Addr} {n' cap' : Nat} {ys : List Int} (hI : Buf w0 gs a n cap xs wn) (ho : OwnI w0.heap.size 5 .u8 w' a' n' cap' ys) (hg : wn.grownBy w' (Value.slice a n cap).ownBlock) (hf : Follows wn (.slice a n cap) (.slice a' n' cap')) : Buf w0 gs a' n' cap' ys w' := by
 obtain ⟨h1, h2, h3⟩ := hI
 refine ⟨fun i g t cs h => ?_, ho, grown_own h3 h2 (Nat.le_refl _) hg⟩
 obtain ⟨k1, k2⟩ := h1 i g t cs h
 refine ⟨k1.but hg fun e => k2 e.symm, fun e => ?_⟩
 rcases hf with hf | ⟨g', hf, hle⟩
 ·rw [hf] at e; exact k2 e
 ·rw [hf] at e
  injection e with e
  have := k1.lt
  omega
theorem Buf.gr (hI : Buf w0 gs a n cap xs wn) (hg : Gr wn w') : Buf w0 gs a n cap xs w' :=
 ⟨fun i g t cs h => ⟨(hI.1 i g t cs h).1.kept hg, (hI.1 i g t cs h).2⟩, hI.2.1.stay hg, hI.2.2.trans hg⟩
theorem Buf.start (h1 : ∀ (i g : Nat) (t : TypeId) (cs : List Value), gs[i]? = some (g, t, cs) → CBlk g t cs wn) (h3 : Gr w0 wn) : Buf w0 gs none 0 0 [] wn :=
 ⟨fun i g t cs h => ⟨h1 i g t cs h, by simp [Value.ownBlock]⟩, OwnI.nil _ _ _ _, h3⟩
theorem Buf.one {g : Nat} {t : TypeId} {cs : List Value} (h1 : CBlk g t cs wn) (h3 : Gr w0 wn) : Buf w0 [(g, t, cs)] none 0 0 [] wn :=
 Buf.start (fun i g' t' cs' h => by
  rcases i with _ | i
  ·simp only [List.getElem?_cons_zero] at h
   injection h with h
   cases h
   exact h1
  ·simp at h) h3
theorem Buf.add (hI : Buf w0 gs a n cap xs wn) {g : Nat} {t : TypeId} {cs : List Value} (hb : CBlk g t cs w') (hg : Gr wn w') (hle : wn.heap.size ≤ g) : Buf w0 ((g, t, cs) :: gs) a n cap xs w' := by
 obtain ⟨h1, h2, h3⟩ := hI.gr hg
 refine ⟨fun i g' t' cs' h => ?_, h2, h3⟩
 rcases i with _ | i
 ·simp only [List.getElem?_cons_zero] at h
  injection h with h
  cases h
  refine ⟨hb, fun e => ?_⟩
  have := (hI.2.1.below _ e).2
  omega
 ·exact h1 i g' t' cs' (by simpa using h)
theorem Buf.drop {p : Nat × TypeId × List Value} (hI : Buf w0 (p :: gs) a n cap xs wn) : Buf w0 gs a n cap xs wn :=
 ⟨fun i g t cs h => hI.1 (i + 1) g t cs (by simpa using h), hI.2.1, hI.2.2⟩
theorem Buf.put (hI : Buf w0 gs a n cap xs wn) (K : Int) (k N : Nat) (x : Int) (hK : K = k) (hN : N = n + k) (hn : n ≤ 20000) (hk : k ≤ 7) :
  Calls Tryd.prog 51 #[.slice a n cap, .int .i64 K, .int .i64 x] wn fun e w' => ∃ a' cap', e = .returned (.slice a' N cap') ∧ Buf w0 gs a' N cap' (xs ++ putR x k) w' := by
 refine (put_any _ a n cap xs K k x wn hK hI.2.1 (by omega) hk hI.2.2.size).mono ?_
 rintro e w' ⟨a', cap', n', e1, e2, ho, hg, hf⟩
 subst hN
 subst e1
 exact ⟨a', cap', e2, hI.turn ho hg hf⟩
theorem Buf.app (hI : Buf w0 gs a n cap xs wn) (b : Option Addr) (m c : Nat) (ys : List Int) (N : Nat) (hN : N = n + m) (hr : Rd .u8 wn b m ys) (hn : n + m ≤ 140737488355328) :
  ∃ a' cap' w', (Builtin.append_ #[39, 39] 39 #[.slice a n cap, .slice b m c]).run Tryd.prog wn = .ok (.slice a' N cap') w' ∧ Buf w0 gs a' N cap' (xs ++ ys) w' := by
 subst hN
 obtain ⟨a', cap', w', h1, h2, h3, h4⟩ := app_u8 _ wn a n cap xs hI.2.1 b m c ys hr hn hI.2.2.size
 exact ⟨a', cap', w', h1, hI.turn h2 h3 h4⟩
theorem Buf.lit (hI : Buf w0 gs a n cap xs wn) (zs : List Int) (m N : Nat) (hN : N = n + m) (hm : zs.length = m) (hz : ∀ z ∈ zs, 0 ≤ z ∧ z ≤ 255) (hn : n + m ≤ 100000000) (hm2 : m ≤ 10000) :
  ∃ a' cap' w', (Builtin.append_ #[39, 39] 39 #[.slice a n cap, .slice (some ⟨wn.heap.size, 0, none⟩) m m]).run Tryd.prog (wn.alloc (.cells (zs.map (Value.int .u8)).toArray 5)) = .ok (.slice a' N cap') w' ∧ Buf w0 gs a' N cap' (xs ++ zs) w' := by
 have hrd := rd_new (k := .u8) (w := wn) zs 5 (0, 0) m hm (by simp only [maxLen]; omega) (fun z h => by have := hz z h; exact WalkArith.wf_u8 (by omega))
 exact (hI.gr (Gr.alloc _ _)).app _ m m zs N hN hrd (by omega)
end
theorem tq_app {P : Program} {o : Oper} {a : Act} {w : World} {K : Act → World → Prop} (s x : Operand) (t : TypeId)
  (ho : o.op = .call { callee := .builtin .append, args := #[s, x], argTypes := #[t, t] }) {vs vx v' : Value} {w' : World} (hs : a.eval s = vs) (hx : a.eval x = vx)
  (hrun : (Builtin.append_ #[t, t] o.type #[vs, vx]).run P w = .ok v' w') (h : K (a.put o.dst v') w') : Sched.tq P o a w K := by
 unfold Sched.tq execOp
 simp only [ho, resolve, invoke, builtin, Sem.run_bind, Sem.run_pure, Result.andThen_ok, List.map_toArray, List.map_cons, List.map_nil, hs, hx, hrun]
 exact h
theorem rd_cblk {w : World} {g : Nat} (zs : List Int) (m : Nat) {cs : List Value} (h : CBlk g 5 cs w) (hc : cs = zs.map (Value.int .u8)) (hm : zs.length = m) (hl : m ≤ 100) (hb : ∀ z ∈ zs, 0 ≤ z ∧ z ≤ 255) : Rd .u8 w (some ⟨g, 0, none⟩) m zs := by
 subst hc
 refine ⟨hm, fun z hz => WalkArith.wf_u8 (by have := hb z hz; omega), by simp only [maxLen]; omega, .inr ⟨g, 0, rfl, h.lt, fun i hi => ?_⟩⟩
 rw [Nat.zero_add, cell_of_block h]
 simp [show i < zs.length by omega]
def EBuf (w0 : World) (gs : Blks) (lo hi : Nat) (v : Value) (wn : World) : Prop := ∃ a n cap xs, v = .slice a n cap ∧ lo ≤ n ∧ n ≤ hi ∧ Buf w0 gs a n cap xs wn
end Go.Proofs.YtlnkofpcidngoaaDoor
/- Where a walk stands: a cheap look at the next operation, ahead of a law that is dear to try. -/
namespace Go.Proofs.YtlnkofpcidngoaaDoor
open Go.ChangeShapes Go.WideShapes Go.ChangeAt Go.RowKit
section
variable {P : Program} {ops : Array Oper} {Q : Exit → Act → World → Prop} {a : Act} {w : World} {d : Option Tmp} {x y : Operand} {ty : TypeId} {ps : String} {af : Array Edge} {gd : Option (Nat × Bool)} {r : List Oper}
theorem at_load (t : TypeId) (h : wpList P ops Q (⟨d, .load t x, ty, ps, af, gd⟩ :: r) a w) : wpList P ops Q (⟨d, .load t x, ty, ps, af, gd⟩ :: r) a w := h
theorem at_store (t : TypeId) (h : wpList P ops Q (⟨d, .store t x y, ty, ps, af, gd⟩ :: r) a w) : wpList P ops Q (⟨d, .store t x y, ty, ps, af, gd⟩ :: r) a w := h
end
theorem at_calls {P : Program} {f : FuncId} {args : Array Value} {w : World} {Q : Ending → World → Prop} (h : Calls P f args w Q) : Calls P f args w Q := h
end Go.Proofs.YtlnkofpcidngoaaDoor
