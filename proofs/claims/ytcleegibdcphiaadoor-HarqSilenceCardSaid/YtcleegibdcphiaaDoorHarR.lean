/- Layer 29 (harq): Receive of the program. -/
import Derived.Test.YtcleegibdcphiaaDoorHarQ
import Derived.Test.YtcleegibdcphiaaDoorHarP
import Derived.Test.YtcleegibdcphiaaDoorHarD
import Derived.Test.YtcleegibdcphiaaDoorCodeDec
import Derived.Test.YtcleegibdcphiaaDoorSchedD
import Derived.Deep.CutRange
namespace Go.Proofs.YtcleegibdcphiaaDoor
open Go.ChangeShapes Go.WideShapes Go.ChangeAt Go.RowKit
open Cod

structure RecR where
  E : Int
  c : Cl
  ss : List Int
  ok : Bool
  blk : List Int
def newB (c : Cl) (a : An) : Bool := !c.some || (decide (c.fresh ≠ a.fresh) || decide (c.size ≠ a.size))
def baseC (c : Cl) (a : An) : Cl := if newB c a then ⟨a.fresh, a.size, none, totN a.size.toNat, 0, true, false⟩ else c
def baseS (c : Cl) (ss : List Int) (a : An) : List Int := if newB c a then List.replicate (totN a.size.toNat) 0 else ss
def goS (c : Cl) (ss : List Int) (a : An) (ls : List Int) : List Int := colL (baseS c ss a) ls (totN a.size.toNat) a.ver.toNat a.coded.toNat
def recF (c : Cl) (ss : List Int) (a : An) (ls : List Int) : RecR :=
  if (anB a && softB ls) = false then ⟨3, c, ss, false, []⟩
  else if (ls.length : Int) ≠ a.coded then ⟨61, c, ss, false, []⟩
  else if (baseC c a).len ≠ totN a.size.toNat ∨ softB (baseS c ss a) = false then ⟨1, c, ss, false, []⟩
  else if (baseC c a).done = true then ⟨0, baseC c a, baseS c ss a, true, []⟩
  else if decOk (goS c ss a ls) a.size.toNat = true then ⟨0, { baseC c a with done := true }, goS c ss a ls, true, decB (goS c ss a ls) a.size.toNat⟩
  else ⟨0, baseC c a, goS c ss a ls, false, []⟩
def RecPost (R : RecR) (w : World) (e : Ending) (w' : World) : Prop :=
  ∃ a' c' ab cb, e = .returned (.tuple #[CVal { R.c with a := a', cap := c' }, .slice ab R.blk.length cb, .bool R.ok, .int .i64 R.E]) ∧ OwnI w.heap.size 3 .i64 w' a' R.c.len c' R.ss ∧ OwnI w.heap.size 5 .u8 w' ab R.blk.length cb R.blk ∧ Gr w w'
/-- As RecPost; where nothing was received the block is nil. -/
def RecPostN (R : RecR) (w : World) (e : Ending) (w' : World) : Prop :=
  ∃ a' c' ab cb, e = .returned (.tuple #[CVal { R.c with a := a', cap := c' }, .slice ab R.blk.length cb, .bool R.ok, .int .i64 R.E]) ∧ OwnI w.heap.size 3 .i64 w' a' R.c.len c' R.ss ∧ OwnI w.heap.size 5 .u8 w' ab R.blk.length cb R.blk ∧ Gr w w' ∧ (R.ok = false → ab = none ∧ cb = 0)
structure RSt (g3 g4 g6 g9 : Nat) (c : Cl) (a : An) (X : Cl) (E : Int) (u : World) : Prop where
  c3 : CBlk g3 c u
  a4 : ABlk g4 a u
  c6 : CBlk g6 X u
  e9 : EBlk g9 E u
  d36 : g3 ≠ g6
  d39 : g3 ≠ g9
  d46 : g4 ≠ g6
  d49 : g4 ≠ g9
  d69 : g6 ≠ g9
theorem RSt.kept {g3 g4 g6 g9 : Nat} {c : Cl} {a : An} {X : Cl} {E : Int} {u u' : World} (h : RSt g3 g4 g6 g9 c a X E u) (hg : Gr u u') : RSt g3 g4 g6 g9 c a X E u' :=
  ⟨h.c3.kept hg, h.a4.kept hg, h.c6.kept hg, h.e9.kept hg, h.d36, h.d39, h.d46, h.d49, h.d69⟩
theorem RSt.keptBut {g3 g4 g6 g9 k : Nat} {c : Cl} {a : An} {X : Cl} {E : Int} {u u' : World} (h : RSt g3 g4 g6 g9 c a X E u) (hg : u.grownBy u' (Option.some k)) (h3 : g3 ≠ k) (h4 : g4 ≠ k) (h6 : g6 ≠ k) (h9 : g9 ≠ k) : RSt g3 g4 g6 g9 c a X E u' :=
  ⟨h.c3.keptBut hg h3, h.a4.keptBut hg h4, h.c6.keptBut hg h6, h.e9.keptBut hg h9, h.d36, h.d39, h.d46, h.d49, h.d69⟩
theorem RSt.put6 {g3 g4 g6 g9 : Nat} {c : Cl} {a : An} {X : Cl} {E : Int} {u u' : World} (h : RSt g3 g4 g6 g9 c a X E u) (hg : u.grownBy u' (Option.some g6)) {Y : Cl} (hY : CBlk g6 Y u') : RSt g3 g4 g6 g9 c a Y E u' :=
  ⟨h.c3.keptBut hg h.d36, h.a4.keptBut hg h.d46, hY, h.e9.keptBut hg h.d69.symm, h.d36, h.d39, h.d46, h.d49, h.d69⟩
theorem RSt.put9 {g3 g4 g6 g9 : Nat} {c : Cl} {a : An} {X : Cl} {E : Int} {u u' : World} (h : RSt g3 g4 g6 g9 c a X E u) (hg : u.grownBy u' (Option.some g9)) {Y : Int} (hY : EBlk g9 Y u') : RSt g3 g4 g6 g9 c a X Y u' :=
  ⟨h.c3.keptBut hg h.d39, h.a4.keptBut hg h.d49, h.c6.keptBut hg h.d69, hY, h.d36, h.d39, h.d46, h.d49, h.d69⟩
theorem eblk_put {g : Nat} {E : Int} {w : World} (h : EBlk g E w) (F : Int) : EBlk g F (w.setCell ⟨g, 0, none⟩ (.int .i64 F)) := heap_setCell_eq h 0 (.int .i64 F)
theorem run_loadVar_one {P : Program} (w : World) (a : Addr) (ty : TypeId) (d : TypeDesc) (v : Value) (hc : w.cell? a = Option.some v)
    (hu : P.underlying ty = Option.some d) (hd : (match d with | .struct _ | .array _ _ => true | _ => false) = false) : (loadVar ty a).run P w = .ok v w := by
  have hagg : (isAgg ty).run P w = .ok false w := by
    unfold isAgg
    rw [Sem.run_bind, run_underlying hu w]
    cases d <;> simp_all
  simp [loadVar, Sem.run_bind, hagg, hc, go_sem]
theorem results_rec {P : Program} {fn : Func} {p q u v : Tmp} {ty ty2 : TypeId} (h : fn.results = #[.cell p ty, .tmp u, .tmp v, .cell q ty2]) (tmps : Array Value) (w : World) (g : Nat) (t : TypeId) (cs : Array Value) (fr : Nat × Nat) (d : TypeDesc)
    (hp : tmps.getD p undef = .pointer (Option.some ⟨g, 0, none⟩)) (hg : w.heap[g]? = Option.some (.cells cs t fr))
    (hu : P.underlying ty = Option.some d) (hd : (match d with | .struct _ | .array _ _ => true | _ => false) = true) (hi : (P.info? ty).map (·.size) = Option.some cs.size)
    (g2 : Nat) (x : Value) (d2 : TypeDesc) (hp2 : tmps.getD q undef = .pointer (Option.some ⟨g2, 0, none⟩)) (hg2 : w.cell? ⟨g2, 0, none⟩ = Option.some x)
    (hu2 : P.underlying ty2 = Option.some d2) (hd2 : (match d2 with | .struct _ | .array _ _ => true | _ => false) = false) :
    (results fn tmps).run P w = .ok (.tuple #[.agg cs, tmps.getD u undef, tmps.getD v undef, x]) w := by
  have hp' : tmps[p]?.getD undef = .pointer (Option.some ⟨g, 0, none⟩) := by simpa using hp
  have hp2' : tmps[q]?.getD undef = .pointer (Option.some ⟨g2, 0, none⟩) := by simpa using hp2
  simp [results, h, hp', hp2', asAddr, run_loadVar_row w g t ty cs fr d hg hu hd hi, run_loadVar_one w ⟨g2, 0, none⟩ ty2 d2 x hg2 hu2 hd2]
theorem anB_facts {a : An} (h : anB a = true) : (0 ≤ a.proc ∧ a.proc < 4) ∧ (0 ≤ a.fresh ∧ a.fresh ≤ 1) ∧ (0 ≤ a.ver ∧ a.ver < 4) ∧ (1 ≤ a.size ∧ a.size ≤ 256) ∧ (1 ≤ a.coded ∧ a.coded ≤ 1152) := by
  unfold anB sizedB codedB at h
  simp only [Bool.and_eq_true, decide_eq_true_eq] at h
  omega
def RRel (g3 g4 g6 g9 : Nat) (c : Cl) (a : An) (Y : Cl) (S : List Int) (w wc : World) : Prop :=
  ∃ a' c', RSt g3 g4 g6 g9 c a { Y with a := a', cap := c' } 0 wc ∧ OwnI (g9 + 1) 3 .i64 wc a' Y.len c' S ∧ Gr w wc
def NOwnI (B n : Nat) (xs : List Int) : Sched.NPred := fun _ _ v w => ∃ a cap, v = .slice a n cap ∧ OwnI B 3 .i64 w a n cap xs
theorem NOwnI.stable (B n : Nat) (xs : List Int) : Sched.Stable (NOwnI B n xs) := by
  rintro lo hi v w w' ⟨a, c, h1, h2⟩ hg
  exact ⟨a, c, h1, h2.stay hg⟩
theorem own_some {B : Nat} {e : TypeId} {k : IntKind} {w : World} {a : Option Addr} {n cap : Nat} {xs : List Int} (h : OwnI B e k w a n cap xs) (hn : 0 < n) : ∃ g, a = Option.some ⟨g, 0, none⟩ ∧ B ≤ g ∧ g < w.heap.size := by
  rcases h.row.2 with ⟨hv, h0⟩ | ⟨g, cap', cur, hv, hb, hg, hn, hm, hs, ht⟩
  · omega
  · injection hv with h1 h2 h3
    exact ⟨g, h1, hb, heap_lt hg⟩
theorem dec29 (a : Option Addr) (n cap T : Nat) (hT : totN n = T) (ss : List Int) (w : World) (hr : Rd .i64 w a T ss) (hs : softOk ss) (hn : 1 ≤ n ∧ n ≤ 256) (hcap : T ≤ cap) :
    Calls Tryd.prog 52 #[.slice a T cap, .int .i64 (8 * (n : Int) + 16)] w fun e w' => ∃ a' c', e = .returned (.tuple #[.slice a' (8 * n + 16) c', .int .i64 0]) ∧ 8 * n + 16 ≤ c' ∧ Rd .i64 w' a' (8 * n + 16) (dec (8 * n + 16) ss 0) ∧ Gr w w' := by
  have e1 : T = 2 * (8 * n + 16 + 2) := by rw [← hT]; unfold totN; omega
  have e2 : 8 * (n : Int) + 16 = ((8 * n + 16 : Nat) : Int) := by push_cast; rfl
  subst e1
  rw [e2]
  exact decode_cap a (8 * n + 16) cap ss w hr hs (by omega) (by omega) hcap
def NTup (N : Nat) (D : List Int) : Sched.NPred := fun _ _ v w => ∃ a cap, v = .tuple #[.slice a N cap, .int .i64 0] ∧ N ≤ cap ∧ Rd .i64 w a N D
theorem NTup.stable (N : Nat) (D : List Int) : Sched.Stable (NTup N D) := by
  rintro lo hi v w w' ⟨a, c, h1, h2, h3⟩ hg
  exact ⟨a, c, h1, h2, h3.kept hg⟩
def NSl (N : Nat) (D : List Int) : Sched.NPred := fun _ _ v w => ∃ a cap, v = .slice a N cap ∧ N ≤ cap ∧ Rd .i64 w a N D
theorem NSl.stable (N : Nat) (D : List Int) : Sched.Stable (NSl N D) := by
  rintro lo hi v w w' ⟨a, c, h1, h2, h3⟩ hg
  exact ⟨a, c, h1, h2, h3.kept hg⟩
theorem rd_take29 {k : IntKind} {w : World} {a : Option Addr} {n m : Nat} {xs : List Int} (h : Rd k w a n xs) (hm : m ≤ n) : Rd k w a m (xs.take m) := by
  obtain ⟨h1, h2, h3, h4⟩ := h
  refine ⟨by rw [List.length_take]; omega, fun x hx => h2 x (List.mem_of_mem_take hx), by omega, ?_⟩
  rcases h4 with h0 | ⟨b, off, ea, hb, hc⟩
  · left; omega
  · right
    refine ⟨b, off, ea, hb, fun i hi => ?_⟩
    rw [hc i (by omega), List.getElem?_take_of_lt hi]
set_option maxRecDepth 20000 in
set_option maxHeartbeats 4000000 in
theorem receive_all (c : Cl) (ss : List Int) (a : An) (l : Option Addr) (len cap : Nat) (ls : List Int) (w : World) (hl : LaidIn w) (hr : Rd .i64 w c.a c.len ss) (hm : c.len ≤ 17592186044000) (hs : Rd .i64 w l len ls) :
    Calls Tryd.prog 22 #[CVal c, AVal a, .slice l len cap] w (RecPostN (recF c ss a ls) w) := by
  have hmf : ∀ (fn : Fn) (first cap : Array Value) (w : World), (Instr.makeFunc fn first cap).run Tryd.prog w = .ok (.func fn first cap) w := fun _ _ _ _ => rfl
  have HL := Lib.hid hl
  have HR := Lib.hid hr
  have HS := Lib.hid hs
  clear hl hr hs
  unfold CVal AVal
  go_enter_defers Tryd.func22, Tryd.ntmps22
  go_upto_region 1 with (fail)
  obtain ⟨w1, hw1⟩ : ∃ y, y = w.alloc (.cells #[.int .i64 c.fresh, .int .i64 c.size, .slice c.a c.len c.cap, .bool c.some, .bool c.done] 27) := ⟨_, rfl⟩
  rw [← hw1]
  obtain ⟨w2, hw2⟩ : ∃ y, y = w1.alloc (.cells #[.int .i64 a.proc, .int .i64 a.fresh, .int .i64 a.ver, .int .i64 a.size, .int .i64 a.coded] 29) := ⟨_, rfl⟩
  rw [← hw2]
  obtain ⟨w3, hw3⟩ : ∃ y, y = w2.alloc (.cells #[.int .i64 0, .int .i64 0, .slice none 0 0, .bool false, .bool false] 27) := ⟨_, rfl⟩
  rw [← hw3]
  obtain ⟨w4, hw4⟩ : ∃ y, y = w3.alloc (.cells #[.int .i64 0] 32) := ⟨_, rfl⟩
  rw [← hw4]
  obtain ⟨g3, h3⟩ : ∃ g3, w.heap.size = g3 := ⟨_, rfl⟩
  rw [h3]
  obtain ⟨g4, h4⟩ : ∃ g4, g3 + 1 = g4 := ⟨_, rfl⟩
  rw [h4]
  obtain ⟨g6, h6⟩ : ∃ g6, g4 + 1 = g6 := ⟨_, rfl⟩
  rw [h6]
  obtain ⟨g9, h9⟩ : ∃ g9, g6 + 1 = g9 := ⟨_, rfl⟩
  rw [h9]
  have hs1 : w1.heap.size = g4 := by rw [hw1]; simp [h3, h4]
  have hs2 : w2.heap.size = g6 := by rw [hw2]; simp [hs1, h6]
  have hs3 : w3.heap.size = g9 := by rw [hw3]; simp [hs2, h9]
  have hst : RSt g3 g4 g6 g9 c a zeroC 0 w4 := by
    have q1 : CBlk g3 c w1 := by rw [hw1, ← h3]; exact heap_alloc_new _ _
    have q2 : ABlk g4 a w2 := by rw [hw2, ← hs1]; exact heap_alloc_new _ _
    have q3 : CBlk g6 zeroC w3 := by rw [hw3, ← hs2]; exact heap_alloc_new _ _
    have q4 : EBlk g9 0 w4 := by rw [hw4, ← hs3]; exact heap_alloc_new _ _
    have k2 : Gr w1 w2 := by rw [hw2]; exact Gr.alloc _ _
    have k3 : Gr w2 w3 := by rw [hw3]; exact Gr.alloc _ _
    have k4 : Gr w3 w4 := by rw [hw4]; exact Gr.alloc _ _
    exact ⟨q1.kept ((k2.trans k3).trans k4), q2.kept (k3.trans k4), q3.kept k4, q4, by omega, by omega, by omega, by omega, by omega⟩
  have hg4 : Gr w w4 := by
    rw [hw4, hw3, hw2, hw1]
    exact (((Gr.alloc _ _).trans (Gr.alloc _ _)).trans (Gr.alloc _ _)).trans (Gr.alloc _ _)
  have HST4 := Lib.hid hst
  have HGU4 := Lib.hid hg4
  have HG3 := Lib.hid h3
  have HG6 := Lib.hid (show w.heap.size ≤ g6 by omega)
  have HG9 := Lib.hid (show w.heap.size ≤ g9 by omega)
  have HG69 := Lib.hid (show g6 < g9 + 1 by omega)
  have HORD := Lib.hid (show g3 < g9 ∧ g4 < g9 ∧ g6 < g9 by omega)
  have HSZ4 := Lib.hid (show w4.heap.size = g9 + 1 by rw [hw4]; simp [hs3])
  clear hw1 hw2 hw3 hw4 hs1 hs2 hs3 hst hg4 h3 h4 h6 h9
  -- out = c
  obtain ⟨w5, hw5⟩ : ∃ y, y = w4.setCells g6 0 (CList c) := ⟨_, rfl⟩
  have hs5 := HST4.out.put6 (u' := w5) (by rw [hw5]; exact grown_setCells _ _ _ _) (Y := c) (by rw [hw5]; exact cblk_put HST4.out.c6 c)
  have hg5 : Gr w w5 := by rw [hw5]; exact grown_setCells_new HGU4.out HG6.out _ _
  have HTH := Lib.hid (cblk_there HST4.out.c6)
  have h3u := HST4.out.c3
  unfold CBlk CCells at h3u
  have H3U := Lib.hid h3u
  have HW5 := Lib.hid hw5
  have HS5 := Lib.hid hs5
  have HG5 := Lib.hid hg5
  have c2 := cblk_at hs5.c3 2 (v := .slice c.a c.len c.cap) rfl
  clear hw5 hs5 hg5 h3u HST4 HGU4
  go_upto_region 2 with (first | (refine wpList_load_w rfl 27 _ rfl g3 rfl 27 _ _ _ H3U.out Tryd.underlying27 rfl (by kernel_rfl) ?_) | (refine wpList_store_mid rfl 27 _ _ rfl g6 0 (CList c).toArray rfl rfl HTH.out (by kernel_rfl) (clist_one _) ?_; rw [← HW5.out]))
  clear HTH HW5 H3U
  go_wp2_with fail
  refine (cloneI29 c.a c.len c.cap ss w5 (rd_gr HR.out HG5.out) hm).mono ?_
  rintro e w6 ⟨a', c', rfl, ho6, hg6⟩
  have hs6 := HS5.out.kept hg6
  have c26 := cblk_at hs6.c6 2 (v := .slice c.a c.len c.cap) rfl
  have f26 := frozen_of_block hs6.c6 2
  obtain ⟨u, hu⟩ : ∃ y, y = w6.setCell ⟨g6, 2, none⟩ (.slice a' c.len c') := ⟨_, rfl⟩
  obtain ⟨X, hX⟩ : ∃ X : Cl, X = { c with a := a', cap := c' } := ⟨_, rfl⟩
  have hx : CBlk g6 X u := by rw [hu, hX]; exact heap_setCell_eq hs6.c6 2 (.slice a' c.len c')
  have hgs : w6.grownBy u (Option.some g6) := by rw [hu]; exact grown_setAt w6 g6 2 _
  have hne : (Value.slice a' c.len c').ownBlock = none ∨ (Value.slice a' c.len c').ownBlock ≠ Option.some g6 := by
    have h6' := heap_lt HS5.out.c6
    cases hv : (Value.slice a' c.len c').ownBlock with
    | none => exact .inl rfl
    | some b => exact .inr (by intro h2; have := (ho6.below b hv).1; cases h2; omega)
  have hsu := hs6.put6 hgs hx
  have hgu : Gr w u := by rw [hu]; exact grown_set (HG5.out.trans hg6) (a := ⟨g6, 2, none⟩) HG6.out _
  have hou := ho6.kept hgs hne
  have h59 := heap_lt HS5.out.e9
  have HST := Lib.hid hsu
  have HGU := Lib.hid hgu
  have HOU := Lib.hid (hou.weak29 (B' := g9 + 1) (by omega))
  have HU := Lib.hid hu
  have HX := Lib.hid hX
  clear hs6 hx hgs hne hsu hgu hou ho6 hg6 h59 HS5 HG5 c2 hu hX
  go_upto_region 3 with (fail)
  rw [← HU.out]
  clear HU c26 f26
  have ha4 := HST.out.a4
  unfold ABlk ACells at ha4
  have HA4 := Lib.hid ha4
  clear ha4
  obtain ⟨V, hV⟩ : ∃ V, (anB a && softB ls) = V := ⟨_, rfl⟩
  have HV := Lib.hid hV
  clear hV
  go_wp2_with (refine wpList_load_w rfl 29 _ rfl g4 rfl 29 _ _ _ HA4.out Tryd.underlying29 rfl (by kernel_rfl) ?_)
  refine (right_any a l len cap ls u (rd_gr HS.out HGU.out)).mono ?_
  rw [HV.out]
  rintro e u7 ⟨rfl, hg7⟩
  have HST7 := Lib.hid (HST.out.kept hg7)
  have HGU7 := Lib.hid (HGU.out.trans hg7)
  have HOU7 := Lib.hid (HOU.out.stay hg7)
  clear hg7 HST HGU HOU HA4
  cases V
  · have HF := Lib.hid (show recF c ss a ls = ⟨3, c, ss, false, []⟩ by unfold recF; rw [if_pos HV.out])
    obtain ⟨u1, hu1⟩ : ∃ y, y = u7.setCells g6 0 (CList X) := ⟨_, rfl⟩
    have hs1 := HST7.out.put6 (u' := u1) (by rw [hu1]; exact grown_setCells _ _ _ _) (Y := X) (by rw [hu1]; exact cblk_put HST7.out.c6 X)
    have hg1 : Gr w u1 := by rw [hu1]; exact grown_setCells_new HGU7.out HG6.out _ _
    have c9 := eblk_at hs1.e9
    have f9 := frozen_of_block hs1.e9 0
    obtain ⟨u2, hu2⟩ : ∃ y, y = u1.setCell ⟨g9, 0, none⟩ (.int .i64 3) := ⟨_, rfl⟩
    have hs2 := hs1.put9 (u' := u2) (Y := 3) (by rw [hu2]; exact grown_setAt _ _ _ _) (by rw [hu2]; exact eblk_put hs1.e9 _)
    have hg2 : Gr w u2 := by rw [hu2]; exact grown_set hg1 (a := ⟨g9, 0, none⟩) HG9.out _
    have HTH := Lib.hid (cblk_there HST7.out.c6)
    have HU1 := Lib.hid hu1
    have HU2 := Lib.hid hu2
    have HS2 := Lib.hid hs2
    have HG2 := Lib.hid hg2
    have h6u := HST7.out.c6
    unfold CBlk CCells at h6u
    have H6U := Lib.hid h6u
    clear hu1 hu2 hs1 hs2 hg1 hg2 h6u
    go_wp2_with (first | (refine wpList_load_w rfl 27 _ rfl g6 rfl 27 _ _ _ H6U.out Tryd.underlying27 rfl (by kernel_rfl) ?_) | (refine wpList_store_mid rfl 27 _ _ rfl g6 0 (CList X).toArray rfl rfl HTH.out (by kernel_rfl) (clist_one _) ?_; rw [← HU1.out]))
    rw [← HU2.out]
    refine leaves_cons (f := 46) (args := #[.pointer (Option.some ⟨g9, 0, none⟩), .pointer (Option.some ⟨g3, 0, none⟩), .pointer (Option.some ⟨g6, 0, none⟩)]) (by simp) (by simp [go_sem]) ?_
    refine (rec1_no g9 g3 g6 3 c X ss .returning w u2 HS2.out.e9 (by decide) HS2.out.c3 HS2.out.c6 HS2.out.d36 HR.out HG2.out HG6.out hm).mono ?_
    rintro e v w9 ⟨rfl, rfl, hgs9, a9, c9', hc9, ho9⟩
    have he9 := HS2.out.e9.keptBut hgs9 HS2.out.d69.symm
    have hg9 := grownBy_trans HG2.out hgs9 (.inr (.inr ⟨g6, rfl, HG6.out⟩))
    refine ⟨_, results_rec Tryd.results22 _ _ g6 _ _ _ _ rfl hc9 Tryd.underlying27 rfl (by kernel_rfl) g9 _ _ rfl (eblk_at he9) Tryd.underlying32 rfl, ?_⟩
    rw [HF.out]
    exact ⟨a9, c9', none, 0, rfl, ho9.weak29 HG2.out.size, OwnI.nil _ _ _ _, hg9, fun _ => ⟨rfl, rfl⟩⟩
  have HNV := Lib.hid (show ¬ (anB a && softB ls) = false by rw [HV.out]; simp)
  obtain ⟨f1, f2, f3, f4, f5⟩ := anB_facts (show anB a = true by have := HV.out; simp only [Bool.and_eq_true] at this; exact this.1)
  have hsl := (softB_iff ls).1 (show softB ls = true by have := HV.out; simp only [Bool.and_eq_true] at this; exact this.2)
  have HSL := Lib.hid hsl
  have HLL := Lib.hid HS.out.1
  clear hsl
  have c44 := ablk_at HST7.out.a4 4 (v := .int .i64 a.coded) rfl
  by_cases hlc : (len : Int) = a.coded
  case neg =>
    have hb : ((len : Int) != a.coded) = true := by simpa using hlc
    have HNC := Lib.hid hlc
    clear hlc
    have HF := Lib.hid (show recF c ss a ls = ⟨61, c, ss, false, []⟩ by unfold recF; rw [if_neg HNV.out, if_pos (by rw [HLL.out]; exact HNC.out)])
    obtain ⟨u1, hu1⟩ : ∃ y, y = u7.setCells g6 0 (CList X) := ⟨_, rfl⟩
    have hs1 := HST7.out.put6 (u' := u1) (by rw [hu1]; exact grown_setCells _ _ _ _) (Y := X) (by rw [hu1]; exact cblk_put HST7.out.c6 X)
    have hg1 : Gr w u1 := by rw [hu1]; exact grown_setCells_new HGU7.out HG6.out _ _
    have c9 := eblk_at hs1.e9
    have f9 := frozen_of_block hs1.e9 0
    obtain ⟨u2, hu2⟩ : ∃ y, y = u1.setCell ⟨g9, 0, none⟩ (.int .i64 61) := ⟨_, rfl⟩
    have hs2 := hs1.put9 (u' := u2) (Y := 61) (by rw [hu2]; exact grown_setAt _ _ _ _) (by rw [hu2]; exact eblk_put hs1.e9 _)
    have hg2 : Gr w u2 := by rw [hu2]; exact grown_set hg1 (a := ⟨g9, 0, none⟩) HG9.out _
    have HTH := Lib.hid (cblk_there HST7.out.c6)
    have HU1 := Lib.hid hu1
    have HU2 := Lib.hid hu2
    have HS2 := Lib.hid hs2
    have HG2 := Lib.hid hg2
    have h6u := HST7.out.c6
    unfold CBlk CCells at h6u
    have H6U := Lib.hid h6u
    clear hu1 hu2 hs1 hs2 hg1 hg2 h6u
    go_wp2_with (first | (refine wpList_load_w rfl 27 _ rfl g6 rfl 27 _ _ _ H6U.out Tryd.underlying27 rfl (by kernel_rfl) ?_) | (refine wpList_store_mid rfl 27 _ _ rfl g6 0 (CList X).toArray rfl rfl HTH.out (by kernel_rfl) (clist_one _) ?_; rw [← HU1.out]))
    rw [← HU2.out]
    refine leaves_cons (f := 46) (args := #[.pointer (Option.some ⟨g9, 0, none⟩), .pointer (Option.some ⟨g3, 0, none⟩), .pointer (Option.some ⟨g6, 0, none⟩)]) (by simp) (by simp [go_sem]) ?_
    refine (rec1_no g9 g3 g6 61 c X ss .returning w u2 HS2.out.e9 (by decide) HS2.out.c3 HS2.out.c6 HS2.out.d36 HR.out HG2.out HG6.out hm).mono ?_
    rintro e v w9 ⟨rfl, rfl, hgs9, a9, c9', hc9, ho9⟩
    have he9 := HS2.out.e9.keptBut hgs9 HS2.out.d69.symm
    have hg9 := grownBy_trans HG2.out hgs9 (.inr (.inr ⟨g6, rfl, HG6.out⟩))
    refine ⟨_, results_rec Tryd.results22 _ _ g6 _ _ _ _ rfl hc9 Tryd.underlying27 rfl (by kernel_rfl) g9 _ _ rfl (eblk_at he9) Tryd.underlying32 rfl, ?_⟩
    rw [HF.out]
    exact ⟨a9, c9', none, 0, rfl, ho9.weak29 HG2.out.size, OwnI.nil _ _ _ _, hg9, fun _ => ⟨rfl, rfl⟩⟩
  have hb : ((len : Int) != a.coded) = false := by simpa using hlc
  have HLC := Lib.hid hlc
  clear hlc
  have HNC := Lib.hid (show ¬ (ls.length : Int) ≠ a.coded by rw [HLL.out, HLC.out]; simp)
  obtain ⟨n, hn⟩ : ∃ n : Nat, a.size = n := ⟨a.size.toNat, by omega⟩
  obtain ⟨T, hT⟩ : ∃ T, totN n = T := ⟨_, rfl⟩
  have hT1 : 1 ≤ T ∧ T ≤ 4132 := by unfold totN at hT; omega
  have HLT := Lib.hid (show lenS (8 * (n : Int) + 16) = (T : Int) by rw [← hT]; unfold lenS totN; rw [if_pos (by omega)]; push_cast; omega)
  have HN := Lib.hid hn
  have HT := Lib.hid hT
  have hn1 : 1 ≤ n ∧ n ≤ 256 := by omega
  have hsz : 0 ≤ (n : Int) ∧ (n : Int) ≤ 100000 := by omega
  have HTS := Lib.hid (show totN a.size.toNat = T by rw [hn]; exact hT)
  clear hn hT
  have c43 := ablk_at HST7.out.a4 3 (v := .int .i64 a.size) rfl
  rw [HN.out] at c43
  go_upto_region 8 with (fail)
  clear hb c44
  go_wp2_with fail
  refine (length29_any n hsz u7).mono ?_
  rintro e w' ⟨rfl, rfl⟩
  go_wp2_with fail
  refine (length_is2 HLT.out u7).mono ?_
  rintro e w' ⟨rfl, rfl⟩
  clear hsz
  have c30 := cblk_at HST7.out.c3 0 (v := .int .i64 c.fresh) rfl
  have c31 := cblk_at HST7.out.c3 1 (v := .int .i64 c.size) rfl
  have c33 := cblk_at HST7.out.c3 3 (v := .bool c.some) rfl
  have c41 := ablk_at HST7.out.a4 1 (v := .int .i64 a.fresh) rfl
  go_upto_region 9 with (fail)
  obtain ⟨B, hB⟩ : ∃ B, newB c a = B := ⟨_, rfl⟩
  have HB := Lib.hid hB
  clear hB
  go_cut [55] from 39 (fun s wc => s = .bool B ∧ u7 = wc)
  case first =>
    have hq := HB.out
    unfold newB at hq
    rcases Bool.eq_false_or_eq_true c.some with hcs | hcs
    rotate_left
    · rw [hcs] at c33 hq
      clear hcs
      have hE : B = true := by rw [← hq]; rfl
      subst hE
      clear hq
      go_wp2_with fail
      go_meet
      exact ⟨rfl, rfl⟩
    · rw [hcs] at c33 hq
      clear hcs
      by_cases hf : c.fresh = a.fresh
      · have hb1 : (c.fresh != a.fresh) = false := by simpa using hf
        have hE0 : decide (c.fresh ≠ a.fresh) = false := decide_eq_false (by simpa using hf)
        rw [hE0] at hq
        clear hf hE0
        by_cases hz : c.size = a.size
        · have hb2 : (c.size != (n : Int)) = false := by rw [← HN.out]; simpa using hz
          have hE : B = false := by rw [← hq, decide_eq_false (by simpa using hz)]; rfl
          subst hE
          clear hz hq
          go_wp2_with fail
          go_meet
          exact ⟨rfl, rfl⟩
        · have hb2 : (c.size != (n : Int)) = true := by rw [← HN.out]; simpa using hz
          have hE : B = true := by rw [← hq, decide_eq_true hz]; rfl
          subst hE
          clear hz hq
          go_wp2_with fail
          go_meet
          exact ⟨rfl, rfl⟩
      · have hb1 : (c.fresh != a.fresh) = true := by simpa using hf
        have hE : B = true := by rw [← hq, decide_eq_true hf]; rfl
        subst hE
        clear hf hq
        go_wp2_with fail
        go_meet
        exact ⟨rfl, rfl⟩
  case rest =>
    obtain ⟨rfl, rfl⟩ := hcut
    clear c30 c31 c33
    have hmk := fun u => make_ints T (by omega) u
    go_upto_if 55 with (fail)
    go_cut [] from 56 to 62 (fun wc => RRel g3 g4 g6 g9 c a (baseC c a) (baseS c ss a) w wc)
    case first =>
      cases B
      · have hbc : baseC c a = c := by unfold baseC; rw [HB.out]; rfl
        have hbs : baseS c ss a = ss := by unfold baseS; rw [HB.out]; rfl
        have HBC := Lib.hid hbc
        have HBS := Lib.hid hbs
        clear hbc hbs
        go_wp2_with fail
        go_meet
        rw [HBC.out, HBS.out]
        exact ⟨a', c', by rw [← HX.out]; exact HST7.out, HOU7.out, HGU7.out⟩
      · have hbc : baseC c a = ⟨a.fresh, a.size, none, T, 0, true, false⟩ := by unfold baseC; rw [HB.out, HTS.out]; rfl
        have hbs : baseS c ss a = List.replicate T 0 := by unfold baseS; rw [HB.out, HTS.out]; rfl
        have HBC := Lib.hid hbc
        have HBS := Lib.hid hbs
        have k41 : ∀ u', Gr u7 u' → u'.cell? ⟨g4, 1, none⟩ = Option.some (.int .i64 a.fresh) := fun u' h => h.cell c41
        have k43 : ∀ u', Gr u7 u' → u'.cell? ⟨g4, 3, none⟩ = Option.some (.int .i64 (n : Int)) := fun u' h => h.cell c43
        clear hbc hbs c41 c43
        go_upto_region 10 with (fail)
        refine Sched.wp_region_sched 6 [] [5] (by kernel_rfl) (by kernel_rfl) ?_
        simp only [List.take_succ_cons, List.take_zero, List.drop_succ_cons, List.drop_zero]
        repeat (first | (refine Sched.walk1_no rfl rfl (fun K hK => ?_); simp only [Act.put, List.setIfInBounds_toArray, List.set_cons_zero, List.set_cons_succ]; refine hK _ ?_; clear hK K) | (refine Sched.walk1_gr rfl rfl rfl (fun K hK => ?_); apply Exists.intro; refine ⟨fun w1 hw1 => ?_, ?_⟩; (focus (go_simp; (try go_ints); (try (simp only [IntWalk.iteOmega]; go_simp)); first | done | fail | (with_reducible rfl) | (with_reducible exact ⟨rfl, rfl⟩))); simp only [Act.put, List.setIfInBounds_toArray, List.set_cons_zero, List.set_cons_succ]; refine hK _ ?_; clear hK K) | (refine Sched.walk1_pure rfl rfl rfl (fun K hK => ?_); apply Exists.intro; refine ⟨fun w1 => ?_, ?_⟩; (focus (go_simp; (try go_ints); (try (simp only [IntWalk.iteOmega]; go_simp)); first | done | (with_reducible rfl) | (with_reducible exact ⟨rfl, rfl⟩))); simp only [Act.put, List.setIfInBounds_toArray, List.set_cons_zero, List.set_cons_succ]; refine hK _ ?_; clear hK K) | (refine Sched.walk1_box rfl rfl ?_; apply Exists.intro; refine ⟨fun w1 hw1 => ?_, ?_⟩; (focus (go_simp; exact ⟨Gr.alloc _ _, rfl, by simp, heap_alloc_new _ _⟩))))
        refine Sched.walk1_new (NOwnI (g9 + 1) T (List.replicate T 0)) rfl rfl (NOwnI.stable _ _ _) (fun v hv => ?_) ?_
        · go_simp
          have hv9 := heap_lt (HST7.out.kept hv).e9
          exact ⟨Gr.alloc _ _, _, _, rfl, own_made (g9 + 1) T v (by omega) (by simp only [maxLen]; omega)⟩
        (with_reducible refine Sched.walk1_nil ?_)
        intro wz hwz
        dsimp only [Sched.EndN, List.nil_append, List.cons_append, Act.put]
        rintro - - v5 ⟨a5, c5, rfl, ho5⟩ - - - -
        (try simp only [List.setIfInBounds_toArray, List.set_cons_zero, List.set_cons_succ])
        refine Sched.walk2_go rfl (fun K hK => ?_)
        go_simp
        (try go_ints)
        (try (simp only [IntWalk.iteOmega]; go_simp))
        refine hK _ _ ?_
        clear hK K
        obtain ⟨Y, hY⟩ : ∃ Y : Cl, Y = ⟨a.fresh, a.size, a5, T, c5, true, false⟩ := ⟨_, rfl⟩
        obtain ⟨w9, hw9⟩ : ∃ y, y = wz.setCells g6 0 (CList Y) := ⟨_, rfl⟩
        have hs8 := HST7.out.kept hwz
        have h89 := heap_lt hs8.e9
        have hgs9 := grown_setCells g6 (CList Y) 0 wz
        have hs9 := hs8.put6 (u' := w9) (by rw [hw9]; exact hgs9) (Y := Y) (by rw [hw9]; exact cblk_put hs8.c6 Y)
        have hg9 : Gr w w9 := by rw [hw9]; exact grown_setCells_new (HGU7.out.trans hwz) HG6.out _ _
        have ho9 := own_cells ho5 HG69.out (CList Y)
        rw [← hw9] at ho9
        have HTH := Lib.hid (cblk_there hs8.c6)
        have HS9 := Lib.hid hs9
        have HO9 := Lib.hid ho9
        have HG9W := Lib.hid hg9
        have HW9 := Lib.hid hw9
        have HY := Lib.hid hY
        clear hs8 hw9 hs9 ho9 hg9 ho5 hwz k41 k43 hgs9 h89 hY
        refine Sched.walk2_go rfl (fun K hK => ?_)
        refine tq_storeH 27 _ _ rfl g6 0 (CList Y).toArray rfl (by rw [HY.out, HN.out]; rfl) HTH.out (by kernel_rfl) (clist_one _) ?_
        rw [← HW9.out]
        dsimp only [Act.put]
        try simp only [List.setIfInBounds_toArray, List.set_cons_zero, List.set_cons_succ]
        refine hK _ _ ?_
        clear hK K
        refine Sched.walk2_nil ?_
        go_wp2_with fail
        go_meet
        rw [HBC.out, HBS.out]
        exact ⟨a5, c5, by rw [HY.out] at HS9; exact HS9.out, HO9.out, HG9W.out⟩
    case rest =>
      obtain ⟨ax, cx, hsx, hox, hgx⟩ := hcut
      obtain ⟨⟨bf, bs, ba, bl, bc, bsm, bd⟩, hY⟩ : ∃ Y, baseC c a = Y := ⟨_, rfl⟩
      obtain ⟨S0, hS0⟩ : ∃ S0, baseS c ss a = S0 := ⟨_, rfl⟩
      rw [hS0] at hox
      rw [hY] at hox hsx
      have hox1 : OwnI (g9 + 1) 3 .i64 wc ax bl cx S0 := hox
      have HSTc := Lib.hid (show RSt g3 g4 g6 g9 c a (Cl.mk bf bs ax bl cx bsm bd) 0 wc from hsx)
      have HOUc := Lib.hid hox1
      have HGUc := Lib.hid hgx
      have HS0 := Lib.hid hS0
      have HYB := Lib.hid hY
      clear hsx hox hox1 hgx hS0 hY c41 c43 hmk HST7 HGU7 HOU7
      have cx2 := cblk_at HSTc.out.c6 2 (v := .slice ax bl cx) rfl
      by_cases hxl : bl = T
      case neg =>
        have hb : ((bl : Int) != (T : Int)) = true := by simp; omega
        have HNL := Lib.hid hxl
        clear hxl
        have HF := Lib.hid (show recF c ss a ls = ⟨1, c, ss, false, []⟩ by unfold recF; rw [if_neg HNV.out, if_neg HNC.out, if_pos (Or.inl (by rw [HTS.out, HYB.out]; exact HNL.out))])
        obtain ⟨u1, hu1⟩ : ∃ y, y = wc.setCells g6 0 (CList (Cl.mk bf bs ax bl cx bsm bd)) := ⟨_, rfl⟩
        have hs1 := HSTc.out.put6 (u' := u1) (by rw [hu1]; exact grown_setCells _ _ _ _) (Y := Cl.mk bf bs ax bl cx bsm bd) (by rw [hu1]; exact cblk_put HSTc.out.c6 (Cl.mk bf bs ax bl cx bsm bd))
        have hg1 : Gr w u1 := by rw [hu1]; exact grown_setCells_new HGUc.out HG6.out _ _
        have c9 := eblk_at hs1.e9
        have f9 := frozen_of_block hs1.e9 0
        obtain ⟨u2, hu2⟩ : ∃ y, y = u1.setCell ⟨g9, 0, none⟩ (.int .i64 1) := ⟨_, rfl⟩
        have hs2 := hs1.put9 (u' := u2) (Y := 1) (by rw [hu2]; exact grown_setAt _ _ _ _) (by rw [hu2]; exact eblk_put hs1.e9 _)
        have hg2 : Gr w u2 := by rw [hu2]; exact grown_set hg1 (a := ⟨g9, 0, none⟩) HG9.out _
        have HTH := Lib.hid (cblk_there HSTc.out.c6)
        have HU1 := Lib.hid hu1
        have HU2 := Lib.hid hu2
        have HS2 := Lib.hid hs2
        have HG2 := Lib.hid hg2
        have h6u := HSTc.out.c6
        unfold CBlk CCells at h6u
        have H6U := Lib.hid h6u
        clear hu1 hu2 hs1 hs2 hg1 hg2 h6u
        go_wp2_with (first | (refine wpList_load_w rfl 27 _ rfl g6 rfl 27 _ _ _ H6U.out Tryd.underlying27 rfl (by kernel_rfl) ?_) | (refine wpList_store_mid rfl 27 _ _ rfl g6 0 (CList (Cl.mk bf bs ax bl cx bsm bd)).toArray rfl rfl HTH.out (by kernel_rfl) (clist_one _) ?_; rw [← HU1.out]))
        rw [← HU2.out]
        refine leaves_cons (f := 46) (args := #[.pointer (Option.some ⟨g9, 0, none⟩), .pointer (Option.some ⟨g3, 0, none⟩), .pointer (Option.some ⟨g6, 0, none⟩)]) (by simp) (by simp [go_sem]) ?_
        refine (rec1_no g9 g3 g6 1 c (Cl.mk bf bs ax bl cx bsm bd) ss .returning w u2 HS2.out.e9 (by decide) HS2.out.c3 HS2.out.c6 HS2.out.d36 HR.out HG2.out HG6.out hm).mono ?_
        rintro e v w9 ⟨rfl, rfl, hgs9, a9, c9', hc9, ho9⟩
        have he9 := HS2.out.e9.keptBut hgs9 HS2.out.d69.symm
        have hg9 := grownBy_trans HG2.out hgs9 (.inr (.inr ⟨g6, rfl, HG6.out⟩))
        refine ⟨_, results_rec Tryd.results22 _ _ g6 _ _ _ _ rfl hc9 Tryd.underlying27 rfl (by kernel_rfl) g9 _ _ rfl (eblk_at he9) Tryd.underlying32 rfl, ?_⟩
        rw [HF.out]
        exact ⟨a9, c9', none, 0, rfl, ho9.weak29 HG2.out.size, OwnI.nil _ _ _ _, hg9, fun _ => ⟨rfl, rfl⟩⟩
      subst hxl
      obtain ⟨Q, hQ⟩ : ∃ Q, softB S0 = Q := ⟨_, rfl⟩
      have HQ := Lib.hid hQ
      clear hQ
      go_wp2_with fail
      refine (within_any ax bl cx S0 wc HOUc.out.rd).mono ?_
      rw [HQ.out]
      rintro e w' ⟨rfl, rfl⟩
      cases Q
      · clear cx2
        have HF := Lib.hid (show recF c ss a ls = ⟨1, c, ss, false, []⟩ by unfold recF; rw [if_neg HNV.out, if_neg HNC.out, if_pos (Or.inr (by rw [HS0.out]; exact HQ.out))])
        obtain ⟨u1, hu1⟩ : ∃ y, y = wc.setCells g6 0 (CList (Cl.mk bf bs ax bl cx bsm bd)) := ⟨_, rfl⟩
        have hs1 := HSTc.out.put6 (u' := u1) (by rw [hu1]; exact grown_setCells _ _ _ _) (Y := Cl.mk bf bs ax bl cx bsm bd) (by rw [hu1]; exact cblk_put HSTc.out.c6 (Cl.mk bf bs ax bl cx bsm bd))
        have hg1 : Gr w u1 := by rw [hu1]; exact grown_setCells_new HGUc.out HG6.out _ _
        have c9 := eblk_at hs1.e9
        have f9 := frozen_of_block hs1.e9 0
        obtain ⟨u2, hu2⟩ : ∃ y, y = u1.setCell ⟨g9, 0, none⟩ (.int .i64 1) := ⟨_, rfl⟩
        have hs2 := hs1.put9 (u' := u2) (Y := 1) (by rw [hu2]; exact grown_setAt _ _ _ _) (by rw [hu2]; exact eblk_put hs1.e9 _)
        have hg2 : Gr w u2 := by rw [hu2]; exact grown_set hg1 (a := ⟨g9, 0, none⟩) HG9.out _
        have HTH := Lib.hid (cblk_there HSTc.out.c6)
        have HU1 := Lib.hid hu1
        have HU2 := Lib.hid hu2
        have HS2 := Lib.hid hs2
        have HG2 := Lib.hid hg2
        have h6u := HSTc.out.c6
        unfold CBlk CCells at h6u
        have H6U := Lib.hid h6u
        clear hu1 hu2 hs1 hs2 hg1 hg2 h6u
        go_wp2_with (first | (refine wpList_load_w rfl 27 _ rfl g6 rfl 27 _ _ _ H6U.out Tryd.underlying27 rfl (by kernel_rfl) ?_) | (refine wpList_store_mid rfl 27 _ _ rfl g6 0 (CList (Cl.mk bf bs ax bl cx bsm bd)).toArray rfl rfl HTH.out (by kernel_rfl) (clist_one _) ?_; rw [← HU1.out]))
        rw [← HU2.out]
        refine leaves_cons (f := 46) (args := #[.pointer (Option.some ⟨g9, 0, none⟩), .pointer (Option.some ⟨g3, 0, none⟩), .pointer (Option.some ⟨g6, 0, none⟩)]) (by simp) (by simp [go_sem]) ?_
        refine (rec1_no g9 g3 g6 1 c (Cl.mk bf bs ax bl cx bsm bd) ss .returning w u2 HS2.out.e9 (by decide) HS2.out.c3 HS2.out.c6 HS2.out.d36 HR.out HG2.out HG6.out hm).mono ?_
        rintro e v w9 ⟨rfl, rfl, hgs9, a9, c9', hc9, ho9⟩
        have he9 := HS2.out.e9.keptBut hgs9 HS2.out.d69.symm
        have hg9 := grownBy_trans HG2.out hgs9 (.inr (.inr ⟨g6, rfl, HG6.out⟩))
        refine ⟨_, results_rec Tryd.results22 _ _ g6 _ _ _ _ rfl hc9 Tryd.underlying27 rfl (by kernel_rfl) g9 _ _ rfl (eblk_at he9) Tryd.underlying32 rfl, ?_⟩
        rw [HF.out]
        exact ⟨a9, c9', none, 0, rfl, ho9.weak29 HG2.out.size, OwnI.nil _ _ _ _, hg9, fun _ => ⟨rfl, rfl⟩⟩
      have HNB := Lib.hid (show ¬ ((baseC c a).len ≠ totN a.size.toNat ∨ softB (baseS c ss a) = false) by rw [HTS.out, HYB.out, HS0.out, HQ.out]; simp)
      clear cx2
      have cx4 := cblk_at HSTc.out.c6 4 (v := .bool bd) rfl
      cases bd
      rotate_left
      · have HF := Lib.hid (show recF c ss a ls = ⟨0, Cl.mk bf bs ba bl bc bsm true, S0, true, []⟩ by unfold recF; rw [if_neg HNV.out, if_neg HNC.out, if_neg HNB.out, if_pos (by rw [HYB.out]), HYB.out, HS0.out])
        obtain ⟨u1, hu1⟩ : ∃ y, y = (wc).setCells g6 0 (CList (Cl.mk bf bs ax bl cx bsm true)) := ⟨_, rfl⟩
        have hs1 := (HSTc).out.put6 (u' := u1) (by rw [hu1]; exact grown_setCells _ _ _ _) (Y := (Cl.mk bf bs ax bl cx bsm true)) (by rw [hu1]; exact cblk_put (HSTc).out.c6 (Cl.mk bf bs ax bl cx bsm true))
        have hg1 : Gr w u1 := by rw [hu1]; exact grown_setCells_new (HGUc).out HG6.out _ _
        have c9 := eblk_at hs1.e9
        have f9 := frozen_of_block hs1.e9 0
        obtain ⟨u2, hu2⟩ : ∃ y, y = u1.setCell ⟨g9, 0, none⟩ (.int .i64 0) := ⟨_, rfl⟩
        have hgs2 : u1.grownBy u2 (Option.some g9) := by rw [hu2]; exact grown_setAt _ _ _ _
        have hs2 := hs1.put9 (u' := u2) (Y := 0) hgs2 (by rw [hu2]; exact eblk_put hs1.e9 _)
        have hg2 : Gr w u2 := by rw [hu2]; exact grown_set hg1 (a := ⟨g9, 0, none⟩) HG9.out _
        have hkp : ∀ {a : Option Addr} {n cap : Nat} {e : TypeId} {kk : IntKind} {xs : List Int}, OwnI (g9 + 1) e kk (wc) a n cap xs → OwnI w.heap.size e kk u2 a n cap xs := by
          intro a n cap e kk xs h
          have h2 := own_cells h HG69.out (CList (Cl.mk bf bs ax bl cx bsm true))
          rw [← hu1] at h2
          refine (h2.kept hgs2 ?_).weak29 (Nat.le_trans HG9.out (Nat.le_succ _))
          cases hv : (Value.slice a n cap).ownBlock with
          | none => exact .inl rfl
          | some b => exact .inr (by intro h3; have := (h2.below b hv).1; cases h3; omega)
        have HTH := Lib.hid (cblk_there (HSTc).out.c6)
        have HU1 := Lib.hid hu1
        have HU2 := Lib.hid hu2
        have HS2 := Lib.hid hs2
        have HG2 := Lib.hid hg2
        have HOX := Lib.hid (hkp (HOUc).out)
        have HBX := Lib.hid (hkp (OwnI.nil (g9 + 1) 5 .u8 wc))
        have h6u := (HSTc).out.c6
        unfold CBlk CCells at h6u
        have H6U := Lib.hid h6u
        clear hu1 hu2 hs1 hs2 hg1 hg2 h6u hgs2 hkp
        go_wp2_with (first | (refine wpList_load_w rfl 27 _ rfl g6 rfl 27 _ _ _ H6U.out Tryd.underlying27 rfl (by kernel_rfl) ?_) | (refine wpList_store_mid rfl 27 _ _ rfl g6 0 (CList (Cl.mk bf bs ax bl cx bsm true)).toArray rfl rfl HTH.out (by kernel_rfl) (clist_one _) ?_; rw [← HU1.out]))
        rw [← HU2.out]
        refine leaves_cons (f := 46) (args := #[.pointer (Option.some ⟨g9, 0, none⟩), .pointer (Option.some ⟨g3, 0, none⟩), .pointer (Option.some ⟨g6, 0, none⟩)]) (by simp) (by simp [go_sem]) ?_
        refine (rec1_ok g9 g3 g6 .returning u2 HS2.out.e9).mono ?_
        rintro e v w9 ⟨rfl, rfl, rfl⟩
        refine ⟨_, results_rec Tryd.results22 _ _ g6 _ _ _ _ rfl HS2.out.c6 Tryd.underlying27 rfl (by kernel_rfl) g9 _ _ rfl (eblk_at HS2.out.e9) Tryd.underlying32 rfl, ?_⟩
        rw [HF.out]
        exact ⟨ax, cx, none, 0, rfl, HOX.out, HBX.out, HG2.out, by intro h; first | exact ⟨rfl, rfl⟩ | cases h⟩
      have HND := Lib.hid (show ¬ (baseC c a).done = true by rw [HYB.out]; simp)
      obtain ⟨v, hv⟩ : ∃ v : Nat, a.ver = v := ⟨a.ver.toNat, by omega⟩
      have hv4 : v < 4 := by omega
      have hlen1 : 1 ≤ len ∧ len ≤ 1152 := by have := HLC.out; omega
      have HVV := Lib.hid hv
      have hgo : goS c ss a ls = colL S0 ls bl v len := by
        unfold goS; rw [HS0.out, HTS.out, hv, show a.coded.toNat = len by have := HLC.out; omega]; rfl
      have HGO := Lib.hid hgo
      have hok0 : softOk S0 := (softB_iff S0).1 HQ.out
      have HOK0 := Lib.hid hok0
      clear hv hgo hok0
      have c42 := ablk_at HSTc.out.a4 2 (v := .int .i64 a.ver) rfl
      have c44 := ablk_at HSTc.out.a4 4 (v := .int .i64 a.coded) rfl
      go_wp2_with fail
      refine (pos_is HVV.out HLC.out.symm bl wc hT1.1 hT1.2 hv4 hlen1.1 hlen1.2).mono ?_
      rintro e w8 ⟨gp, rfl, hop, hg8⟩
      have HST8 := Lib.hid (HSTc.out.kept hg8)
      have HOU8 := Lib.hid (HOUc.out.stay hg8)
      have HGU8 := Lib.hid (HGUc.out.trans hg8)
      have HOP8 := Lib.hid hop
      obtain ⟨bx, hax, hbx1, hbx2⟩ := own_some HOUc.out (show 0 < bl by omega)
      subst hax
      have HBX := Lib.hid (And.intro hbx1 hbx2)
      have HS0L := Lib.hid HOUc.out.len
      have h39 := HSTc.out.e9
      have HLT3 := Lib.hid (show g3 < bx ∧ g4 < bx ∧ g6 < bx ∧ g9 < bx by have := HG69.out; have := HORD.out; omega)
      clear hop hg8 c42 c44 cx4 HSTc HOUc HGUc hbx1 hbx2 h39
      go_wp2_with fail
      go_loopw [89] (fun t wr => ∃ k : Nat, k ≤ len ∧ t = .int .i64 k ∧ OwnI (g9 + 1) 3 .i64 wr (Option.some ⟨bx, 0, none⟩) bl cx (colL S0 ls bl v k) ∧ OwnI wc.heap.size 3 .i64 wr (Option.some ⟨gp, 0, none⟩) len len (posL bl v len) ∧ RSt g3 g4 g6 g9 c a (Cl.mk bf bs (Option.some ⟨bx, 0, none⟩) bl cx bsm false) 0 wr ∧ Gr w wr) (fun t _ => len - (intOf t).toNat)
      case atStart => exact ⟨0, by omega, rfl, HOU8.out, HOP8.out, HST8.out, HGU8.out⟩
      case round =>
        clear HOU8 HOP8 HST8 HGU8
        obtain ⟨k, hk, rfl, hou, hop, hst, hgu⟩ := hrel
        have HOU := Lib.hid hou
        have HOP := Lib.hid hop
        have HST := Lib.hid hst
        have HGU := Lib.hid hgu
        clear hou hop hst hgu
        by_cases hlt : k < len
        · have hjl := plc_lt (t := bl) (v := v) (k := k) (by omega)
          have hpk := posL_plc bl v len k hlt
          have hcol : colL S0 ls bl v (k + 1) = (colL S0 ls bl v k).set (plc bl v k) (clipI ((colL S0 ls bl v k)[plc bl v k]?.getD 0 + ls[k]?.getD 0)) := rfl
          have hxr := softOk_at (colL_ok ls bl v HOK0.out k) (plc bl v k)
          have hyr := softOk_at HSL.out k
          obtain ⟨j, hj⟩ : ∃ j, plc bl v k = j := ⟨_, rfl⟩
          rw [hj] at hjl hpk hcol hxr
          obtain ⟨cp, -⟩ := HOP.out.at k hlt
          rw [hpk] at cp
          obtain ⟨cs, fs⟩ := HOU.out.at j hjl
          obtain ⟨x, hx⟩ : ∃ x, (colL S0 ls bl v k)[j]?.getD 0 = x := ⟨_, rfl⟩
          obtain ⟨y, hy⟩ : ∃ y, ls[k]?.getD 0 = y := ⟨_, rfl⟩
          rw [hx] at cs hcol hxr
          rw [hy] at hcol hyr
          obtain ⟨b2, off2, ea, _, hcl⟩ := HS.out.some (by omega)
          subst ea
          have cl := HGU.out.cell (hcl k hlt)
          rw [hy] at cl
          have HCOL := Lib.hid hcol
          have cs4 : ∀ u, Gr wr u → u.cell? ⟨bx, j, none⟩ = Option.some (.int .i64 x) := fun u h => h.cell cs
          have cl4 : ∀ u, Gr wr u → u.cell? ⟨b2, off2 + k, none⟩ = Option.some (.int .i64 y) := fun u h => h.cell cl
          have cx4 : ∀ u, Gr wr u → u.cell? ⟨g6, 2, none⟩ = Option.some (.slice (Option.some ⟨bx, 0, none⟩) bl cx) := fun u h => cblk_at (HST.out.kept h).c6 2 rfl
          clear hj hpk hcol hx hy hcl cs fs cl
          go_upto_region 19 with (fail)
          clear cp
          refine Sched.wp_region_sched 15 [] [] (by kernel_rfl) (by kernel_rfl) ?_
          simp only [List.take_succ_cons, List.take_zero, List.drop_succ_cons, List.drop_zero]
          repeat (first | (refine Sched.walk1_no rfl rfl (fun K hK => ?_); simp only [Act.put, List.setIfInBounds_toArray, List.set_cons_zero, List.set_cons_succ]; refine hK _ ?_; clear hK K) | (refine Sched.walk1_gr rfl rfl rfl (fun K hK => ?_); apply Exists.intro; refine ⟨fun w1 hw1 => ?_, ?_⟩; (focus (go_simp; (try go_ints); (try (simp only [IntWalk.iteOmega]; go_simp)); first | done | ((go_at_call 51; (with_reducible exact gr_same (clip_any _ _)))) | (with_reducible rfl) | (with_reducible exact ⟨rfl, rfl⟩))); simp only [Act.put, List.setIfInBounds_toArray, List.set_cons_zero, List.set_cons_succ]; refine hK _ ?_; clear hK K) | (refine Sched.walk1_pure rfl rfl rfl (fun K hK => ?_); apply Exists.intro; refine ⟨fun w1 => ?_, ?_⟩; (focus (go_simp; (try go_ints); (try (simp only [IntWalk.iteOmega]; go_simp)); first | done | (with_reducible rfl) | (with_reducible exact ⟨rfl, rfl⟩))); simp only [Act.put, List.setIfInBounds_toArray, List.set_cons_zero, List.set_cons_succ]; refine hK _ ?_; clear hK K) | (refine Sched.walk1_box rfl rfl ?_; apply Exists.intro; refine ⟨fun w1 hw1 => ?_, ?_⟩; (focus (go_simp; exact ⟨Gr.alloc _ _, rfl, by simp, heap_alloc_new _ _⟩))))
          refine Sched.walk1_nil ?_
          intro wq hwq
          have hou2 := HOU.out.stay hwq
          obtain ⟨c5, f5⟩ := hou2.at j hjl
          have HOU2 := Lib.hid hou2
          have HW := Lib.hid hwq
          clear hou2 hwq cs4 cl4 cx4
          have hou3 := HOU2.out.set j (clipI (x + y)) (WalkArith.wf_i64 (by have := clipI_rng (x + y); constructor <;> omega))
          rw [← HCOL.out] at hou3
          have hgs3 := grown_setAt wq bx j (.int .i64 (clipI (x + y)))
          have hop3 := (HOP.out.stay HW.out).kept hgs3 (.inr (by simp only [Value.ownBlock]; intro h3; have h4 := (HOP.out.below gp rfl).1; have h5 := HBX.out.2; cases h3; omega))
          have hst3 := (HST.out.kept HW.out).keptBut hgs3 (by have := HLT3.out; omega) (by have := HLT3.out; omega) (by have := HLT3.out; omega) (by have := HLT3.out; omega)
          have hgu3 := grown_set (HGU.out.trans HW.out) (a := ⟨bx, j, none⟩) (by have := HLT3.out; have := HG9.out; show w.heap.size ≤ bx; omega) (Value.int .i64 (clipI (x + y)))
          have HOU3 := Lib.hid hou3
          have HOP3 := Lib.hid hop3
          have HST3 := Lib.hid hst3
          have HGU3 := Lib.hid hgu3
          clear hou3 hgs3 hop3 hst3 hgu3 HOU2 HCOL HOU HOP HST HGU
          dsimp only [Sched.EndN, List.nil_append, List.cons_append, Act.put]
          (try simp only [List.setIfInBounds_toArray, List.set_cons_zero, List.set_cons_succ])
          repeat (first | (refine Sched.walk2_no rfl (fun K hK => ?_); simp only [Act.put, List.setIfInBounds_toArray, List.set_cons_zero, List.set_cons_succ]; refine hK _ ?_; clear hK K) | (refine Sched.walk2_go rfl (fun K hK => ?_); go_simp; (try go_ints); (try (simp only [IntWalk.iteOmega]; go_simp)); first | (refine hK _ _ ?_; clear hK K) | fail))
          refine Sched.walk2_nil ?_
          go_wp2_with fail
          go_roundw
          case rel => exact ⟨k + 1, by omega, by go_num, HOU3.out, HOP3.out, HST3.out, HGU3.out⟩
          case measure => (simp [intOf] <;> omega)
        · obtain rfl : k = len := by omega
          have hgl := HGO.out
          obtain ⟨S, hS⟩ : ∃ S, colL S0 ls bl v k = S := ⟨_, rfl⟩
          have hso : softOk S := by rw [← hS]; exact colL_ok ls bl v HOK0.out k
          have hou := HOU.out
          rw [hS] at hgl hou
          have HGL := Lib.hid hgl
          have HOU2 := Lib.hid hou
          have HSO := Lib.hid hso
          clear hS hso hgl hou HOU HGO HOP
          have cx4 : ∀ u, Gr wr u → u.cell? ⟨g6, 2, none⟩ = Option.some (.slice (Option.some ⟨bx, 0, none⟩) bl cx) := fun u h => cblk_at (HST.out.kept h).c6 2 rfl
          have c43 : ∀ u, Gr wr u → u.cell? ⟨g4, 3, none⟩ = Option.some (.int .i64 (n : Int)) := fun u h => ablk_at (HST.out.kept h).a4 3 (by rw [← HN.out]; rfl)
          obtain ⟨D, hD⟩ : ∃ D, dec (8 * n + 16) S 0 = D := ⟨_, rfl⟩
          have HD := Lib.hid hD
          clear hD
          go_upto_region 21 with (fail)
          refine SchedD.wp_region_schedd 11 [] [5, 6, 7, 9] (SchedD.nsel [(5, NTup (8 * n + 16) D), (6, NTup (8 * n + 16) D), (7, NSl (8 * n + 16) D), (9, NSl (8 * n + 16) D)]) [(6, [(5, 116)]), (7, [(6, 110)]), (8, [(6, 110)]), (9, [(7, 117)])] (by kernel_rfl) (by kernel_rfl) ?_
          simp only [List.take_succ_cons, List.take_zero, List.drop_succ_cons, List.drop_zero]
          repeat (first | ((with_reducible refine SchedD.walk1_no ?_ ?_ ?_ (fun K hK => ?_)); (focus rfl); (focus rfl); (focus rfl); simp only [Act.put, List.setIfInBounds_toArray, List.set_cons_zero, List.set_cons_succ]; refine hK _ ?_; clear hK K) | ((with_reducible refine SchedD.walk1_gr ?_ ?_ ?_ ?_ (fun K hK => ?_)); (focus rfl); (focus rfl); (focus rfl); (focus rfl); apply Exists.intro; refine ⟨fun w1 hw1 => ?_, ?_⟩; (focus (go_simp; (try go_ints); (try (simp only [IntWalk.iteOmega]; go_simp)); first | done | ((go_at_call 49; (with_reducible exact gr_same (length29_any _ (by constructor <;> omega) _)))) | (with_reducible rfl) | (with_reducible exact ⟨rfl, rfl⟩))); simp only [Act.put, List.setIfInBounds_toArray, List.set_cons_zero, List.set_cons_succ]; refine hK _ ?_; clear hK K) | ((with_reducible refine SchedD.walk1_pure ?_ ?_ ?_ ?_ (fun K hK => ?_)); (focus rfl); (focus rfl); (focus rfl); (focus rfl); apply Exists.intro; refine ⟨fun w1 => ?_, ?_⟩; (focus (go_simp; (try go_ints); (try (simp only [IntWalk.iteOmega]; go_simp)); first | done | (with_reducible rfl) | (with_reducible exact ⟨rfl, rfl⟩))); simp only [Act.put, List.setIfInBounds_toArray, List.set_cons_zero, List.set_cons_succ]; refine hK _ ?_; clear hK K))
          refine SchedD.walk1_new0 (NTup (8 * n + 16) D) rfl rfl rfl rfl (NTup.stable _ _) (fun u hu => ?_) ?_
          · go_simp
            go_at_call 52
            refine (dec29 _ n cx bl HT.out S u (HOU2.out.rd.kept hu) HSO.out hn1 (own_cap HOU2.out)).mono ?_
            rw [HD.out]
            rintro e w9 ⟨a9, c9, rfl, hcc, hr9, hgr⟩
            exact ⟨_, rfl, hgr, a9, c9, rfl, hcc, hr9⟩
          refine SchedD.walk1_new1 (NTup (8 * n + 16) D) (NTup (8 * n + 16) D) 5 116 rfl rfl rfl rfl (NTup.stable _ _) (fun u hu lo1 hi1 u1 q1 => ?_) ?_
          · obtain ⟨a8, c8, rfl, hc1, hr1⟩ := q1
            refine ⟨rfl, ?_⟩
            go_simp
            exact ⟨Gr.refl _, a8, c8, rfl, hc1, hr1⟩
          refine SchedD.walk1_new1 (NSl (8 * n + 16) D) (NTup (8 * n + 16) D) 6 110 rfl rfl rfl rfl (NSl.stable _ _) (fun u hu lo1 hi1 u1 q1 => ?_) ?_
          · obtain ⟨a8, c8, rfl, hc1, hr1⟩ := q1
            refine ⟨rfl, ?_⟩
            go_simp
            exact ⟨Gr.refl _, a8, c8, rfl, hc1, hr1⟩
          refine SchedD.walk1_dep1 (.int .i64 0) (NTup (8 * n + 16) D) 6 110 rfl rfl rfl rfl (fun u hu lo1 hi1 u1 q1 => ?_) ?_
          · obtain ⟨a8, c8, rfl, hc1, hr1⟩ := q1
            refine ⟨rfl, ?_⟩
            go_simp
            first | done | exact ⟨rfl, rfl⟩
          refine SchedD.walk1_new1 (NSl (8 * n + 16) D) (NSl (8 * n + 16) D) 7 117 rfl rfl rfl rfl (NSl.stable _ _) (fun u hu lo1 hi1 u1 q1 => ?_) ?_
          · obtain ⟨a8, c8, rfl, hc1, hr1⟩ := q1
            refine ⟨rfl, ?_⟩
            go_simp
            exact ⟨Gr.refl _, a8, c8, rfl, hc1, hr1⟩
          repeat (first | ((with_reducible refine SchedD.walk1_no ?_ ?_ ?_ (fun K hK => ?_)); (focus rfl); (focus rfl); (focus rfl); simp only [Act.put, List.setIfInBounds_toArray, List.set_cons_zero, List.set_cons_succ]; refine hK _ ?_; clear hK K) | ((with_reducible refine SchedD.walk1_gr ?_ ?_ ?_ ?_ (fun K hK => ?_)); (focus rfl); (focus rfl); (focus rfl); (focus rfl); apply Exists.intro; refine ⟨fun w1 hw1 => ?_, ?_⟩; (focus (go_simp; (try go_ints); (try (simp only [IntWalk.iteOmega]; go_simp)); first | done | fail | (with_reducible rfl) | (with_reducible exact ⟨rfl, rfl⟩))); simp only [Act.put, List.setIfInBounds_toArray, List.set_cons_zero, List.set_cons_succ]; refine hK _ ?_; clear hK K) | ((with_reducible refine SchedD.walk1_pure ?_ ?_ ?_ ?_ (fun K hK => ?_)); (focus rfl); (focus rfl); (focus rfl); (focus rfl); apply Exists.intro; refine ⟨fun w1 => ?_, ?_⟩; (focus (go_simp; (try go_ints); (try (simp only [IntWalk.iteOmega]; go_simp)); first | done | (with_reducible rfl) | (with_reducible exact ⟨rfl, rfl⟩))); simp only [Act.put, List.setIfInBounds_toArray, List.set_cons_zero, List.set_cons_succ]; refine hK _ ?_; clear hK K))
          (with_reducible refine SchedD.walk1_nil ?_)
          intro wq hwq
          dsimp only [Sched.EndN, List.nil_append, List.cons_append, Act.put]
          rintro - - v1 ⟨a1, c1, rfl, -, -⟩ - - - - - - v2 ⟨a2, c2, rfl, -, -⟩ - - - - - - v3 ⟨a3, c3, rfl, -, -⟩ - - - - - - v4 ⟨a4, c4, rfl, hc4, hr4⟩ - - - -
          (try simp only [List.setIfInBounds_toArray, List.set_cons_zero, List.set_cons_succ])
          refine Sched.walk2_nil ?_
          have c43q := c43 wq hwq
          have HSTq := Lib.hid (HST.out.kept hwq)
          have HGUq := Lib.hid (HGU.out.trans hwq)
          have HOUq := Lib.hid (HOU2.out.stay hwq)
          have HR4 := Lib.hid hr4
          have hc4' : 8 * (n : Int) ≤ (c4 : Int) := by omega
          clear hr4 hwq c43 cx4 HST HGU HOU2
          go_wp2_with fail
          have hsq := heap_lt HSTq.out.e9
          have HSQ := Lib.hid hsq
          obtain ⟨Bk, hBk⟩ : ∃ Bk, decB S n = Bk := ⟨_, rfl⟩
          have hpk : packL (D.take (8 * n)) n = Bk := by rw [← hBk, ← HD.out]; rfl
          have hdb : isBits D := by rw [← HD.out]; exact dec_bits _ _ _
          have HBk := Lib.hid hBk
          have HDB := Lib.hid hdb
          have HPK := Lib.hid hpk
          clear hsq hBk hpk hdb
          refine (pack_any a4 n c4 (D.take (8 * n)) wq (rd_take29 HR4.out (by omega)) (isBits_take HDB.out _) (by omega) (by omega)).mono ?_
          rintro e w10 ⟨a10, rfl, ho10, hg10⟩
          rw [HPK.out] at ho10
          go_wp2_with fail
          refine (hword_any a10 n n Bk w10 (HL.out.kept (HGUq.out.trans hg10)) ho10.rd (by omega)).mono ?_
          rintro e w11 ⟨a11, c11, rfl, ho11, hg11⟩
          obtain ⟨V, hV⟩ : ∃ V, decide (wordL Bk = D) = V := ⟨_, rfl⟩
          have HV2 := Lib.hid (show decOk S n = V by unfold decOk; rw [HBk.out, HD.out]; exact hV)
          have HV3 := Lib.hid hV
          clear hV
          go_wp2_with fail
          refine (equal_ints a11 a4 (8 * n + 16) c11 (8 * n + 16) c4 (wordL Bk) D w11 ho11.rd (HR4.out.kept (hg10.trans hg11))).mono ?_
          rw [HV3.out]
          rintro e w12 ⟨rfl, hg12⟩
          have hgq := (hg10.trans hg11).trans hg12
          have HST12 := Lib.hid (HSTq.out.kept hgq)
          have HGU12 := Lib.hid (HGUq.out.trans hgq)
          have HOU12 := Lib.hid (HOUq.out.stay hgq)
          have HB12 := Lib.hid ((ho10.weak29 (B' := g9 + 1) HSQ.out).stay (hg11.trans hg12))
          clear hgq hg12 ho11 hg11 ho10 hg10 HSTq HGUq HOUq c43q hc4'
          cases V
          · have HF := Lib.hid (show recF c ss a ls = ⟨0, Cl.mk bf bs ba bl bc bsm false, S, false, []⟩ by unfold recF; rw [if_neg HNV.out, if_neg HNC.out, if_neg HNB.out, if_neg HND.out, if_neg (by rw [HGL.out, HN.out]; show ¬ decOk S n = true; rw [HV2.out]; simp), HYB.out, HGL.out])
            obtain ⟨u1, hu1⟩ : ∃ y, y = (w12).setCells g6 0 (CList (Cl.mk bf bs (Option.some ⟨bx, 0, none⟩) bl cx bsm false)) := ⟨_, rfl⟩
            have hs1 := (HST12).out.put6 (u' := u1) (by rw [hu1]; exact grown_setCells _ _ _ _) (Y := (Cl.mk bf bs (Option.some ⟨bx, 0, none⟩) bl cx bsm false)) (by rw [hu1]; exact cblk_put (HST12).out.c6 (Cl.mk bf bs (Option.some ⟨bx, 0, none⟩) bl cx bsm false))
            have hg1 : Gr w u1 := by rw [hu1]; exact grown_setCells_new (HGU12).out HG6.out _ _
            have c9 := eblk_at hs1.e9
            have f9 := frozen_of_block hs1.e9 0
            obtain ⟨u2, hu2⟩ : ∃ y, y = u1.setCell ⟨g9, 0, none⟩ (.int .i64 0) := ⟨_, rfl⟩
            have hgs2 : u1.grownBy u2 (Option.some g9) := by rw [hu2]; exact grown_setAt _ _ _ _
            have hs2 := hs1.put9 (u' := u2) (Y := 0) hgs2 (by rw [hu2]; exact eblk_put hs1.e9 _)
            have hg2 : Gr w u2 := by rw [hu2]; exact grown_set hg1 (a := ⟨g9, 0, none⟩) HG9.out _
            have hkp : ∀ {a : Option Addr} {n cap : Nat} {e : TypeId} {kk : IntKind} {xs : List Int}, OwnI (g9 + 1) e kk (w12) a n cap xs → OwnI w.heap.size e kk u2 a n cap xs := by
              intro a n cap e kk xs h
              have h2 := own_cells h HG69.out (CList (Cl.mk bf bs (Option.some ⟨bx, 0, none⟩) bl cx bsm false))
              rw [← hu1] at h2
              refine (h2.kept hgs2 ?_).weak29 (Nat.le_trans HG9.out (Nat.le_succ _))
              cases hv : (Value.slice a n cap).ownBlock with
              | none => exact .inl rfl
              | some b => exact .inr (by intro h3; have := (h2.below b hv).1; cases h3; omega)
            have HTH := Lib.hid (cblk_there (HST12).out.c6)
            have HU1 := Lib.hid hu1
            have HU2 := Lib.hid hu2
            have HS2 := Lib.hid hs2
            have HG2 := Lib.hid hg2
            have HOX := Lib.hid (hkp (HOU12).out)
            have HBX := Lib.hid (hkp (OwnI.nil (g9 + 1) 5 .u8 w12))
            have h6u := (HST12).out.c6
            unfold CBlk CCells at h6u
            have H6U := Lib.hid h6u
            clear hu1 hu2 hs1 hs2 hg1 hg2 h6u hgs2 hkp
            go_wp2_with (first | (refine wpList_load_w rfl 27 _ rfl g6 rfl 27 _ _ _ H6U.out Tryd.underlying27 rfl (by kernel_rfl) ?_) | (refine wpList_store_mid rfl 27 _ _ rfl g6 0 (CList (Cl.mk bf bs (Option.some ⟨bx, 0, none⟩) bl cx bsm false)).toArray rfl rfl HTH.out (by kernel_rfl) (clist_one _) ?_; rw [← HU1.out]))
            rw [← HU2.out]
            refine leaves_cons (f := 46) (args := #[.pointer (Option.some ⟨g9, 0, none⟩), .pointer (Option.some ⟨g3, 0, none⟩), .pointer (Option.some ⟨g6, 0, none⟩)]) (by simp) (by simp [go_sem]) ?_
            refine (rec1_ok g9 g3 g6 .returning u2 HS2.out.e9).mono ?_
            rintro e v w9 ⟨rfl, rfl, rfl⟩
            refine ⟨_, results_rec Tryd.results22 _ _ g6 _ _ _ _ rfl HS2.out.c6 Tryd.underlying27 rfl (by kernel_rfl) g9 _ _ rfl (eblk_at HS2.out.e9) Tryd.underlying32 rfl, ?_⟩
            rw [HF.out]
            exact ⟨(Option.some ⟨bx, 0, none⟩), cx, none, 0, rfl, HOX.out, HBX.out, HG2.out, by intro h; first | exact ⟨rfl, rfl⟩ | cases h⟩
          · have HF := Lib.hid (show recF c ss a ls = ⟨0, Cl.mk bf bs ba bl bc bsm true, S, true, Bk⟩ by unfold recF; rw [if_neg HNV.out, if_neg HNC.out, if_neg HNB.out, if_neg HND.out, if_pos (by rw [HGL.out, HN.out]; show decOk S n = true; exact HV2.out), HYB.out, HGL.out, HN.out, ← HBk.out]; rfl)
            have hBL := HB12.out.len
            have d0 := cblk_at HST12.out.c6 4 (v := .bool false) rfl
            have d1 := frozen_of_block HST12.out.c6 4
            go_upto_region 26 with (fail)
            obtain ⟨w13, hw13⟩ : ∃ y, y = w12.setCell ⟨g6, 4, none⟩ (.bool true) := ⟨_, rfl⟩
            rw [← hw13]
            have hgs13 : w12.grownBy w13 (Option.some g6) := by rw [hw13]; exact grown_setAt _ _ _ _
            have hst13 := HST12.out.put6 hgs13 (Y := Cl.mk bf bs (Option.some ⟨bx, 0, none⟩) bl cx bsm true) (by rw [hw13]; exact heap_setCell_eq HST12.out.c6 4 (.bool true))
            have hkk : ∀ {a : Option Addr} {n cap : Nat} {e : TypeId} {kk : IntKind} {xs : List Int}, OwnI (g9 + 1) e kk w12 a n cap xs → OwnI (g9 + 1) e kk w13 a n cap xs := by
              intro a n cap e kk xs h
              refine h.kept hgs13 ?_
              cases hv : (Value.slice a n cap).ownBlock with
              | none => exact .inl rfl
              | some b => exact .inr (by intro h3; have := (h.below b hv).1; have := HG69.out; cases h3; omega)
            have HGU13 := Lib.hid (show Gr w w13 by rw [hw13]; exact grown_set HGU12.out (a := ⟨g6, 4, none⟩) HG6.out _)
            have HST13 := Lib.hid hst13
            have HOU13 := Lib.hid (hkk HOU12.out)
            have hb13 := hkk HB12.out
            clear hw13 hgs13 hst13 hkk d0 d1 HST12 HOU12 HGU12 HB12
            subst hBL
            have HB13 := Lib.hid hb13
            clear hb13
            obtain ⟨u1, hu1⟩ : ∃ y, y = (w13).setCells g6 0 (CList (Cl.mk bf bs (Option.some ⟨bx, 0, none⟩) bl cx bsm true)) := ⟨_, rfl⟩
            have hs1 := (HST13).out.put6 (u' := u1) (by rw [hu1]; exact grown_setCells _ _ _ _) (Y := (Cl.mk bf bs (Option.some ⟨bx, 0, none⟩) bl cx bsm true)) (by rw [hu1]; exact cblk_put (HST13).out.c6 (Cl.mk bf bs (Option.some ⟨bx, 0, none⟩) bl cx bsm true))
            have hg1 : Gr w u1 := by rw [hu1]; exact grown_setCells_new (HGU13).out HG6.out _ _
            have c9 := eblk_at hs1.e9
            have f9 := frozen_of_block hs1.e9 0
            obtain ⟨u2, hu2⟩ : ∃ y, y = u1.setCell ⟨g9, 0, none⟩ (.int .i64 0) := ⟨_, rfl⟩
            have hgs2 : u1.grownBy u2 (Option.some g9) := by rw [hu2]; exact grown_setAt _ _ _ _
            have hs2 := hs1.put9 (u' := u2) (Y := 0) hgs2 (by rw [hu2]; exact eblk_put hs1.e9 _)
            have hg2 : Gr w u2 := by rw [hu2]; exact grown_set hg1 (a := ⟨g9, 0, none⟩) HG9.out _
            have hkp : ∀ {a : Option Addr} {n cap : Nat} {e : TypeId} {kk : IntKind} {xs : List Int}, OwnI (g9 + 1) e kk (w13) a n cap xs → OwnI w.heap.size e kk u2 a n cap xs := by
              intro a n cap e kk xs h
              have h2 := own_cells h HG69.out (CList (Cl.mk bf bs (Option.some ⟨bx, 0, none⟩) bl cx bsm true))
              rw [← hu1] at h2
              refine (h2.kept hgs2 ?_).weak29 (Nat.le_trans HG9.out (Nat.le_succ _))
              cases hv : (Value.slice a n cap).ownBlock with
              | none => exact .inl rfl
              | some b => exact .inr (by intro h3; have := (h2.below b hv).1; cases h3; omega)
            have HTH := Lib.hid (cblk_there (HST13).out.c6)
            have HU1 := Lib.hid hu1
            have HU2 := Lib.hid hu2
            have HS2 := Lib.hid hs2
            have HG2 := Lib.hid hg2
            have HOX := Lib.hid (hkp (HOU13).out)
            have HBX := Lib.hid (hkp HB13.out)
            have h6u := (HST13).out.c6
            unfold CBlk CCells at h6u
            have H6U := Lib.hid h6u
            clear hu1 hu2 hs1 hs2 hg1 hg2 h6u hgs2 hkp
            go_wp2_with (first | (refine wpList_load_w rfl 27 _ rfl g6 rfl 27 _ _ _ H6U.out Tryd.underlying27 rfl (by kernel_rfl) ?_) | (refine wpList_store_mid rfl 27 _ _ rfl g6 0 (CList (Cl.mk bf bs (Option.some ⟨bx, 0, none⟩) bl cx bsm true)).toArray rfl rfl HTH.out (by kernel_rfl) (clist_one _) ?_; rw [← HU1.out]))
            rw [← HU2.out]
            refine leaves_cons (f := 46) (args := #[.pointer (Option.some ⟨g9, 0, none⟩), .pointer (Option.some ⟨g3, 0, none⟩), .pointer (Option.some ⟨g6, 0, none⟩)]) (by simp) (by simp [go_sem]) ?_
            refine (rec1_ok g9 g3 g6 .returning u2 HS2.out.e9).mono ?_
            rintro e v w9 ⟨rfl, rfl, rfl⟩
            refine ⟨_, results_rec Tryd.results22 _ _ g6 _ _ _ _ rfl HS2.out.c6 Tryd.underlying27 rfl (by kernel_rfl) g9 _ _ rfl (eblk_at HS2.out.e9) Tryd.underlying32 rfl, ?_⟩
            rw [HF.out]
            exact ⟨(Option.some ⟨bx, 0, none⟩), cx, a10, Bk.length, rfl, HOX.out, HBX.out, HG2.out, by intro h; first | exact ⟨rfl, rfl⟩ | cases h⟩
theorem receive_any (c : Cl) (ss : List Int) (a : An) (l : Option Addr) (len cap : Nat) (ls : List Int) (w : World) (hl : LaidIn w) (hr : Rd .i64 w c.a c.len ss) (hm : c.len ≤ 17592186044000) (hs : Rd .i64 w l len ls) :
    Calls Tryd.prog 22 #[CVal c, AVal a, .slice l len cap] w (RecPost (recF c ss a ls) w) :=
  (receive_all c ss a l len cap ls w hl hr hm hs).mono fun _ _ ⟨a', c', ab, cb, h1, h2, h3, h4, _⟩ => ⟨a', c', ab, cb, h1, h2, h3, h4⟩
end Go.Proofs.YtcleegibdcphiaaDoor
