/- Layers 05, 06: headers as values; when they are valid (the reference). -/
import Derived.Test.YtlnkofpcidngoaaDoorA0
import Derived.Test.YtlnkofpcidngoaaDoorA1
namespace Go.Proofs.YtlnkofpcidngoaaDoor
open Go.ChangeShapes Go.WideShapes Go.ChangeAt Go.RowKit
structure Hdr where
 kind : Int
 tos : Int
 id : Int
 fixed : Int
 ttl : Int
 frm : Int
 to : Int
 fport : Int
 tport : Int
 check : Int
 marker : Int
 type : Int
 seq : Int
 time : Int
 source : Int
abbrev HVal (h : Hdr) : Value := .agg #[.int .i64 h.kind, .int .i64 h.tos, .int .i64 h.id, .int .i64 h.fixed, .int .i64 h.ttl, .int .i64 h.frm, .int .i64 h.to, .int .i64 h.fport, .int .i64 h.tport, .int .i64 h.check, .int .i64 h.marker, .int .i64 h.type, .int .i64 h.seq, .int .i64 h.time, .int .i64 h.source]
def statH (h : Hdr) : Hdr := ⟨h.kind, 0, 0, 0, 0, h.frm, h.to, h.fport, h.tport, 0, 0, 0, 0, 0, h.source⟩
def inB (n m : Int) : Bool := decide (0 ≤ n) && decide (n ≤ m)
set_option maxRecDepth 20000 in
set_option maxHeartbeats 2000000 in
theorem in_any (n m : Int) (w : World) : Calls Tryd.prog 85 #[.int .i64 n, .int .i64 m] w fun e w' => e = .returned (.bool (inB n m)) ∧ w = w' := by
 by_cases h : 0 ≤ n
 ·have h0 : inB n m = decide (n ≤ m) := by unfold inB; rw [decide_eq_true h]; rfl
  rw [h0]
  go_enter Tryd.func85, Tryd.ntmps85
  go_wp2
  all_goals (go_ret; exact ⟨ret_bool (by simp_all), rfl⟩)
 ·have h0 : inB n m = false := by unfold inB; rw [decide_eq_false h]; rfl
  rw [h0]
  go_enter Tryd.func85, Tryd.ntmps85
  go_wp2
  all_goals (go_ret; exact ⟨ret_bool (by simp_all), rfl⟩)
theorem heap_two (w : World) (a b : Obj) : ((w.alloc a).alloc b).heap[w.heap.size + 1]? = some b := by
 have h := heap_alloc_new (w.alloc a) b
 simpa using h
set_option maxRecDepth 20000 in
set_option maxHeartbeats 2000000 in
theorem stat_any (h : Hdr) (w : World) : Calls Tryd.prog 97 #[HVal h] w fun e w' => e = .returned (HVal (statH h)) ∧ Gr w w' := by
 go_enter Tryd.func97, Tryd.ntmps97
 go_wp2
 exact bodyPost_ret (v := HVal (statH h)) (results_cell_row Tryd.results97 _ _ (w.heap.size + 1) _ _ _ _ rfl (heap_two w _ _) Tryd.underlying49 rfl (by kernel_rfl)) rfl ⟨rfl, (Gr.alloc _ _).trans (Gr.alloc _ _)⟩
set_option maxRecDepth 20000 in
set_option maxHeartbeats 2000000 in
theorem rstat_any (h : Hdr) (w : World) : Calls Tryd.prog 77 #[HVal h] w fun e w' => e = .returned (HVal (statH h)) ∧ Gr w w' := by
 go_enter Tryd.func77, Tryd.ntmps77
 go_wp2
 exact bodyPost_ret (v := HVal (statH h)) (results_cell_row Tryd.results77 _ _ (w.heap.size + 1) _ _ _ _ rfl (heap_two w _ _) Tryd.underlying49 rfl (by kernel_rfl)) rfl ⟨rfl, (Gr.alloc _ _).trans (Gr.alloc _ _)⟩
def kindB (h : Hdr) : Bool := h.kind == 1 || h.kind == 2
def commonB (h : Hdr) : Bool := inB h.tos 255 && inB h.ttl 255 && inB h.id 65535 && inB h.fport 65535 && inB h.tport 65535 && inB h.check 65535 && inB h.fixed 1 && inB h.frm 4294967295 && inB h.to 4294967295
def restB (h : Hdr) : Bool := if h.kind == 1 then h.marker == 0 && h.type == 0 && h.seq == 0 && h.time == 0 && h.source == 0 else inB h.marker 1 && inB h.type 127 && inB h.seq 65535 && inB h.time 4294967295 && inB h.source 4294967295
def validH (h : Hdr) : Bool := kindB h && (commonB h && restB h)
def sameB (a b : Hdr) : Bool := decide (a.kind = b.kind) && (decide (a.frm = b.frm) && (decide (a.to = b.to) && (decide (a.fport = b.fport) && (decide (a.tport = b.tport) && decide (a.source = b.source)))))
theorem Sched.gq_load_row {P : Program} {o : Oper} {a : Act} {w : World} {late : Bool} (ty : TypeId) (x : Operand) (ho : o.op = .load ty x)
  (g : Nat) (hx : a.eval x = .pointer (some ⟨g, 0, none⟩)) (t : TypeId) (cs : Array Value) (fr : Nat × Nat) (d : TypeDesc) (hg : w.heap[g]? = some (.cells cs t fr))
  (hu : P.underlying ty = some d) (hd : (match d with | .struct _ | .array _ _ => true | _ => false) = true) (hi : (P.info? ty).map (·.size) = some cs.size) : Sched.gq P o a w (.agg cs) late := by
 unfold Sched.gq execOp
 simp only [ho, hx, Instr.loadAt, Instr.sureAddr, Sem.run_bind, Sem.run_pure, Result.andThen_ok, run_loadVar_row w g t ty cs fr d hg hu hd hi]
 exact ⟨trivial, trivial⟩
def HBlk (g : Nat) (h : Hdr) (w : World) : Prop := w.heap[g]? = some (.cells #[.int .i64 h.kind, .int .i64 h.tos, .int .i64 h.id, .int .i64 h.fixed, .int .i64 h.ttl, .int .i64 h.frm, .int .i64 h.to, .int .i64 h.fport, .int .i64 h.tport, .int .i64 h.check, .int .i64 h.marker, .int .i64 h.type, .int .i64 h.seq, .int .i64 h.time, .int .i64 h.source] 49 (0, 0))
theorem HBlk.kept {g : Nat} {h : Hdr} {w w' : World} (hb : HBlk g h w) (hg : Gr w w') : HBlk g h w' := by
 unfold HBlk; rw [hg.block _ (heap_lt hb) (by simp)]; exact hb
theorem HBlk.load {g : Nat} {h : Hdr} {w : World} (hb : HBlk g h w) {o : Oper} {a : Act} {late : Bool} (x : Operand) (ho : o.op = .load 49 x) (hx : a.eval x = .pointer (some ⟨g, 0, none⟩)) : Sched.gq Tryd.prog o a w (HVal h) late :=
 Sched.gq_load_row 49 x ho g hx _ _ _ _ hb Tryd.underlying49 rfl (by kernel_rfl)
def eqH (x y : Hdr) : Bool := decide (x.kind = y.kind) && (decide (x.tos = y.tos) && (decide (x.id = y.id) && (decide (x.fixed = y.fixed) && (decide (x.ttl = y.ttl) && (decide (x.frm = y.frm) && (decide (x.to = y.to) && (decide (x.fport = y.fport) && (decide (x.tport = y.tport) && (decide (x.check = y.check) && (decide (x.marker = y.marker) && (decide (x.type = y.type) && (decide (x.seq = y.seq) && (decide (x.time = y.time) && decide (x.source = y.source))))))))))))))
theorem run_eqH (x y : Hdr) (w : World) : (binOp .eql 49 (HVal x) (HVal y)).run Tryd.prog w = .ok (.bool (eqH x y)) w := by
 go_simp
 unfold eqH
 by_cases h_kind : x.kind = y.kind
 rotate_left
 ·rw [if_neg h_kind, decide_eq_false h_kind]; rfl
 rw [if_pos h_kind, decide_eq_true h_kind, Bool.true_and]
 by_cases h_tos : x.tos = y.tos
 rotate_left
 ·rw [if_neg h_tos, decide_eq_false h_tos]; rfl
 rw [if_pos h_tos, decide_eq_true h_tos, Bool.true_and]
 by_cases h_id : x.id = y.id
 rotate_left
 ·rw [if_neg h_id, decide_eq_false h_id]; rfl
 rw [if_pos h_id, decide_eq_true h_id, Bool.true_and]
 by_cases h_fixed : x.fixed = y.fixed
 rotate_left
 ·rw [if_neg h_fixed, decide_eq_false h_fixed]; rfl
 rw [if_pos h_fixed, decide_eq_true h_fixed, Bool.true_and]
 by_cases h_ttl : x.ttl = y.ttl
 rotate_left
 ·rw [if_neg h_ttl, decide_eq_false h_ttl]; rfl
 rw [if_pos h_ttl, decide_eq_true h_ttl, Bool.true_and]
 by_cases h_frm : x.frm = y.frm
 rotate_left
 ·rw [if_neg h_frm, decide_eq_false h_frm]; rfl
 rw [if_pos h_frm, decide_eq_true h_frm, Bool.true_and]
 by_cases h_to : x.to = y.to
 rotate_left
 ·rw [if_neg h_to, decide_eq_false h_to]; rfl
 rw [if_pos h_to, decide_eq_true h_to, Bool.true_and]
 by_cases h_fport : x.fport = y.fport
 rotate_left
 ·rw [if_neg h_fport, decide_eq_false h_fport]; rfl
 rw [if_pos h_fport, decide_eq_true h_fport, Bool.true_and]
 by_cases h_tport : x.tport = y.tport
 rotate_left
 ·rw [if_neg h_tport, decide_eq_false h_tport]; rfl
 rw [if_pos h_tport, decide_eq_true h_tport, Bool.true_and]
 by_cases h_check : x.check = y.check
 rotate_left
 ·rw [if_neg h_check, decide_eq_false h_check]; rfl
 rw [if_pos h_check, decide_eq_true h_check, Bool.true_and]
 by_cases h_marker : x.marker = y.marker
 rotate_left
 ·rw [if_neg h_marker, decide_eq_false h_marker]; rfl
 rw [if_pos h_marker, decide_eq_true h_marker, Bool.true_and]
 by_cases h_type : x.type = y.type
 rotate_left
 ·rw [if_neg h_type, decide_eq_false h_type]; rfl
 rw [if_pos h_type, decide_eq_true h_type, Bool.true_and]
 by_cases h_seq : x.seq = y.seq
 rotate_left
 ·rw [if_neg h_seq, decide_eq_false h_seq]; rfl
 rw [if_pos h_seq, decide_eq_true h_seq, Bool.true_and]
 by_cases h_time : x.time = y.time
 rotate_left
 ·rw [if_neg h_time, decide_eq_false h_time]; rfl
 rw [if_pos h_time, decide_eq_true h_time, Bool.true_and]
 by_cases h_source : x.source = y.source
 rotate_left
 ·rw [if_neg h_source, decide_eq_false h_source]
 rw [if_pos h_source, decide_eq_true h_source]
theorem stat_eq (a b : Hdr) : eqH (statH a) (statH b) = sameB a b := by
 rw [Bool.eq_iff_iff]
 simp [eqH, sameB, statH]
 constructor
 ·intro ⟨h1, h2, h3, h4, h5, h6⟩
  exact ⟨of_decide_eq_true h1, of_decide_eq_true h2, of_decide_eq_true h3, of_decide_eq_true h4, of_decide_eq_true h5, of_decide_eq_true h6⟩
 ·intro ⟨h1, h2, h3, h4, h5, h6⟩
  exact ⟨decide_eq_true h1, decide_eq_true h2, decide_eq_true h3, decide_eq_true h4, decide_eq_true h5, decide_eq_true h6⟩
set_option maxRecDepth 20000 in
set_option maxHeartbeats 2000000 in
theorem same_any (a b : Hdr) (w : World) : Calls Tryd.prog 71 #[HVal a, HVal b] w fun e w' => e = .returned (.bool (sameB a b)) ∧ Gr w w' := by
 go_enter Tryd.func71, Tryd.ntmps71
 go_wp2_with fail
 obtain ⟨w2, hw2⟩ : ∃ y, y = (w.alloc (.cells #[.int .i64 a.kind, .int .i64 a.tos, .int .i64 a.id, .int .i64 a.fixed, .int .i64 a.ttl, .int .i64 a.frm, .int .i64 a.to, .int .i64 a.fport, .int .i64 a.tport, .int .i64 a.check, .int .i64 a.marker, .int .i64 a.type, .int .i64 a.seq, .int .i64 a.time, .int .i64 a.source] 49)).alloc (.cells #[.int .i64 b.kind, .int .i64 b.tos, .int .i64 b.id, .int .i64 b.fixed, .int .i64 b.ttl, .int .i64 b.frm, .int .i64 b.to, .int .i64 b.fport, .int .i64 b.tport, .int .i64 b.check, .int .i64 b.marker, .int .i64 b.type, .int .i64 b.seq, .int .i64 b.time, .int .i64 b.source] 49) := ⟨_, rfl⟩
 have hba : HBlk w.heap.size a w2 := by rw [hw2]; exact heap_alloc2_old _ _ _
 have hbb : HBlk (w.heap.size + 1) b w2 := by rw [hw2]; exact heap_alloc2_new _ _ _
 have hg2 : Gr w w2 := by rw [hw2]; exact (Gr.alloc _ _).trans (Gr.alloc _ _)
 rw [← hw2]
 clear hw2
 have HG2 := zqd hg2
 have HA := zqd (fun u (hu : Gr w2 u) => hba.kept hu)
 have HB := zqd (fun u (hu : Gr w2 u) => hbb.kept hu)
 clear hba hbb hg2
 refine Sched.wp_region_sched 5 [] [] (by kernel_rfl) (by kernel_rfl) ?_
 simp only [List.take_succ_cons, List.take_zero, List.drop_succ_cons, List.drop_zero]
 refine Sched.walk1_gr rfl rfl rfl (fun K hK => ?_)
 refine ⟨HVal a, fun w1 hw1 => (HA.out w1 hw1).load _ rfl rfl, ?_⟩
 simp only [Act.put, zqa, zqb, zqc]
 refine hK _ ?_
 clear hK K
 repeat (first | ((first | (refine Sched.walk1_no rfl rfl (fun K hK => ?_)) | (refine Sched.walk1_gr rfl rfl rfl (fun K hK => ?_); apply Exists.intro; refine ⟨fun w1 hw1 => ?_, ?_⟩; (focus (go_simp; (try go_ints); (try (simp only [IntWalk.iteOmega]; go_simp)); first | done | (go_at_call 97; (with_reducible exact stat_any _ _)) | (with_reducible rfl) | (with_reducible exact ⟨rfl, rfl⟩))))); simp only [Act.put, zqa, zqb, zqc]; refine hK _ ?_; clear hK K))
 refine Sched.walk1_gr rfl rfl rfl (fun K hK => ?_)
 refine ⟨HVal b, fun w1 hw1 => (HB.out w1 hw1).load _ rfl rfl, ?_⟩
 simp only [Act.put, zqa, zqb, zqc]
 refine hK _ ?_
 clear hK K
 repeat (first | ((first | (refine Sched.walk1_no rfl rfl (fun K hK => ?_)) | (refine Sched.walk1_gr rfl rfl rfl (fun K hK => ?_); apply Exists.intro; refine ⟨fun w1 hw1 => ?_, ?_⟩; (focus (go_simp; (try go_ints); (try (simp only [IntWalk.iteOmega]; go_simp)); first | done | (go_at_call 97; (with_reducible exact stat_any _ _)) | (with_reducible rfl) | (with_reducible exact ⟨rfl, rfl⟩))))); simp only [Act.put, zqa, zqb, zqc]; refine hK _ ?_; clear hK K))
 have he := fun u => run_eqH (statH a) (statH b) u
 obtain ⟨E, hE⟩ : ∃ E, eqH (statH a) (statH b) = E := ⟨_, rfl⟩
 rw [hE] at he
 have hsb : E = sameB a b := by
  rw [← hE]
  exact stat_eq a b
 have HSB := zqd hsb
 clear hE hsb
 repeat (first | ((first | (refine Sched.walk1_no rfl rfl (fun K hK => ?_)) | (refine Sched.walk1_gr rfl rfl rfl (fun K hK => ?_); apply Exists.intro; refine ⟨fun w1 hw1 => ?_, ?_⟩; (focus (go_simp; (try go_ints); (try (simp only [IntWalk.iteOmega]; go_simp)); first | done | (with_reducible rfl) | (with_reducible exact ⟨rfl, rfl⟩))))); simp only [Act.put, zqa, zqb, zqc]; refine hK _ ?_; clear hK K))
 refine Sched.walk1_nil ?_
 intro wq hwq
 dsimp only [Sched.EndN, List.nil_append, List.cons_append, Act.put]
 (try simp only [zqa, zqb, zqc])
 repeat (first | (refine Sched.walk2_no rfl (fun K hK => ?_); simp only [Act.put, zqa, zqb, zqc]; refine hK _ ?_; clear hK K) | (refine Sched.walk2_go rfl (fun K hK => ?_); go_simp; (try go_ints); (try (simp only [IntWalk.iteOmega]; go_simp)); (refine hK _ _ ?_; clear hK K)))
 refine Sched.walk2_nil ?_
 go_wp2_with fail
 go_ret
 exact ⟨ret_bool HSB.out, HG2.out.trans hwq⟩
set_option maxRecDepth 20000 in
set_option maxHeartbeats 2000000 in
theorem rsame_any (a b : Hdr) (w : World) : Calls Tryd.prog 50 #[HVal a, HVal b] w fun e w' => e = .returned (.bool (sameB a b)) ∧ Gr w w' := by
 go_enter Tryd.func50, Tryd.ntmps50
 go_wp2_with fail
 obtain ⟨w2, hw2⟩ : ∃ y, y = (w.alloc (.cells #[.int .i64 a.kind, .int .i64 a.tos, .int .i64 a.id, .int .i64 a.fixed, .int .i64 a.ttl, .int .i64 a.frm, .int .i64 a.to, .int .i64 a.fport, .int .i64 a.tport, .int .i64 a.check, .int .i64 a.marker, .int .i64 a.type, .int .i64 a.seq, .int .i64 a.time, .int .i64 a.source] 49)).alloc (.cells #[.int .i64 b.kind, .int .i64 b.tos, .int .i64 b.id, .int .i64 b.fixed, .int .i64 b.ttl, .int .i64 b.frm, .int .i64 b.to, .int .i64 b.fport, .int .i64 b.tport, .int .i64 b.check, .int .i64 b.marker, .int .i64 b.type, .int .i64 b.seq, .int .i64 b.time, .int .i64 b.source] 49) := ⟨_, rfl⟩
 have hba : HBlk w.heap.size a w2 := by rw [hw2]; exact heap_alloc2_old _ _ _
 have hbb : HBlk (w.heap.size + 1) b w2 := by rw [hw2]; exact heap_alloc2_new _ _ _
 have hg2 : Gr w w2 := by rw [hw2]; exact (Gr.alloc _ _).trans (Gr.alloc _ _)
 rw [← hw2]
 clear hw2
 have HG2 := zqd hg2
 have HA := zqd (fun u (hu : Gr w2 u) => hba.kept hu)
 have HB := zqd (fun u (hu : Gr w2 u) => hbb.kept hu)
 clear hba hbb hg2
 refine Sched.wp_region_sched 5 [] [] (by kernel_rfl) (by kernel_rfl) ?_
 simp only [List.take_succ_cons, List.take_zero, List.drop_succ_cons, List.drop_zero]
 refine Sched.walk1_gr rfl rfl rfl (fun K hK => ?_)
 refine ⟨HVal a, fun w1 hw1 => (HA.out w1 hw1).load _ rfl rfl, ?_⟩
 simp only [Act.put, zqa, zqb, zqc]
 refine hK _ ?_
 clear hK K
 repeat (first | ((first | (refine Sched.walk1_no rfl rfl (fun K hK => ?_)) | (refine Sched.walk1_gr rfl rfl rfl (fun K hK => ?_); apply Exists.intro; refine ⟨fun w1 hw1 => ?_, ?_⟩; (focus (go_simp; (try go_ints); (try (simp only [IntWalk.iteOmega]; go_simp)); first | done | (go_at_call 77; (with_reducible exact rstat_any _ _)) | (with_reducible rfl) | (with_reducible exact ⟨rfl, rfl⟩))))); simp only [Act.put, zqa, zqb, zqc]; refine hK _ ?_; clear hK K))
 refine Sched.walk1_gr rfl rfl rfl (fun K hK => ?_)
 refine ⟨HVal b, fun w1 hw1 => (HB.out w1 hw1).load _ rfl rfl, ?_⟩
 simp only [Act.put, zqa, zqb, zqc]
 refine hK _ ?_
 clear hK K
 repeat (first | ((first | (refine Sched.walk1_no rfl rfl (fun K hK => ?_)) | (refine Sched.walk1_gr rfl rfl rfl (fun K hK => ?_); apply Exists.intro; refine ⟨fun w1 hw1 => ?_, ?_⟩; (focus (go_simp; (try go_ints); (try (simp only [IntWalk.iteOmega]; go_simp)); first | done | (go_at_call 77; (with_reducible exact rstat_any _ _)) | (with_reducible rfl) | (with_reducible exact ⟨rfl, rfl⟩))))); simp only [Act.put, zqa, zqb, zqc]; refine hK _ ?_; clear hK K))
 have he := fun u => run_eqH (statH a) (statH b) u
 obtain ⟨E, hE⟩ : ∃ E, eqH (statH a) (statH b) = E := ⟨_, rfl⟩
 rw [hE] at he
 have hsb : E = sameB a b := by
  rw [← hE]
  exact stat_eq a b
 have HSB := zqd hsb
 clear hE hsb
 repeat (first | ((first | (refine Sched.walk1_no rfl rfl (fun K hK => ?_)) | (refine Sched.walk1_gr rfl rfl rfl (fun K hK => ?_); apply Exists.intro; refine ⟨fun w1 hw1 => ?_, ?_⟩; (focus (go_simp; (try go_ints); (try (simp only [IntWalk.iteOmega]; go_simp)); first | done | (with_reducible rfl) | (with_reducible exact ⟨rfl, rfl⟩))))); simp only [Act.put, zqa, zqb, zqc]; refine hK _ ?_; clear hK K))
 refine Sched.walk1_nil ?_
 intro wq hwq
 dsimp only [Sched.EndN, List.nil_append, List.cons_append, Act.put]
 (try simp only [zqa, zqb, zqc])
 repeat (first | (refine Sched.walk2_no rfl (fun K hK => ?_); simp only [Act.put, zqa, zqb, zqc]; refine hK _ ?_; clear hK K) | (refine Sched.walk2_go rfl (fun K hK => ?_); go_simp; (try go_ints); (try (simp only [IntWalk.iteOmega]; go_simp)); (refine hK _ _ ?_; clear hK K)))
 refine Sched.walk2_nil ?_
 go_wp2_with fail
 go_ret
 exact ⟨ret_bool HSB.out, HG2.out.trans hwq⟩
set_option maxRecDepth 20000 in
set_option maxHeartbeats 2000000 in
theorem rvalid_no (h : Hdr) (w : World) (hk : kindB h = false) : Calls Tryd.prog 60 #[HVal h] w fun e w' => e = .returned (.bool false) ∧ Gr w w' := by
 unfold kindB at hk
 rw [Bool.or_eq_false_iff] at hk
 obtain ⟨k1, k2⟩ := hk
 have k3 : (h.kind != 1) = true := by rw [bne, k1]; rfl
 have k4 : (h.kind != 2) = true := by rw [bne, k2]; rfl
 clear k1 k2
 go_enter Tryd.func60, Tryd.ntmps60
 go_wp2_with fail
 go_ret
 exact ⟨rfl, Gr.alloc _ _⟩
end Go.Proofs.YtlnkofpcidngoaaDoor