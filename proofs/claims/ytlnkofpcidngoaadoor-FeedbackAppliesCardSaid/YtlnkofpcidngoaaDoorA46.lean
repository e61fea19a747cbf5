/- Layer 11 (feedback): the sanity check. -/
import Derived.Test.YtlnkofpcidngoaaDoorA0
import Derived.Test.YtlnkofpcidngoaaDoorA45
import Derived.Test.YtlnkofpcidngoaaDoorA39
import Derived.Test.YtlnkofpcidngoaaDoorA38
import Derived.Test.YtlnkofpcidngoaaDoorA27
import Derived.Test.YtlnkofpcidngoaaDoorA40
import Derived.Test.YtlnkofpcidngoaaDoorA24
namespace Go.Proofs.YtlnkofpcidngoaaDoor
open Go.ChangeShapes Go.WideShapes Go.ChangeAt Go.RowKit
def HU : Hdr := ⟨1, 0, 5, 0, 64, 0, 0, 0, 0, 0, 0, 0, 0, 0, 0⟩
theorem hu_valid : validH HU = true := by decide
theorem hu_parse : parseF (bldL (headL HU ++ [])) = (HU, [], 0) := by
 obtain ⟨h1, _, _, h4⟩ := build_parse hu_valid (ys := []) (by intro y hy; cases hy) (by decide)
 rcases h4 with ⟨_, h, _⟩ | ⟨e1, e2⟩
 ·simp at h
 ·rw [h1, e1, e2]
theorem hu_len : (bldL (headL HU ++ [])).length = 28 := by rw [bldL_len]; rfl
def AwRel (g1 : Nat) (w wc : World) : Prop := ∃ a c M R, CBlk g1 24 [.int .i64 3, .int .i64 3, .slice a 16 c] wc ∧ RdC wc a 16 c M ∧ M[0]? = some R ∧ validC 3 3 M = true ∧ (R.act = true ∧ R.full = 3 ∧ R.refr = 0 ∧ R.ser = 0 ∧ R.refs = [HU]) ∧ Gr w wc
theorem owni_cap {B : Nat} {e : TypeId} {k : IntKind} {w : World} {a : Option Addr} {n cap : Nat} {xs : List Int} (h : OwnI B e k w a n cap xs) : n ≤ cap := (own_capG h.row).1
theorem cblk_tload {P : Program} {o : Oper} {a : Act} {w : World} {K : Act → World → Prop} (ty : TypeId) (x : Operand) (ho : o.op = .load ty x) (g : Nat) (hx : a.eval x = .pointer (some ⟨g, 0, none⟩)) {cs : List Value} (hb : CBlk g ty cs w)
  {d : TypeDesc} (hu : P.underlying ty = some d) (hd : (match d with | .struct _ | .array _ _ => true | _ => false) = true) (hi : (P.info? ty).map (·.size) = some cs.toArray.size) (h : K (a.put o.dst (.agg cs.toArray)) w) : Sched.tq P o a w K := by
 unfold Sched.tq execOp
 simp only [ho, hx, Instr.loadAt, Instr.sureAddr, Sem.run_bind, Sem.run_pure, Result.andThen_ok, run_loadVar_row w g ty ty cs.toArray (0, 0) d hb hu hd hi]
 exact h
theorem apply_is {mode width E : Int} {PL : List Snd} {a : Option Addr} {n c : Nat} {L : List Snd} {fc fk fn : Int} (hE : apE mode width L fc fk fn = E) (hP : apL mode width L fc fk fn = PL) (w : World) (hr : RdC w a n c L) :
  Calls Tryd.prog 16 #[CVal mode width a n c, FVal fc fk fn] w (ApPost2 mode width E PL w) := hE ▸ hP ▸ apply2_any mode width a n c L fc fk fn w hr
theorem aw_app {M : List Snd} {R : Snd} (h0 : M[0]? = some R) (hv : validC 3 3 M = true) (hR : R.act = true ∧ R.full = 3 ∧ R.refr = 0 ∧ R.ser = 0 ∧ R.refs = [HU]) : apE 3 3 M 0 0 5 = 0 ∧ ∀ M' : List Snd, M'.map plainS = apL 3 3 M 0 0 5 → ∃ s, M'[0]? = some s ∧ s.full = 0 := by
 obtain ⟨r1, r2, r3, r4, r5⟩ := hR
 have hs : sndAt M 0 = R := by unfold sndAt; rw [show (0 : Int).toNat = 0 from rfl, h0]; rfl
 constructor
 ·unfold apE
  rw [hv, hs, r1]
  rfl
 ·intro M' hM
  have h1 : (M'.map plainS)[0]? = some (fbP 3 3 R 0 5) := by
   rw [hM, apL, hs, show (0 : Int).toNat = 0 from rfl]
   exact List.getElem?_set_self (by have := (valid_parts hv).2.1; simp; omega)
  rw [List.getElem?_map] at h1
  cases hm : M'[0]? with
  | none => rw [hm] at h1; cases h1
  | some s =>
   rw [hm] at h1
   injection h1 with h1
   refine ⟨s, rfl, ?_⟩
   have h2 : s.full = (fbP 3 3 R 0 5).full := by rw [← h1]; rfl
   rw [h2]
   have h3 : lastK R.refs 5 R.refs.length = some 0 := by rw [r5]; rfl
   unfold fbP
   rw [if_pos rfl]
   unfold ackP
   rw [h3]
   simp only [r4]
   rfl
set_option maxRecDepth 100000 in
set_option maxHeartbeats 4000000 in
theorem awake11 (w : World) (hlaid : LaidIn w) : Calls Tryd.prog 8 #[] w fun e w' => e = .returned (.bool true) ∧ Gr w w' := by
 have HLA := zqd hlaid
 clear hlaid
 go_enter Tryd.func8, Tryd.ntmps8
 go_wp2_with fail
 refine (new2_any 3 3 w (by decide)).mono ?_
 rintro e w1 ⟨a1, c1, rfl, hr1, hg1, -⟩
 have HR1 := zqd hr1
 have HG1 := zqd hg1
 clear hr1 hg1
 obtain ⟨wz, hwz⟩ : ∃ y, y = w1.alloc (.cells #[.int .i64 0, .int .i64 0, .slice none 0 0] 24) := ⟨_, rfl⟩
 have HZZ := zqd (show CBlk w1.heap.size 24 [.int .i64 0, .int .i64 0, .slice none 0 0] wz by rw [hwz]; exact CBlk.new _ _ _)
 have HGZ := zqd (show Gr w1 wz by rw [hwz]; exact Gr.alloc _ _)
 go_upto_region 2 with (first | rw [← hwz]; refine cblk_store rfl 24 _ _ rfl w1.heap.size [.int .i64 3, .int .i64 3, .slice a1 16 c1] HZZ.out rfl rfl rfl (by kernel_rfl) rfl ?_; intro w2 hb9 he9; have HB2 := zqd hb9; have HE2 := zqd (show Gr w1 w2 by rw [← he9]; exact gr_setCells HGZ.out (Nat.le_refl _) _ _); clear hb9 he9)
 have HR2 := zqd (HR1.out.kept HE2.out)
 have HG2 := zqd (HG1.out.trans HE2.out)
 have HGW := zqd (show w.heap.size ≤ w1.heap.size from HG1.out.size)
 obtain ⟨g1, hg1⟩ : ∃ g, w1.heap.size = g := ⟨_, rfl⟩
 rw [hg1] at HB2 HGW
 rw [hg1]
 have HV0 := zqd (show validC 3 3 L0 = true from valid_L0 (by decide))
 clear hwz HZZ HGZ hg1 HE2 HR1 HG1
 go_cut [] from 11 to 18 (fun wc => AwRel g1 w wc)
 case first =>
  have hbuild : ∀ u : World, True := fun _ => trivial
  refine SchedT.wp_region_sched (fun _ => True) [1] [] [0, 2, 3, 4, 5, 6, 7, 8] false (fun _ _ => trivial) (by kernel_rfl) (by kernel_rfl) ?_
  repeat (first | ((with_reducible refine Sched2.walk1_ord ?_ ?_); (focus rfl)) | ((first | ((with_reducible refine Sched2.walk1_no ?_ ?_ ?_ (fun K hK => ?_)); (focus rfl); (focus rfl); (focus rfl)) | ((with_reducible refine Sched2.walk1_gr ?_ ?_ ?_ ?_ (fun K hK => ?_)); (focus rfl); (focus rfl); (focus rfl); (focus rfl); apply Exists.intro; refine ⟨fun w1 hw1 => ?_, ?_⟩; (focus (go_simp; (try go_ints); (try (simp only [IntWalk.iteOmega]; go_simp)); first | done | (with_reducible rfl) | (with_reducible exact ⟨rfl, rfl⟩)))) | ((with_reducible refine Sched2.walk1_late ?_ ?_ ?_ ?_ (fun K hK => ?_)); (focus rfl); (focus rfl); (focus rfl); (focus rfl); apply Exists.intro; refine ⟨fun w1 hw1 => ?_, ?_⟩; (focus (go_simp; (try go_ints); (try (simp only [IntWalk.iteOmega]; go_simp)); first | done | (with_reducible rfl) | (with_reducible exact ⟨rfl, rfl⟩))))); simp only [Act.put, zqa, zqb, zqc]; refine hK _ ?_; clear hK K))
  (with_reducible refine Sched2.walk1_nil ?_)
  intro wq hwq
  dsimp only [Sched.EndN, List.nil_append, List.cons_append, Act.put, List.length_cons, List.length_nil]
  (try simp only [zqa, zqb, zqc])
  have HBq := zqd (HB2.out.kept hwq)
  have HRq := zqd (HR2.out.kept hwq)
  have HGq := zqd (HG2.out.trans hwq)
  clear hwq HB2 HR2 HG2 hbuild
  refine SchedT.node [0, 2] (by kernel_rfl) ?_
  refine ⟨?_, ?_, trivial⟩
  ·refine SchedT.go _ rfl rfl rfl (fun K hK => ?_)
   refine cblk_tload 24 _ rfl g1 rfl HBq.out Tryd.underlying24 rfl (by kernel_rfl) ?_
   refine hK _ _ (.inr trivial) ?_
   clear hK K
   (try dsimp only [Act.put])
   (try simp only [List.setIfInBounds_toArray])
   (try simp only [List.set_cons_zero, List.set_cons_succ])
   refine SchedT.node [2] (by kernel_rfl) ?_
   refine ⟨?_, trivial⟩
   refine SchedT.go _ rfl rfl rfl (fun K hK => ?_)
   go_simp
   go_at_call 27
   refine (mpacket_any HU none 0 0 [] wq hu_valid (OwnI.nil 0 5 _ _).rd (by omega)).mono ?_
   rintro e w4 ⟨a4, n4, c4, rfl, hn4, ho4, hg4⟩
   rw [hu_len] at hn4
   subst hn4
   have HP4 := zqd ho4.rd
   have HCP := zqd (show 28 ≤ c4 from owni_cap ho4)
   have HB4 := zqd ((HBq.out).kept hg4)
   have HC4 := zqd ((HRq.out).kept hg4)
   have HG4 := zqd (Gr.trans HGq.out hg4)
   clear ho4 hg4
   refine ⟨_, rfl, ?_⟩
   refine hK _ _ (.inr trivial) ?_
   clear hK K
   (try dsimp only [Act.put])
   (try simp only [List.setIfInBounds_toArray])
   (try simp only [List.set_cons_zero, List.set_cons_succ])
   refine SchedT.node [3] (by kernel_rfl) ?_
   refine ⟨?_, trivial⟩
   refine SchedT.go _ rfl rfl rfl (fun K hK => ?_)
   go_simp
   go_at_call 14
   refine (compress_any 3 3 a1 16 c1 L0 a4 28 c4 _ w4 HC4.out HV0.out HP4.out (by omega) (by omega) HCP.out).mono ?_
   rw [hu_parse]
   rintro e w5 ⟨a5, c5, M5, b5, n5, k5, s5, rfl, hc5, hv5, _, _, _, hg5, hab, haw⟩
   obtain ⟨R5, hm5, hrr5⟩ := haw rfl rfl (by intro s hs; rw [List.eq_of_mem_replicate hs]; rfl)
   have HB5 := zqd (HB4.out.kept hg5)
   have HC5 := zqd hc5
   have HM5 := zqd hm5
   have HAB5 := zqd hab
   have HV5 := zqd hv5
   have HRR5 := zqd hrr5
   have HG5 := zqd (HG4.out.trans hg5)
   clear hc5 hv5 hg5 haw hm5 hrr5 hab
   have HFIN := zqd (show ∀ w9, CBlk g1 24 [.int .i64 3, .int .i64 3, .slice a5 16 c5] w9 → w5.setCells g1 0 [.int .i64 3, .int .i64 3, .slice a5 16 c5] = w9 → AwRel g1 w w9 from fun w9 hb9 he9 => ⟨a5, c5, M5, R5, hb9, by rw [← he9]; exact rdc_but HC5.out (grown_setCells g1 _ 0 w5) (fun b off e => by have := HAB5.out.1 b off e; have := HB4.out.lt; omega) (fun t ht b off e => by have := HAB5.out.2 t ht b off e; have := HB4.out.lt; omega), HM5.out, HV5.out, HRR5.out, by rw [← he9]; exact gr_setCells HG5.out HGW.out _ _⟩)
   refine ⟨_, rfl, ?_⟩
   refine hK _ _ (.inr trivial) ?_
   clear hK K
   (try dsimp only [Act.put])
   (try simp only [List.setIfInBounds_toArray])
   (try simp only [List.set_cons_zero, List.set_cons_succ])
   repeat' (first
    | (refine SchedT.nil ?_; go_wp2_with fail; go_meet; exact HR9.out)
    | (refine SchedT.node [4] (by decide +kernel) ?_; refine ⟨?_, trivial⟩)
    | (refine SchedT.node [5, 6, 7] (by decide +kernel) ?_; refine ⟨?_, ?_, ?_, trivial⟩)
    | (refine SchedT.node [6, 7, 8] (by decide +kernel) ?_; refine ⟨?_, ?_, ?_, trivial⟩)
    | (refine SchedT.node [5, 7] (by decide +kernel) ?_; refine ⟨?_, ?_, trivial⟩)
    | (refine SchedT.node [5, 6] (by decide +kernel) ?_; refine ⟨?_, ?_, trivial⟩)
    | (refine SchedT.node [7, 8] (by decide +kernel) ?_; refine ⟨?_, ?_, trivial⟩)
    | (refine SchedT.node [6, 8] (by decide +kernel) ?_; refine ⟨?_, ?_, trivial⟩)
    | (refine SchedT.node [6, 7] (by decide +kernel) ?_; refine ⟨?_, ?_, trivial⟩)
    | (refine SchedT.node [5] (by decide +kernel) ?_; refine ⟨?_, trivial⟩)
    | (refine SchedT.node [6] (by decide +kernel) ?_; refine ⟨?_, trivial⟩)
    | (refine SchedT.node [7] (by decide +kernel) ?_; refine ⟨?_, trivial⟩)
    | (refine SchedT.node [8] (by decide +kernel) ?_; refine ⟨?_, trivial⟩)
    | (refine SchedT.go _ rfl rfl rfl (fun K hK => ?_); go_simp; refine hK _ _ (.inr trivial) ?_; clear hK K; (try dsimp only [Act.put]); (try simp only [List.setIfInBounds_toArray]); (try simp only [List.set_cons_zero, List.set_cons_succ]))
    | (refine SchedT.go _ rfl rfl rfl (fun K hK => ?_); refine cblk_tstore 24 _ _ rfl g1 [.int .i64 3, .int .i64 3, .slice a5 16 c5] HB5.out rfl rfl rfl (by kernel_rfl) rfl ?_; intro w9 hb9 he9; have HR9 := zqd (HFIN.out w9 hb9 he9); clear hb9 he9; refine hK _ _ (.inr trivial) ?_; clear hK K; (try dsimp only [Act.put]); (try simp only [List.setIfInBounds_toArray]); (try simp only [List.set_cons_zero, List.set_cons_succ])))
  ·refine SchedT.go _ rfl rfl rfl (fun K hK => ?_)
   go_simp
   go_at_call 27
   refine (mpacket_any HU none 0 0 [] wq hu_valid (OwnI.nil 0 5 _ _).rd (by omega)).mono ?_
   rintro e w4 ⟨a4, n4, c4, rfl, hn4, ho4, hg4⟩
   rw [hu_len] at hn4
   subst hn4
   have HP4 := zqd ho4.rd
   have HCP := zqd (show 28 ≤ c4 from owni_cap ho4)
   have HB4 := zqd ((HBq.out).kept hg4)
   have HC4 := zqd ((HRq.out).kept hg4)
   have HG4 := zqd (Gr.trans HGq.out hg4)
   clear ho4 hg4
   refine ⟨_, rfl, ?_⟩
   refine hK _ _ (.inr trivial) ?_
   clear hK K
   (try dsimp only [Act.put])
   (try simp only [List.setIfInBounds_toArray])
   (try simp only [List.set_cons_zero, List.set_cons_succ])
   refine SchedT.node [0] (by kernel_rfl) ?_
   refine ⟨?_, trivial⟩
   refine SchedT.go _ rfl rfl rfl (fun K hK => ?_)
   refine cblk_tload 24 _ rfl g1 rfl HB4.out Tryd.underlying24 rfl (by kernel_rfl) ?_
   refine hK _ _ (.inr trivial) ?_
   clear hK K
   (try dsimp only [Act.put])
   (try simp only [List.setIfInBounds_toArray])
   (try simp only [List.set_cons_zero, List.set_cons_succ])
   refine SchedT.node [3] (by kernel_rfl) ?_
   refine ⟨?_, trivial⟩
   refine SchedT.go _ rfl rfl rfl (fun K hK => ?_)
   go_simp
   go_at_call 14
   refine (compress_any 3 3 a1 16 c1 L0 a4 28 c4 _ w4 HC4.out HV0.out HP4.out (by omega) (by omega) HCP.out).mono ?_
   rw [hu_parse]
   rintro e w5 ⟨a5, c5, M5, b5, n5, k5, s5, rfl, hc5, hv5, _, _, _, hg5, hab, haw⟩
   obtain ⟨R5, hm5, hrr5⟩ := haw rfl rfl (by intro s hs; rw [List.eq_of_mem_replicate hs]; rfl)
   have HB5 := zqd (HB4.out.kept hg5)
   have HC5 := zqd hc5
   have HM5 := zqd hm5
   have HAB5 := zqd hab
   have HV5 := zqd hv5
   have HRR5 := zqd hrr5
   have HG5 := zqd (HG4.out.trans hg5)
   clear hc5 hv5 hg5 haw hm5 hrr5 hab
   have HFIN := zqd (show ∀ w9, CBlk g1 24 [.int .i64 3, .int .i64 3, .slice a5 16 c5] w9 → w5.setCells g1 0 [.int .i64 3, .int .i64 3, .slice a5 16 c5] = w9 → AwRel g1 w w9 from fun w9 hb9 he9 => ⟨a5, c5, M5, R5, hb9, by rw [← he9]; exact rdc_but HC5.out (grown_setCells g1 _ 0 w5) (fun b off e => by have := HAB5.out.1 b off e; have := HB4.out.lt; omega) (fun t ht b off e => by have := HAB5.out.2 t ht b off e; have := HB4.out.lt; omega), HM5.out, HV5.out, HRR5.out, by rw [← he9]; exact gr_setCells HG5.out HGW.out _ _⟩)
   refine ⟨_, rfl, ?_⟩
   refine hK _ _ (.inr trivial) ?_
   clear hK K
   (try dsimp only [Act.put])
   (try simp only [List.setIfInBounds_toArray])
   (try simp only [List.set_cons_zero, List.set_cons_succ])
   repeat' (first
    | (refine SchedT.nil ?_; go_wp2_with fail; go_meet; exact HR9.out)
    | (refine SchedT.node [4] (by decide +kernel) ?_; refine ⟨?_, trivial⟩)
    | (refine SchedT.node [5, 6, 7] (by decide +kernel) ?_; refine ⟨?_, ?_, ?_, trivial⟩)
    | (refine SchedT.node [6, 7, 8] (by decide +kernel) ?_; refine ⟨?_, ?_, ?_, trivial⟩)
    | (refine SchedT.node [5, 7] (by decide +kernel) ?_; refine ⟨?_, ?_, trivial⟩)
    | (refine SchedT.node [5, 6] (by decide +kernel) ?_; refine ⟨?_, ?_, trivial⟩)
    | (refine SchedT.node [7, 8] (by decide +kernel) ?_; refine ⟨?_, ?_, trivial⟩)
    | (refine SchedT.node [6, 8] (by decide +kernel) ?_; refine ⟨?_, ?_, trivial⟩)
    | (refine SchedT.node [6, 7] (by decide +kernel) ?_; refine ⟨?_, ?_, trivial⟩)
    | (refine SchedT.node [5] (by decide +kernel) ?_; refine ⟨?_, trivial⟩)
    | (refine SchedT.node [6] (by decide +kernel) ?_; refine ⟨?_, trivial⟩)
    | (refine SchedT.node [7] (by decide +kernel) ?_; refine ⟨?_, trivial⟩)
    | (refine SchedT.node [8] (by decide +kernel) ?_; refine ⟨?_, trivial⟩)
    | (refine SchedT.go _ rfl rfl rfl (fun K hK => ?_); go_simp; refine hK _ _ (.inr trivial) ?_; clear hK K; (try dsimp only [Act.put]); (try simp only [List.setIfInBounds_toArray]); (try simp only [List.set_cons_zero, List.set_cons_succ]))
    | (refine SchedT.go _ rfl rfl rfl (fun K hK => ?_); refine cblk_tstore 24 _ _ rfl g1 [.int .i64 3, .int .i64 3, .slice a5 16 c5] HB5.out rfl rfl rfl (by kernel_rfl) rfl ?_; intro w9 hb9 he9; have HR9 := zqd (HFIN.out w9 hb9 he9); clear hb9 he9; refine hK _ _ (.inr trivial) ?_; clear hK K; (try dsimp only [Act.put]); (try simp only [List.setIfInBounds_toArray]); (try simp only [List.set_cons_zero, List.set_cons_succ])))
 obtain ⟨a9, c9, M9, R9, hb9, hc9, hm9, hv9, hr9, hg9⟩ := hcut
 obtain ⟨w9, hw9⟩ : ∃ y, y = wc := ⟨_, rfl⟩
 rw [← hw9] at hb9 hc9 hg9 ⊢
 obtain ⟨hE, hAP⟩ := aw_app hm9 hv9 hr9
 have HB9 := zqd hb9
 have HC9 := zqd hc9
 have HG9 := zqd hg9
 have HE := zqd hE
 have HAP := zqd hAP
 clear hw9 hb9 hc9 hm9 hv9 hr9 hg9 hE hAP HB2 HR2 HG2
 go_wp2_with (refine cblk_load rfl 24 _ rfl g1 rfl HB9.out Tryd.underlying24 rfl (by kernel_rfl) ?_)
 refine (apply_is HE.out rfl w9 HC9.out).mono ?_
 rintro e w10 ⟨hg10, ⟨-, a', c', M', rfl, hM', hrd', -⟩ | ⟨hne, -⟩⟩
 rotate_left
 ·exact absurd rfl hne
 obtain ⟨s0, hs0, hfull⟩ := HAP.out M' hM'
 obtain ⟨bb, oo, rfl, -, hrow⟩ := hrd'.row (by omega)
 have hcell := hrow 0 s0 hs0 1 _ rfl
 rw [Nat.zero_mul, Nat.add_zero, hfull] at hcell
 have HCE := zqd hcell
 have HG10 := zqd (HG9.out.trans hg10)
 clear hg10 hM' hrd' hs0 hfull hrow hcell HAP HC9 HB9 HG9 HE
 obtain ⟨wz, hwz⟩ : ∃ y, y = w10.alloc (.cells #[.int .i64 0, .int .i64 0, .slice none 0 0] 24) := ⟨_, rfl⟩
 have HZZ := zqd (show CBlk w10.heap.size 24 [.int .i64 0, .int .i64 0, .slice none 0 0] wz by rw [hwz]; exact CBlk.new _ _ _)
 have HGZ := zqd (show Gr w10 wz by rw [hwz]; exact Gr.alloc _ _)
 go_upto_region 4 with (first | rw [← hwz]; refine cblk_store rfl 24 _ _ rfl w10.heap.size [.int .i64 3, .int .i64 3, .slice (some ⟨bb, oo, none⟩) 16 c'] HZZ.out rfl rfl rfl (by kernel_rfl) rfl ?_; intro w11 hb9 he9; have HB11 := zqd hb9; have HE11 := zqd (show Gr w10 w11 by rw [← he9]; exact gr_setCells HGZ.out (Nat.le_refl _) _ _); clear hb9 he9)
 obtain ⟨g3, hg3⟩ : ∃ g, w10.heap.size = g := ⟨_, rfl⟩
 rw [hg3] at HB11
 rw [hg3]
 have HG11 := zqd (HG10.out.trans HE11.out)
 clear hwz HZZ HGZ hg3
 go_wp2_with fail
 obtain ⟨Sv, hSv⟩ : ∃ v, sumV 8 [227, 241, 1, 2] = v := ⟨_, rfl⟩
 have henc : encF 3 1 258 = ([227, 241, 1, 2, Sv], 0) := by rw [← hSv]; rfl
 have hen := encode_any 3 1 258 w11 (laid_gr HLA.out HG11.out)
 rw [henc] at hen
 refine hen.mono ?_
 clear hen henc hSv
 rintro e w12 ⟨ab, nb, cb, rfl, hob, hg12⟩
 obtain rfl : nb = 5 := hob.len.symm
 obtain ⟨gb, rfl, -⟩ := hob.some (by omega)
 have c0 : w12.cell? ⟨gb, 0, none⟩ = some (.int .u8 227) := (hob.at 0 (by omega)).1
 have c1 : w12.cell? ⟨gb, 1, none⟩ = some (.int .u8 241) := (hob.at 1 (by omega)).1
 have c3 : w12.cell? ⟨gb, 3, none⟩ = some (.int .u8 2) := (hob.at 3 (by omega)).1
 have x2 := (HB11.out.kept hg12).at 2 rfl
 have ce := (HE11.out.trans hg12).cell HCE.out
 have HG12 := zqd (HG11.out.trans hg12)
 clear hob hg12
 go_wp2_with fail
 go_ret
 exact ⟨rfl, HG12.out⟩
end Go.Proofs.YtlnkofpcidngoaaDoor