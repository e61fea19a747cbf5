import Derived.Test.YtlnkofpcidngoaaDoorK0
import Derived.Test.YtlnkofpcidngoaaDoorK41
import Derived.Test.YtlnkofpcidngoaaDoorK42
import Derived.Test.YtlnkofpcidngoaaDoorK39
import Derived.Test.YtlnkofpcidngoaaDoorK37
import Derived.Test.YtlnkofpcidngoaaDoorK47
import Derived.Test.YtlnkofpcidngoaaDoorK36
import Derived.Test.YtlnkofpcidngoaaDoorK26
import Derived.Deep.CutRange
namespace Go.Proofs.YtlnkofpcidngoaaDoor
open Go.ChangeShapes Go.WideShapes Go.ChangeAt Go.RowKit
def AwayC (g p : Nat) (a : Option Addr) (M : List Snd) : Prop := (∀ b off, a = some ⟨b, off, none⟩ → b ≠ g ∧ b ≠ p) ∧ ∀ t ∈ M, ∀ b off, t.a = some ⟨b, off, none⟩ → b ≠ g ∧ b ≠ p
theorem AboveC.away {B g p : Nat} {a : Option Addr} {M : List Snd} (h : AboveC B a M) (hg : g < B) (hp : p < B) : AwayC g p a M :=
 ⟨fun b off e => by have := h.1 b off e; omega, fun t ht b off e => by have := h.2 t ht b off e; omega⟩
theorem rdc_away {w w' : World} {a : Option Addr} {n c g p r : Nat} {M : List Snd} (h : RdC w a n c M) (ha : AwayC g p a M) (hg : w.grownBy w' (some r)) (hr : r = g ∨ r = p) : RdC w' a n c M :=
 rdc_but h hg (fun b off e => by have := ha.1 b off e; omega) (fun t ht b off e => by have := ha.2 t ht b off e; omega)
def KpSt (mode W : Int) (w : World) (gC p B : Nat) (al : Option Addr) (nl : Nat) (ss : List Pk) (wr : World) : Prop := ∃ (a : Option Addr) (c : Nat) (L : List Snd), CBlk gC 24 [.int .i64 mode, .int .i64 W, .slice a 16 c] wr ∧ RdC wr a 16 c L ∧ validC mode W L = true ∧ AwayC gC p a L ∧ RdP B wr al nl ss ∧ Die wr p ∧ Gr w wr
def KpRel (mode W : Int) (w : World) (gC p B : Nat) (al : Option Addr) (nl : Nat) (ss : List Pk) (v : Value) (wr : World) : Prop := ∃ j : Nat, j ≤ nl ∧ v = .int .i64 j ∧ KpSt mode W w gC p B al nl ss wr
def KcRel (mode W : Int) (w : World) (gC p B : Nat) (al : Option Addr) (nl : Nat) (ss : List Pk) (v : Value) (wr : World) : Prop := ∃ (b : Option Addr) (bn bc : Nat), v = .slice b bn bc ∧ 1 ≤ bn ∧ bn ≤ 2000 ∧ KpSt mode W w gC p B al nl ss wr
theorem KpSt.gr {mode W : Int} {w : World} {gC p B : Nat} {al : Option Addr} {nl : Nat} {ss : List Pk} {wr w' : World} (h : KpSt mode W w gC p B al nl ss wr) (hg : Gr wr w') : KpSt mode W w gC p B al nl ss w' := by
 obtain ⟨a, c, L, h1, h2, h3, h4, h5, h6, h7⟩ := h
 exact ⟨a, c, L, h1.kept hg, h2.kept hg, h3, h4, h5.kept hg, h6.kept hg (by simp), h7.trans hg⟩
theorem gr_die {w w1 w2 : World} {p : Nat} (h : Gr w w1) (k : w1.grownBy w2 (some p)) (hp : w.heap.size ≤ p) : Gr w w2 := grownBy_trans h k (.inr (.inr ⟨p, rfl, hp⟩))
theorem KpSt.dice {mode W : Int} {w : World} {gC p B : Nat} {al : Option Addr} {nl : Nat} {ss : List Pk} {wr w' : World} (h : KpSt mode W w gC p B al nl ss wr) (hd : Die w' p) (hg : wr.grownBy w' (some p)) (hpB : p < B) (hp : w.heap.size ≤ p) (hpc : gC ≠ p) : KpSt mode W w gC p B al nl ss w' := by
 obtain ⟨a, c, L, h1, h2, h3, h4, h5, h6, h7⟩ := h
 exact ⟨a, c, L, h1.but hg (by simpa using hpc), rdc_away h2 h4 hg (.inr rfl), h3, h4, h5.but hg hpB, hd, gr_die h7 hg hp⟩
theorem kp_die {mode W : Int} {w : World} {gC p B : Nat} {al : Option Addr} {nl : Nat} {ss : List Pk} {wr : World} (h : KpSt mode W w gC p B al nl ss wr) : Die wr p := by
 obtain ⟨a, c, L, h1, h2, h3, h4, h5, h6, h7⟩ := h
 exact h6
theorem nack_at {mode W : Int} {L M : List Snd} {k : Nat} {n : Int} (hv : validC mode W L = true) (hk : k < 16) (hM : M.map plainS = apL mode W L k 2 n) : ∃ s, M[k]? = some s ∧ s.full = W ∧ s.ser = s.refs.length := by
 have hl := (valid_parts hv).2.1
 have h1 : (M.map plainS)[k]? = some (fbP mode W (sndAt L k) 2 n) := by
   rw [hM, apL, Int.toNat_natCast]
   exact List.getElem?_set_self (by simp; omega)
 rw [List.getElem?_map] at h1
 cases hm : M[k]? with
 | none => rw [hm] at h1; cases h1
 | some s =>
   rw [hm] at h1
   injection h1 with h1
   refine ⟨s, rfl, ?_, ?_⟩
   · have h2 : s.full = (fbP mode W (sndAt L k) 2 n).full := by rw [← h1]; rfl
     rw [h2]; rfl
   · have h2 : s.ser = (fbP mode W (sndAt L k) 2 n).ser := by rw [← h1]; rfl
     have h3 : s.refs = (fbP mode W (sndAt L k) 2 n).refs := by rw [← h1]; rfl
     rw [h2, h3]; rfl
theorem rcvalid_is {mode width : Int} {a : Option Addr} {n c : Nat} {L : List Snd} (hok : validC mode width L = true) (w : World) (hr : RdC w a n c L) : Calls Tryd.prog 20 #[CVal mode width a n c] w fun e w' => e = .returned (.bool true) ∧ Gr w w' := rvalid_yes mode width a n c L w hr hok
theorem rdc_gr {w w' : World} {a : Option Addr} {n c : Nat} {L : List Snd} (h : RdC w a n c L) (hg : Gr w w') : RdC w' a n c L := h.kept hg
set_option maxRecDepth 100000 in
set_option maxHeartbeats 4000000 in
theorem keeps_walk (t : Option Addr) (tl tc : Nat) (ts : List Int) (mo : Int) (w : World) (hlaid : LaidIn w) (ht : Rd .i64 w t tl ts) :
   Calls Tryd.prog 4 #[.slice t tl tc, .int .i64 mo] w fun e w' => e = .returned (.bool true) ∧ Gr w w' := by
 have HLA := zqd hlaid
 have HT := zqd ht
 have htl : tl ≤ 9223372036854775807 := by have := ht.2.2.1; simp only [maxLen] at this; omega
 clear hlaid ht
 go_enter Tryd.func4, Tryd.ntmps4
 go_wp2_with fail
 refine (light_any t tl tc w htl).mono ?_
 rintro e w' ⟨rfl, rfl⟩
 by_cases hli : tl ≤ 400
 rotate_left
 · have hlb : decide (tl ≤ 400) = false := decide_eq_false hli
   go_wp2_with fail
   refine (awake11 w HLA.out).mono ?_
   rintro e w9 ⟨rfl, hg9⟩
   have HG9 := zqd hg9
   clear hg9
   go_wp2_with fail
   go_ret
   exact ⟨rfl, HG9.out⟩
 have hlb : decide (tl ≤ 400) = true := decide_eq_true hli
 go_wp2_with fail
 refine (roll_any t tl tc ts w HT.out).mono ?_
 rintro e w2 ⟨p, rfl, hd2, hg2, hpw⟩
 have HD2 := zqd hd2
 have HG2 := zqd hg2
 have hp2 := hd2.lt
 clear hd2 hg2 hlb
 go_wp2_with fail
 obtain ⟨mm, hmm⟩ : ∃ m, modF mo 2 = m := ⟨_, rfl⟩
 have hm1 : 0 ≤ mm := by have := modF_lo mo 2; omega
 have hm2 : mm < 2 := by have := modF_hi mo 2 (by omega); omega
 have HMM := zqd hmm
 clear hmm
 refine (mod11 HMM.out (by omega) w2).mono ?_
 rintro e w' ⟨rfl, rfl⟩
 go_wp2_with fail
 refine (next_any p 8 _ HD2.out (by omega) (by omega)).mono ?_
 rintro e w3 ⟨v0, rfl, hv0, hv1, hd3, hg3⟩
 have HD3 := zqd hd3
 have HG3 := zqd (gr_die HG2.out hg3 hpw)
 have hs3 := hg3.size
 clear hd3 hg3
 obtain ⟨mode, hmode⟩ : ∃ m, 2 + mm = m := ⟨_, rfl⟩
 obtain ⟨W, hW⟩ : ∃ m, 1 + v0 = m := ⟨_, rfl⟩
 have hsh : shapedB mode W = true := by simp [shapedB]; omega
 go_wp2_with fail
 have HSH := zqd hsh
 clear hmode hW hsh
 refine (new2_any mode W w3 HSH.out).mono ?_
 rintro e w4 ⟨a4, c4, rfl, hr4, hg4, hab4⟩
 have HR4 := zqd hr4
 have HD4 := zqd (HD3.out.kept hg4 (by simp))
 have HG4 := zqd (HG3.out.trans hg4)
 have HAW := zqd (show AwayC w4.heap.size p a4 L0 from ⟨fun b off e => by
   have h1 := hab4 b off e
   obtain ⟨b9, o9, e9, hb9, -⟩ := hr4.row (by omega)
   rw [e] at e9
   injection e9 with e9
   injection e9 with e9
   exact ⟨by omega, by omega⟩, fun s hs b off e => by rw [List.eq_of_mem_replicate hs] at e; cases e⟩)
 have hs4 := hg4.size
 clear hr4 hg4 hab4
 obtain ⟨wz, hwz⟩ : ∃ y, y = w4.alloc (.cells #[.int .i64 0, .int .i64 0, .slice none 0 0] 24) := ⟨_, rfl⟩
 have HZZ := zqd (show CBlk w4.heap.size 24 [.int .i64 0, .int .i64 0, .slice none 0 0] wz by rw [hwz]; exact CBlk.new _ _ _)
 have HGZ := zqd (show Gr w4 wz by rw [hwz]; exact Gr.alloc _ _)
 go_upto_region 5 with (first | rw [← hwz]; refine cblk_store rfl 24 _ _ rfl w4.heap.size [.int .i64 mode, .int .i64 W, .slice a4 16 c4] HZZ.out rfl rfl rfl (by kernel_rfl) rfl ?_; intro w5 hb9 he9; have HC5 := zqd hb9; have HE5 := zqd (show Gr w4 w5 by rw [← he9]; exact gr_setCells HGZ.out (Nat.le_refl _) _ _); clear hb9 he9)
 obtain ⟨gC, hgC⟩ : ∃ g, w4.heap.size = g := ⟨_, rfl⟩
 rw [hgC] at HC5 HAW
 rw [hgC]
 have HR5 := zqd (HR4.out.kept HE5.out)
 have HD5 := zqd (HD4.out.kept HE5.out (by simp))
 have HG5 := zqd (HG4.out.trans HE5.out)
 have hpg : p < gC := by have := HD4.out.lt; omega
 have hgp : gC ≠ p := by omega
 have hgw : w.heap.size ≤ gC := by have := HG4.out.size; omega
 clear hwz HZZ HGZ hgC HE5 HR4 HD4 HG4 HD2 HG2 HD3 HG3 hs4 hs3
 go_wp2_with fail
 refine (one_any p 2 _ HD5.out (by omega) (by omega)).mono ?_
 rintro e w6 ⟨bb, rfl, hd6, hg6⟩
 have HC6 := zqd (HC5.out.but hg6 (by simpa using hgp))
 have HR6 := zqd (rdc_away HR5.out HAW.out hg6 (.inr rfl))
 have HD6 := zqd hd6
 have HG6 := zqd (gr_die HG5.out hg6 hpw)
 clear hd6 hg6 HC5 HR5 HD5 HG5
 go_wp2_with fail
 refine (packets_any p 40 bb w6 HD6.out (by omega) (by omega)).mono ?_
 rintro e w7 ⟨al, nl, cl, ss, rfl, hnl, hrp, hd7, hg7⟩
 obtain ⟨B, hB⟩ : ∃ B, w6.heap.size = B := ⟨_, rfl⟩
 rw [hB] at hrp
 have hpB : p < B := by have := HD6.out.lt; omega
 have hgB : gC < B := by have := HC6.out.lt; omega
 have HK7 := zqd (show KpSt mode W w gC p B al nl ss w7 from ⟨a4, c4, L0, HC6.out.but hg7 (by simpa using hgp), rdc_away HR6.out HAW.out hg7 (.inr rfl), valid_L0 HSH.out, HAW.out, hrp, hd7, gr_die HG6.out hg7 hpw⟩)
 clear hB hrp hd7 hg7 HC6 HR6 HD6 HG6 HAW
 go_wp2_with fail
 go_loopw [9] (fun v wr => KpRel mode W w gC p B al nl ss v wr) (fun v _ => nl - (intOf v).toNat)
 case atStart => exact ⟨0, by omega, rfl, HK7.out⟩
 case round =>
   obtain ⟨j, hj, rfl, hst⟩ := hrel
   have HK8 := zqd hst
   clear hst HK7
   by_cases hlt : j < nl
   rotate_left
   · go_wp2_with fail
     obtain ⟨_, _, _, _, _, _, _, _, _, hgr⟩ := HK8.out
     refine (awake11 wr (laid_gr HLA.out hgr)).mono ?_
     rintro e w9 ⟨rfl, hg9⟩
     have HG9 := zqd (hgr.trans hg9)
     clear hg9 hgr
     go_wp2_with fail
     go_ret
     exact ⟨rfl, HG9.out⟩
   · obtain ⟨a, c, L, h1, h2, h3, h4, h5, h6, h7⟩ := HK8.out
     obtain ⟨bq, oq, s, hal, -, hcell, hok, xs, hrd⟩ := h5.at hlt
     have HC := zqd h1
     have HR := zqd h2
     have HV := zqd h3
     have HL := zqd h5
     have HD := zqd h6
     have HG := zqd h7
     have HAL := zqd hal
     have HCE := zqd hcell
     have HOK := zqd hok
     have HRD := zqd hrd
     have hlc := h1.lt
     have hlp := h6.lt
     clear h1 h2 h3 h4 h5 h6 h7 hal hcell hok hrd
     go_upto_region 10 with (fail)
     go_cut [10] from 40 to 49 (fun v wc => KcRel mode W w gC p B al nl ss v wc)
     case first =>
       have hal := HAL.out
       subst hal
       have hcl : ∀ u, Gr wr u → u.cell? ⟨bq, oq + j, none⟩ = some (.slice s.a s.n s.c) := fun u hu => hu.cell HCE.out
       refine SchedT.wp_region_sched (fun _ => True) [] [] [5, 6, 7, 8, 9, 10, 11] false (fun _ _ => trivial) (by kernel_rfl) (by kernel_rfl) ?_
       repeat (first | ((with_reducible refine Sched2.walk1_ord ?_ ?_); (focus rfl)) | ((with_reducible refine Sched2.walk1_no ?_ ?_ ?_ (fun K hK => ?_)); (focus rfl); (focus rfl); (focus rfl); simp only [Act.put, zqa, zqb, zqc]; refine hK _ ?_; clear hK K) | ((with_reducible refine Sched2.walk1_gr ?_ ?_ ?_ ?_ (fun K hK => ?_)); (focus rfl); (focus rfl); (focus rfl); (focus rfl); apply Exists.intro; refine ⟨fun w1 hw1 => ?_, ?_⟩; (focus (go_simp; (try go_ints); (try (simp only [IntWalk.iteOmega]; go_simp)); first | done | fail | (with_reducible rfl) | (with_reducible exact ⟨rfl, rfl⟩))); simp only [Act.put, zqa, zqb, zqc]; refine hK _ ?_; clear hK K) | ((with_reducible refine Sched2.walk1_late ?_ ?_ ?_ ?_ (fun K hK => ?_)); (focus rfl); (focus rfl); (focus rfl); (focus rfl); apply Exists.intro; refine ⟨fun w1 hw1 => ?_, ?_⟩; (focus (go_simp; (try go_ints); (try (simp only [IntWalk.iteOmega]; go_simp)); first | done | fail | (with_reducible rfl) | (with_reducible exact ⟨rfl, rfl⟩))); simp only [Act.put, zqa, zqb, zqc]; refine hK _ ?_; clear hK K) | (refine Sched2.walk1_box rfl rfl rfl ?_; apply Exists.intro; refine ⟨fun w1 hw1 => ?_, ?_⟩; (focus (go_simp; exact ⟨Gr.alloc _ _, rfl, by simp, heap_alloc_new _ _⟩))))
       (with_reducible refine Sched2.walk1_gr ?_ ?_ ?_ ?_ (fun K hK => ?_)); (focus rfl); (focus rfl); (focus rfl); (focus rfl)
       refine ⟨CVal mode W a 16 c, fun w1 hw1 => Sched2.gq_load_mid 24 _ rfl gC 0 rfl [.int .i64 mode, .int .i64 W, .slice a 16 c] _ (CBlk.rng (HC.out.kept hw1) 0 _ (fun j v hv => by rw [Nat.zero_add]; exact hv)) Tryd.underlying24 rfl (by kernel_rfl), ?_⟩
       simp only [Act.put, zqa, zqb, zqc]
       refine hK _ ?_
       clear hK K
       repeat (first | ((with_reducible refine Sched2.walk1_ord ?_ ?_); (focus rfl)) | ((with_reducible refine Sched2.walk1_no ?_ ?_ ?_ (fun K hK => ?_)); (focus rfl); (focus rfl); (focus rfl); simp only [Act.put, zqa, zqb, zqc]; refine hK _ ?_; clear hK K) | ((with_reducible refine Sched2.walk1_gr ?_ ?_ ?_ ?_ (fun K hK => ?_)); (focus rfl); (focus rfl); (focus rfl); (focus rfl); apply Exists.intro; refine ⟨fun w1 hw1 => ?_, ?_⟩; (focus (go_simp; (try go_ints); (try (simp only [IntWalk.iteOmega]; go_simp)); first | done | fail | (with_reducible rfl) | (with_reducible exact ⟨rfl, rfl⟩))); simp only [Act.put, zqa, zqb, zqc]; refine hK _ ?_; clear hK K) | ((with_reducible refine Sched2.walk1_late ?_ ?_ ?_ ?_ (fun K hK => ?_)); (focus rfl); (focus rfl); (focus rfl); (focus rfl); apply Exists.intro; refine ⟨fun w1 hw1 => ?_, ?_⟩; (focus (go_simp; (try go_ints); (try (simp only [IntWalk.iteOmega]; go_simp)); first | done | fail | (with_reducible rfl) | (with_reducible exact ⟨rfl, rfl⟩))); simp only [Act.put, zqa, zqb, zqc]; refine hK _ ?_; clear hK K) | (refine Sched2.walk1_box rfl rfl rfl ?_; apply Exists.intro; refine ⟨fun w1 hw1 => ?_, ?_⟩; (focus (go_simp; exact ⟨Gr.alloc _ _, rfl, by simp, heap_alloc_new _ _⟩))))
       (with_reducible refine Sched2.walk1_nil ?_)
       intro wq hwq
       dsimp only [Sched.EndN, List.nil_append, List.cons_append, Act.put, List.length_cons, List.length_nil]
       (try simp only [zqa, zqb, zqc])
       have HCq := zqd (HC.out.kept hwq)
       have HRq := zqd (HR.out.kept hwq)
       have HLq := zqd (HL.out.kept hwq)
       have HDq := zqd (HD.out.kept hwq (by simp))
       have HGq := zqd (HG.out.trans hwq)
       have HRDq := zqd (HRD.out.kept hwq)
       have hsq := hwq.size
       clear hwq hcl
       refine SchedT.node [5] (by kernel_rfl) ?_
       refine ⟨?_, trivial⟩
       refine SchedT.go _ rfl rfl rfl (fun K hK => ?_)
       go_simp
       go_at_call 14
       refine (compress_any mode W a 16 c L s.a s.n s.c xs wq HRq.out HV.out HRDq.out HOK.out.1 HOK.out.2.1 HOK.out.2.2).mono ?_
       rintro e w5 ⟨a5, c5, M5, b5, n5, k5, s5, rfl, hc5, hv5, hn5, hn6, _, hg5, hab, _⟩
       have HB5 := zqd (HCq.out.kept hg5)
       have HC5 := zqd hc5
       have HV5 := zqd hv5
       have HAW5 := zqd (hab.away (g := gC) (p := p) (by omega) (by omega))
       have HL5 := zqd (HLq.out.kept hg5)
       have HD5 := zqd (HDq.out.kept hg5 (by simp))
       have HG5 := zqd (HGq.out.trans hg5)
       clear hc5 hv5 hg5 hab
       have HFIN := zqd (show ∀ w9, CBlk gC 24 [.int .i64 mode, .int .i64 W, .slice a5 16 c5] w9 → w5.setCells gC 0 [.int .i64 mode, .int .i64 W, .slice a5 16 c5] = w9 → KpSt mode W w gC p B _ nl ss w9 from fun w9 hb9 he9 => by
         have hgc9 : w5.grownBy w9 (some gC) := by rw [← he9]; exact grown_setCells gC _ 0 w5
         exact ⟨a5, c5, M5, hb9, rdc_away HC5.out HAW5.out hgc9 (.inl rfl), HV5.out, HAW5.out, HL5.out.but hgc9 hgB, HD5.out.kept hgc9 (fun g e => by injection e with e; omega), gr_die HG5.out hgc9 hgw⟩)
       refine ⟨_, rfl, ?_⟩
       refine hK _ _ (.inr trivial) ?_
       clear hK K
       (try dsimp only [Act.put])
       (try simp only [List.setIfInBounds_toArray])
       (try simp only [List.set_cons_zero, List.set_cons_succ])
       refine SchedT.node [6] (by kernel_rfl) ?_
       refine ⟨?_, trivial⟩
       refine SchedT.go _ rfl rfl rfl (fun K hK => ?_)
       go_simp
       refine hK _ _ (.inr trivial) ?_
       clear hK K
       (try dsimp only [Act.put])
       (try simp only [List.setIfInBounds_toArray])
       (try simp only [List.set_cons_zero, List.set_cons_succ])
       refine SchedT.node [7, 8, 9] (by kernel_rfl) ?_
       refine ⟨?_, ?_, ?_, trivial⟩
       · refine SchedT.go _ rfl rfl rfl (fun K hK => ?_)
         go_simp
         refine hK _ _ (.inr trivial) ?_
         clear hK K
         (try dsimp only [Act.put])
         (try simp only [List.setIfInBounds_toArray])
         (try simp only [List.set_cons_zero, List.set_cons_succ])
         refine SchedT.node [8, 9, 10] (by kernel_rfl) ?_
         refine ⟨?_, ?_, ?_, trivial⟩
         · refine SchedT.go _ rfl rfl rfl (fun K hK => ?_)
           go_simp
           refine hK _ _ (.inr trivial) ?_
           clear hK K
           (try dsimp only [Act.put])
           (try simp only [List.setIfInBounds_toArray])
           (try simp only [List.set_cons_zero, List.set_cons_succ])
           refine SchedT.node [9, 10] (by kernel_rfl) ?_
           refine ⟨?_, ?_, trivial⟩
           · refine SchedT.go _ rfl rfl rfl (fun K hK => ?_)
             go_simp
             refine hK _ _ (.inr trivial) ?_
             clear hK K
             (try dsimp only [Act.put])
             (try simp only [List.setIfInBounds_toArray])
             (try simp only [List.set_cons_zero, List.set_cons_succ])
             refine SchedT.node [10] (by kernel_rfl) ?_
             refine ⟨?_, trivial⟩
             refine SchedT.go _ rfl rfl rfl (fun K hK => ?_)
             refine cblk_tstore 24 _ _ rfl gC [.int .i64 mode, .int .i64 W, .slice a5 16 c5] HB5.out rfl rfl rfl (by kernel_rfl) rfl ?_
             intro w9 hb9 he9
             have HST := zqd (HFIN.out w9 hb9 he9)
             clear hb9 he9
             refine hK _ _ (.inr trivial) ?_
             clear hK K
             (try dsimp only [Act.put])
             (try simp only [List.setIfInBounds_toArray])
             (try simp only [List.set_cons_zero, List.set_cons_succ])
             refine SchedT.node [11] (by kernel_rfl) ?_
             refine ⟨?_, trivial⟩
             refine SchedT.go _ rfl rfl rfl (fun K hK => ?_)
             go_simp
             refine hK _ _ (.inr trivial) ?_
             clear hK K
             (try dsimp only [Act.put])
             (try simp only [List.setIfInBounds_toArray])
             (try simp only [List.set_cons_zero, List.set_cons_succ])
             refine SchedT.nil ?_
             go_wp2_with fail
             go_meet
             exact ⟨b5, n5, k5, rfl, hn5, by omega, HST.out⟩
           · refine SchedT.go _ rfl rfl rfl (fun K hK => ?_)
             refine cblk_tstore 24 _ _ rfl gC [.int .i64 mode, .int .i64 W, .slice a5 16 c5] HB5.out rfl rfl rfl (by kernel_rfl) rfl ?_
             intro w9 hb9 he9
             have HST := zqd (HFIN.out w9 hb9 he9)
             clear hb9 he9
             refine hK _ _ (.inr trivial) ?_
             clear hK K
             (try dsimp only [Act.put])
             (try simp only [List.setIfInBounds_toArray])
             (try simp only [List.set_cons_zero, List.set_cons_succ])
             refine SchedT.node [9, 11] (by kernel_rfl) ?_
             refine ⟨?_, ?_, trivial⟩
             · refine SchedT.go _ rfl rfl rfl (fun K hK => ?_)
               go_simp
               refine hK _ _ (.inr trivial) ?_
               clear hK K
               (try dsimp only [Act.put])
               (try simp only [List.setIfInBounds_toArray])
               (try simp only [List.set_cons_zero, List.set_cons_succ])
               refine SchedT.node [11] (by kernel_rfl) ?_
               refine ⟨?_, trivial⟩
               refine SchedT.go _ rfl rfl rfl (fun K hK => ?_)
               go_simp
               refine hK _ _ (.inr trivial) ?_
               clear hK K
               (try dsimp only [Act.put])
               (try simp only [List.setIfInBounds_toArray])
               (try simp only [List.set_cons_zero, List.set_cons_succ])
               refine SchedT.nil ?_
               go_wp2_with fail
               go_meet
               exact ⟨b5, n5, k5, rfl, hn5, by omega, HST.out⟩
             · refine SchedT.go _ rfl rfl rfl (fun K hK => ?_)
               go_simp
               refine hK _ _ (.inr trivial) ?_
               clear hK K
               (try dsimp only [Act.put])
               (try simp only [List.setIfInBounds_toArray])
               (try simp only [List.set_cons_zero, List.set_cons_succ])
               refine SchedT.node [9] (by kernel_rfl) ?_
               refine ⟨?_, trivial⟩
               refine SchedT.go _ rfl rfl rfl (fun K hK => ?_)
               go_simp
               refine hK _ _ (.inr trivial) ?_
               clear hK K
               (try dsimp only [Act.put])
               (try simp only [List.setIfInBounds_toArray])
               (try simp only [List.set_cons_zero, List.set_cons_succ])
               refine SchedT.nil ?_
               go_wp2_with fail
               go_meet
               exact ⟨b5, n5, k5, rfl, hn5, by omega, HST.out⟩
         · refine SchedT.go _ rfl rfl rfl (fun K hK => ?_)
           go_simp
           refine hK _ _ (.inr trivial) ?_
           clear hK K
           (try dsimp only [Act.put])
           (try simp only [List.setIfInBounds_toArray])
           (try simp only [List.set_cons_zero, List.set_cons_succ])
           refine SchedT.node [8, 10] (by kernel_rfl) ?_
           refine ⟨?_, ?_, trivial⟩
           · refine SchedT.go _ rfl rfl rfl (fun K hK => ?_)
             go_simp
             refine hK _ _ (.inr trivial) ?_
             clear hK K
             (try dsimp only [Act.put])
             (try simp only [List.setIfInBounds_toArray])
             (try simp only [List.set_cons_zero, List.set_cons_succ])
             refine SchedT.node [10] (by kernel_rfl) ?_
             refine ⟨?_, trivial⟩
             refine SchedT.go _ rfl rfl rfl (fun K hK => ?_)
             refine cblk_tstore 24 _ _ rfl gC [.int .i64 mode, .int .i64 W, .slice a5 16 c5] HB5.out rfl rfl rfl (by kernel_rfl) rfl ?_
             intro w9 hb9 he9
             have HST := zqd (HFIN.out w9 hb9 he9)
             clear hb9 he9
             refine hK _ _ (.inr trivial) ?_
             clear hK K
             (try dsimp only [Act.put])
             (try simp only [List.setIfInBounds_toArray])
             (try simp only [List.set_cons_zero, List.set_cons_succ])
             refine SchedT.node [11] (by kernel_rfl) ?_
             refine ⟨?_, trivial⟩
             refine SchedT.go _ rfl rfl rfl (fun K hK => ?_)
             go_simp
             refine hK _ _ (.inr trivial) ?_
             clear hK K
             (try dsimp only [Act.put])
             (try simp only [List.setIfInBounds_toArray])
             (try simp only [List.set_cons_zero, List.set_cons_succ])
             refine SchedT.nil ?_
             go_wp2_with fail
             go_meet
             exact ⟨b5, n5, k5, rfl, hn5, by omega, HST.out⟩
           · refine SchedT.go _ rfl rfl rfl (fun K hK => ?_)
             refine cblk_tstore 24 _ _ rfl gC [.int .i64 mode, .int .i64 W, .slice a5 16 c5] HB5.out rfl rfl rfl (by kernel_rfl) rfl ?_
             intro w9 hb9 he9
             have HST := zqd (HFIN.out w9 hb9 he9)
             clear hb9 he9
             refine hK _ _ (.inr trivial) ?_
             clear hK K
             (try dsimp only [Act.put])
             (try simp only [List.setIfInBounds_toArray])
             (try simp only [List.set_cons_zero, List.set_cons_succ])
             refine SchedT.node [8] (by kernel_rfl) ?_
             refine ⟨?_, trivial⟩
             refine SchedT.go _ rfl rfl rfl (fun K hK => ?_)
             go_simp
             refine hK _ _ (.inr trivial) ?_
             clear hK K
             (try dsimp only [Act.put])
             (try simp only [List.setIfInBounds_toArray])
             (try simp only [List.set_cons_zero, List.set_cons_succ])
             refine SchedT.node [11] (by kernel_rfl) ?_
             refine ⟨?_, trivial⟩
             refine SchedT.go _ rfl rfl rfl (fun K hK => ?_)
             go_simp
             refine hK _ _ (.inr trivial) ?_
             clear hK K
             (try dsimp only [Act.put])
             (try simp only [List.setIfInBounds_toArray])
             (try simp only [List.set_cons_zero, List.set_cons_succ])
             refine SchedT.nil ?_
             go_wp2_with fail
             go_meet
             exact ⟨b5, n5, k5, rfl, hn5, by omega, HST.out⟩
         · refine SchedT.go _ rfl rfl rfl (fun K hK => ?_)
           refine cblk_tstore 24 _ _ rfl gC [.int .i64 mode, .int .i64 W, .slice a5 16 c5] HB5.out rfl rfl rfl (by kernel_rfl) rfl ?_
           intro w9 hb9 he9
           have HST := zqd (HFIN.out w9 hb9 he9)
           clear hb9 he9
           refine hK _ _ (.inr trivial) ?_
           clear hK K
           (try dsimp only [Act.put])
           (try simp only [List.setIfInBounds_toArray])
           (try simp only [List.set_cons_zero, List.set_cons_succ])
           refine SchedT.node [8, 9] (by kernel_rfl) ?_
           refine ⟨?_, ?_, trivial⟩
           · refine SchedT.go _ rfl rfl rfl (fun K hK => ?_)
             go_simp
             refine hK _ _ (.inr trivial) ?_
             clear hK K
             (try dsimp only [Act.put])
             (try simp only [List.setIfInBounds_toArray])
             (try simp only [List.set_cons_zero, List.set_cons_succ])
             refine SchedT.node [9, 11] (by kernel_rfl) ?_
             refine ⟨?_, ?_, trivial⟩
             · refine SchedT.go _ rfl rfl rfl (fun K hK => ?_)
               go_simp
               refine hK _ _ (.inr trivial) ?_
               clear hK K
               (try dsimp only [Act.put])
               (try simp only [List.setIfInBounds_toArray])
               (try simp only [List.set_cons_zero, List.set_cons_succ])
               refine SchedT.node [11] (by kernel_rfl) ?_
               refine ⟨?_, trivial⟩
               refine SchedT.go _ rfl rfl rfl (fun K hK => ?_)
               go_simp
               refine hK _ _ (.inr trivial) ?_
               clear hK K
               (try dsimp only [Act.put])
               (try simp only [List.setIfInBounds_toArray])
               (try simp only [List.set_cons_zero, List.set_cons_succ])
               refine SchedT.nil ?_
               go_wp2_with fail
               go_meet
               exact ⟨b5, n5, k5, rfl, hn5, by omega, HST.out⟩
             · refine SchedT.go _ rfl rfl rfl (fun K hK => ?_)
               go_simp
               refine hK _ _ (.inr trivial) ?_
               clear hK K
               (try dsimp only [Act.put])
               (try simp only [List.setIfInBounds_toArray])
               (try simp only [List.set_cons_zero, List.set_cons_succ])
               refine SchedT.node [9] (by kernel_rfl) ?_
               refine ⟨?_, trivial⟩
               refine SchedT.go _ rfl rfl rfl (fun K hK => ?_)
               go_simp
               refine hK _ _ (.inr trivial) ?_
               clear hK K
               (try dsimp only [Act.put])
               (try simp only [List.setIfInBounds_toArray])
               (try simp only [List.set_cons_zero, List.set_cons_succ])
               refine SchedT.nil ?_
               go_wp2_with fail
               go_meet
               exact ⟨b5, n5, k5, rfl, hn5, by omega, HST.out⟩
           · refine SchedT.go _ rfl rfl rfl (fun K hK => ?_)
             go_simp
             refine hK _ _ (.inr trivial) ?_
             clear hK K
             (try dsimp only [Act.put])
             (try simp only [List.setIfInBounds_toArray])
             (try simp only [List.set_cons_zero, List.set_cons_succ])
             refine SchedT.node [8] (by kernel_rfl) ?_
             refine ⟨?_, trivial⟩
             refine SchedT.go _ rfl rfl rfl (fun K hK => ?_)
             go_simp
             refine hK _ _ (.inr trivial) ?_
             clear hK K
             (try dsimp only [Act.put])
             (try simp only [List.setIfInBounds_toArray])
             (try simp only [List.set_cons_zero, List.set_cons_succ])
             refine SchedT.node [11] (by kernel_rfl) ?_
             refine ⟨?_, trivial⟩
             refine SchedT.go _ rfl rfl rfl (fun K hK => ?_)
             go_simp
             refine hK _ _ (.inr trivial) ?_
             clear hK K
             (try dsimp only [Act.put])
             (try simp only [List.setIfInBounds_toArray])
             (try simp only [List.set_cons_zero, List.set_cons_succ])
             refine SchedT.nil ?_
             go_wp2_with fail
             go_meet
             exact ⟨b5, n5, k5, rfl, hn5, by omega, HST.out⟩
       · refine SchedT.go _ rfl rfl rfl (fun K hK => ?_)
         go_simp
         refine hK _ _ (.inr trivial) ?_
         clear hK K
         (try dsimp only [Act.put])
         (try simp only [List.setIfInBounds_toArray])
         (try simp only [List.set_cons_zero, List.set_cons_succ])
         refine SchedT.node [7, 9] (by kernel_rfl) ?_
         refine ⟨?_, ?_, trivial⟩
         · refine SchedT.go _ rfl rfl rfl (fun K hK => ?_)
           go_simp
           refine hK _ _ (.inr trivial) ?_
           clear hK K
           (try dsimp only [Act.put])
           (try simp only [List.setIfInBounds_toArray])
           (try simp only [List.set_cons_zero, List.set_cons_succ])
           refine SchedT.node [9, 10] (by kernel_rfl) ?_
           refine ⟨?_, ?_, trivial⟩
           · refine SchedT.go _ rfl rfl rfl (fun K hK => ?_)
             go_simp
             refine hK _ _ (.inr trivial) ?_
             clear hK K
             (try dsimp only [Act.put])
             (try simp only [List.setIfInBounds_toArray])
             (try simp only [List.set_cons_zero, List.set_cons_succ])
             refine SchedT.node [10] (by kernel_rfl) ?_
             refine ⟨?_, trivial⟩
             refine SchedT.go _ rfl rfl rfl (fun K hK => ?_)
             refine cblk_tstore 24 _ _ rfl gC [.int .i64 mode, .int .i64 W, .slice a5 16 c5] HB5.out rfl rfl rfl (by kernel_rfl) rfl ?_
             intro w9 hb9 he9
             have HST := zqd (HFIN.out w9 hb9 he9)
             clear hb9 he9
             refine hK _ _ (.inr trivial) ?_
             clear hK K
             (try dsimp only [Act.put])
             (try simp only [List.setIfInBounds_toArray])
             (try simp only [List.set_cons_zero, List.set_cons_succ])
             refine SchedT.node [11] (by kernel_rfl) ?_
             refine ⟨?_, trivial⟩
             refine SchedT.go _ rfl rfl rfl (fun K hK => ?_)
             go_simp
             refine hK _ _ (.inr trivial) ?_
             clear hK K
             (try dsimp only [Act.put])
             (try simp only [List.setIfInBounds_toArray])
             (try simp only [List.set_cons_zero, List.set_cons_succ])
             refine SchedT.nil ?_
             go_wp2_with fail
             go_meet
             exact ⟨b5, n5, k5, rfl, hn5, by omega, HST.out⟩
           · refine SchedT.go _ rfl rfl rfl (fun K hK => ?_)
             refine cblk_tstore 24 _ _ rfl gC [.int .i64 mode, .int .i64 W, .slice a5 16 c5] HB5.out rfl rfl rfl (by kernel_rfl) rfl ?_
             intro w9 hb9 he9
             have HST := zqd (HFIN.out w9 hb9 he9)
             clear hb9 he9
             refine hK _ _ (.inr trivial) ?_
             clear hK K
             (try dsimp only [Act.put])
             (try simp only [List.setIfInBounds_toArray])
             (try simp only [List.set_cons_zero, List.set_cons_succ])
             refine SchedT.node [9, 11] (by kernel_rfl) ?_
             refine ⟨?_, ?_, trivial⟩
             · refine SchedT.go _ rfl rfl rfl (fun K hK => ?_)
               go_simp
               refine hK _ _ (.inr trivial) ?_
               clear hK K
               (try dsimp only [Act.put])
               (try simp only [List.setIfInBounds_toArray])
               (try simp only [List.set_cons_zero, List.set_cons_succ])
               refine SchedT.node [11] (by kernel_rfl) ?_
               refine ⟨?_, trivial⟩
               refine SchedT.go _ rfl rfl rfl (fun K hK => ?_)
               go_simp
               refine hK _ _ (.inr trivial) ?_
               clear hK K
               (try dsimp only [Act.put])
               (try simp only [List.setIfInBounds_toArray])
               (try simp only [List.set_cons_zero, List.set_cons_succ])
               refine SchedT.nil ?_
               go_wp2_with fail
               go_meet
               exact ⟨b5, n5, k5, rfl, hn5, by omega, HST.out⟩
             · refine SchedT.go _ rfl rfl rfl (fun K hK => ?_)
               go_simp
               refine hK _ _ (.inr trivial) ?_
               clear hK K
               (try dsimp only [Act.put])
               (try simp only [List.setIfInBounds_toArray])
               (try simp only [List.set_cons_zero, List.set_cons_succ])
               refine SchedT.node [9] (by kernel_rfl) ?_
               refine ⟨?_, trivial⟩
               refine SchedT.go _ rfl rfl rfl (fun K hK => ?_)
               go_simp
               refine hK _ _ (.inr trivial) ?_
               clear hK K
               (try dsimp only [Act.put])
               (try simp only [List.setIfInBounds_toArray])
               (try simp only [List.set_cons_zero, List.set_cons_succ])
               refine SchedT.nil ?_
               go_wp2_with fail
               go_meet
               exact ⟨b5, n5, k5, rfl, hn5, by omega, HST.out⟩
         · refine SchedT.go _ rfl rfl rfl (fun K hK => ?_)
           go_simp
           refine hK _ _ (.inr trivial) ?_
           clear hK K
           (try dsimp only [Act.put])
           (try simp only [List.setIfInBounds_toArray])
           (try simp only [List.set_cons_zero, List.set_cons_succ])
           refine SchedT.node [7] (by kernel_rfl) ?_
           refine ⟨?_, trivial⟩
           refine SchedT.go _ rfl rfl rfl (fun K hK => ?_)
           go_simp
           refine hK _ _ (.inr trivial) ?_
           clear hK K
           (try dsimp only [Act.put])
           (try simp only [List.setIfInBounds_toArray])
           (try simp only [List.set_cons_zero, List.set_cons_succ])
           refine SchedT.node [10] (by kernel_rfl) ?_
           refine ⟨?_, trivial⟩
           refine SchedT.go _ rfl rfl rfl (fun K hK => ?_)
           refine cblk_tstore 24 _ _ rfl gC [.int .i64 mode, .int .i64 W, .slice a5 16 c5] HB5.out rfl rfl rfl (by kernel_rfl) rfl ?_
           intro w9 hb9 he9
           have HST := zqd (HFIN.out w9 hb9 he9)
           clear hb9 he9
           refine hK _ _ (.inr trivial) ?_
           clear hK K
           (try dsimp only [Act.put])
           (try simp only [List.setIfInBounds_toArray])
           (try simp only [List.set_cons_zero, List.set_cons_succ])
           refine SchedT.node [11] (by kernel_rfl) ?_
           refine ⟨?_, trivial⟩
           refine SchedT.go _ rfl rfl rfl (fun K hK => ?_)
           go_simp
           refine hK _ _ (.inr trivial) ?_
           clear hK K
           (try dsimp only [Act.put])
           (try simp only [List.setIfInBounds_toArray])
           (try simp only [List.set_cons_zero, List.set_cons_succ])
           refine SchedT.nil ?_
           go_wp2_with fail
           go_meet
           exact ⟨b5, n5, k5, rfl, hn5, by omega, HST.out⟩
       · refine SchedT.go _ rfl rfl rfl (fun K hK => ?_)
         go_simp
         refine hK _ _ (.inr trivial) ?_
         clear hK K
         (try dsimp only [Act.put])
         (try simp only [List.setIfInBounds_toArray])
         (try simp only [List.set_cons_zero, List.set_cons_succ])
         refine SchedT.node [7, 8] (by kernel_rfl) ?_
         refine ⟨?_, ?_, trivial⟩
         · refine SchedT.go _ rfl rfl rfl (fun K hK => ?_)
           go_simp
           refine hK _ _ (.inr trivial) ?_
           clear hK K
           (try dsimp only [Act.put])
           (try simp only [List.setIfInBounds_toArray])
           (try simp only [List.set_cons_zero, List.set_cons_succ])
           refine SchedT.node [8, 10] (by kernel_rfl) ?_
           refine ⟨?_, ?_, trivial⟩
           · refine SchedT.go _ rfl rfl rfl (fun K hK => ?_)
             go_simp
             refine hK _ _ (.inr trivial) ?_
             clear hK K
             (try dsimp only [Act.put])
             (try simp only [List.setIfInBounds_toArray])
             (try simp only [List.set_cons_zero, List.set_cons_succ])
             refine SchedT.node [10] (by kernel_rfl) ?_
             refine ⟨?_, trivial⟩
             refine SchedT.go _ rfl rfl rfl (fun K hK => ?_)
             refine cblk_tstore 24 _ _ rfl gC [.int .i64 mode, .int .i64 W, .slice a5 16 c5] HB5.out rfl rfl rfl (by kernel_rfl) rfl ?_
             intro w9 hb9 he9
             have HST := zqd (HFIN.out w9 hb9 he9)
             clear hb9 he9
             refine hK _ _ (.inr trivial) ?_
             clear hK K
             (try dsimp only [Act.put])
             (try simp only [List.setIfInBounds_toArray])
             (try simp only [List.set_cons_zero, List.set_cons_succ])
             refine SchedT.node [11] (by kernel_rfl) ?_
             refine ⟨?_, trivial⟩
             refine SchedT.go _ rfl rfl rfl (fun K hK => ?_)
             go_simp
             refine hK _ _ (.inr trivial) ?_
             clear hK K
             (try dsimp only [Act.put])
             (try simp only [List.setIfInBounds_toArray])
             (try simp only [List.set_cons_zero, List.set_cons_succ])
             refine SchedT.nil ?_
             go_wp2_with fail
             go_meet
             exact ⟨b5, n5, k5, rfl, hn5, by omega, HST.out⟩
           · refine SchedT.go _ rfl rfl rfl (fun K hK => ?_)
             refine cblk_tstore 24 _ _ rfl gC [.int .i64 mode, .int .i64 W, .slice a5 16 c5] HB5.out rfl rfl rfl (by kernel_rfl) rfl ?_
             intro w9 hb9 he9
             have HST := zqd (HFIN.out w9 hb9 he9)
             clear hb9 he9
             refine hK _ _ (.inr trivial) ?_
             clear hK K
             (try dsimp only [Act.put])
             (try simp only [List.setIfInBounds_toArray])
             (try simp only [List.set_cons_zero, List.set_cons_succ])
             refine SchedT.node [8] (by kernel_rfl) ?_
             refine ⟨?_, trivial⟩
             refine SchedT.go _ rfl rfl rfl (fun K hK => ?_)
             go_simp
             refine hK _ _ (.inr trivial) ?_
             clear hK K
             (try dsimp only [Act.put])
             (try simp only [List.setIfInBounds_toArray])
             (try simp only [List.set_cons_zero, List.set_cons_succ])
             refine SchedT.node [11] (by kernel_rfl) ?_
             refine ⟨?_, trivial⟩
             refine SchedT.go _ rfl rfl rfl (fun K hK => ?_)
             go_simp
             refine hK _ _ (.inr trivial) ?_
             clear hK K
             (try dsimp only [Act.put])
             (try simp only [List.setIfInBounds_toArray])
             (try simp only [List.set_cons_zero, List.set_cons_succ])
             refine SchedT.nil ?_
             go_wp2_with fail
             go_meet
             exact ⟨b5, n5, k5, rfl, hn5, by omega, HST.out⟩
         · refine SchedT.go _ rfl rfl rfl (fun K hK => ?_)
           go_simp
           refine hK _ _ (.inr trivial) ?_
           clear hK K
           (try dsimp only [Act.put])
           (try simp only [List.setIfInBounds_toArray])
           (try simp only [List.set_cons_zero, List.set_cons_succ])
           refine SchedT.node [7] (by kernel_rfl) ?_
           refine ⟨?_, trivial⟩
           refine SchedT.go _ rfl rfl rfl (fun K hK => ?_)
           go_simp
           refine hK _ _ (.inr trivial) ?_
           clear hK K
           (try dsimp only [Act.put])
           (try simp only [List.setIfInBounds_toArray])
           (try simp only [List.set_cons_zero, List.set_cons_succ])
           refine SchedT.node [10] (by kernel_rfl) ?_
           refine ⟨?_, trivial⟩
           refine SchedT.go _ rfl rfl rfl (fun K hK => ?_)
           refine cblk_tstore 24 _ _ rfl gC [.int .i64 mode, .int .i64 W, .slice a5 16 c5] HB5.out rfl rfl rfl (by kernel_rfl) rfl ?_
           intro w9 hb9 he9
           have HST := zqd (HFIN.out w9 hb9 he9)
           clear hb9 he9
           refine hK _ _ (.inr trivial) ?_
           clear hK K
           (try dsimp only [Act.put])
           (try simp only [List.setIfInBounds_toArray])
           (try simp only [List.set_cons_zero, List.set_cons_succ])
           refine SchedT.node [11] (by kernel_rfl) ?_
           refine ⟨?_, trivial⟩
           refine SchedT.go _ rfl rfl rfl (fun K hK => ?_)
           go_simp
           refine hK _ _ (.inr trivial) ?_
           clear hK K
           (try dsimp only [Act.put])
           (try simp only [List.setIfInBounds_toArray])
           (try simp only [List.set_cons_zero, List.set_cons_succ])
           refine SchedT.nil ?_
           go_wp2_with fail
           go_meet
           exact ⟨b5, n5, k5, rfl, hn5, by omega, HST.out⟩
     obtain ⟨b, bn, bc, rfl, hb1, hb2, hk⟩ := hcut
     obtain ⟨w10, hw10⟩ : ∃ y, y = wc := ⟨_, rfl⟩
     rw [← hw10] at hk ⊢
     have HK10 := zqd hk
     have hbz : ((bn : Int) == 0) = false := by simp; omega
     have HBZ := zqd hbz
     clear hw10 hk hbz wc HK8 HC HR HV HL HD HG HAL HCE HOK HRD
     go_wp2_with fail
     refine (next_any p 2 w10 (kp_die (HK10).out) (by omega) (by omega)).mono ?_
     rintro e w11 ⟨f1, rfl, hv0, hv1, hdd, hgg⟩
     have HK11 := zqd ((HK10).out.dice hdd hgg hpB hpw hgp)
     clear hgg hdd
     go_wp2_with fail
     refine (next_any p 3 w11 (kp_die (HK11).out) (by omega) (by omega)).mono ?_
     rintro e w12 ⟨f2, rfl, hv0, hv1, hdd, hgg⟩
     have HK12 := zqd ((HK11).out.dice hdd hgg hpB hpw hgp)
     clear hgg hdd
     go_wp2_with fail
     refine (next_any p 65536 w12 (kp_die (HK12).out) (by omega) (by omega)).mono ?_
     rintro e w13 ⟨f3, rfl, hv0, hv1, hdd, hgg⟩
     have HK13 := zqd ((HK12).out.dice hdd hgg hpB hpw hgp)
     clear hgg hdd
     obtain ⟨k1, rfl⟩ : ∃ k1 : Nat, f1 = k1 := ⟨f1.toNat, by omega⟩
     have hs13 := (kp_die HK13.out).lt
     have hc13 : gC < w13.heap.size := by obtain ⟨_, _, _, h1, _⟩ := HK13.out; exact h1.lt
     obtain ⟨wz, hwz⟩ : ∃ y, y = (w13).alloc (.cells #[.int .i64 0, .int .i64 0, .int .i64 0] 26) := ⟨_, rfl⟩
     have HZZ := zqd (show CBlk (w13).heap.size 26 [.int .i64 0, .int .i64 0, .int .i64 0] wz by rw [hwz]; exact CBlk.new _ _ _)
     have HGZ := zqd (show Gr (w13) wz by rw [hwz]; exact Gr.alloc _ _)
     go_upto_region 12 with (first | rw [← hwz]; refine cblk_store rfl 26 _ _ rfl (w13).heap.size [.int .i64 (k1 : Int), .int .i64 f2, .int .i64 f3] HZZ.out rfl rfl rfl (by kernel_rfl) rfl ?_; intro w14 hb9 he9; have HF14 := zqd hb9; have HE14 := zqd (show Gr (w13) w14 by rw [← he9]; exact gr_setCells HGZ.out (Nat.le_refl _) _ _); clear hb9 he9)
     obtain ⟨gF, hgg⟩ : ∃ g, (w13).heap.size = g := ⟨_, rfl⟩
     rw [hgg] at HF14
     rw [hgg]
     have HSZgF := zqd hgg
     clear hwz HZZ HGZ hgg
     have HK14 := zqd (HK13.out.gr HE14.out)
     have hpF : p < gF := by have := HSZgF.out; omega
     have HGF := zqd (show gC < gF by have := HSZgF.out; omega)
     clear HK10 HK11 HK12 HK13 HE14
     go_wp2_with fail
     refine (one_any p 2 w14 (kp_die HK14.out) (by omega) (by omega)).mono ?_
     rintro e w15 ⟨b3, rfl, hd15, hg15⟩
     have HF15 := zqd (HF14.out.but hg15 (by intro e; injection e with e; omega))
     have HK15 := zqd (HK14.out.dice hd15 hg15 hpB hpw hgp)
     clear hd15 hg15 HK14 HF14
     cases b3
     · have hbz := HBZ.out
       go_wp2_with fail
       go_roundw
       case rel => exact ⟨j + 1, by omega, by go_num, HK15.out⟩
       case measure => (simp [intOf] <;> omega)
     obtain ⟨a, c, L, h1, h2, h3, h4, h5, h6, h7⟩ := HK15.out
     have HC := zqd h1
     have HR := zqd h2
     have HV := zqd h3
     have HA := zqd h4
     have HL := zqd h5
     have HD := zqd h6
     have HG := zqd h7
     have hlc := h1.lt
     have hlp := h6.lt
     clear h1 h2 h3 h4 h5 h6 h7
     go_wp2_with (first | (refine cblk_load rfl 24 _ rfl gC rfl HC.out Tryd.underlying24 rfl (by kernel_rfl) ?_) | (refine cblk_load rfl 26 _ rfl gF rfl HF15.out Tryd.underlying26 rfl (by kernel_rfl) ?_))
     refine (apply2_any mode W a 16 c L k1 f2 f3 w15 HR.out).mono ?_
     rintro e w16 ⟨hg16, hcase⟩
     have HF16 := zqd (HF15.out.kept hg16)
     have HC16 := zqd (HC.out.kept hg16)
     have HR16 := zqd (HR.out.kept hg16)
     have HL16 := zqd (HL.out.kept hg16)
     have HD16 := zqd (HD.out.kept hg16 (by simp))
     have HG16 := zqd (HG.out.trans hg16)
     clear hg16 HF15 HC HR HL HD HG
     rcases hcase with ⟨hE, a', c', M, rfl, hM, hr', hab⟩ | ⟨hE, rfl⟩
     · have HVM := zqd (apL_ok HV.out hE hM)
       have HMM := zqd hM
       have HAM := zqd (hab.away (g := gC) (p := p) hlc hlp)
       have HRM := zqd hr'
       clear hE hM hr' hab
       obtain ⟨wz, hwz⟩ : ∃ y, y = w16.alloc (.cells #[.int .i64 0, .int .i64 0, .slice none 0 0] 24) := ⟨_, rfl⟩
       have HZZ := zqd (show CBlk w16.heap.size 24 [.int .i64 0, .int .i64 0, .slice none 0 0] wz by rw [hwz]; exact CBlk.new _ _ _)
       have HGZ := zqd (show Gr w16 wz by rw [hwz]; exact Gr.alloc _ _)
       go_upto_region 14 with (first | rw [← hwz]; refine cblk_store rfl 24 _ _ rfl w16.heap.size [.int .i64 mode, .int .i64 W, .slice a' 16 c'] HZZ.out rfl rfl rfl (by kernel_rfl) rfl ?_; intro w17 hb9 he9; have HX17 := zqd hb9; have HE17 := zqd (show Gr w16 w17 by rw [← he9]; exact gr_setCells HGZ.out (Nat.le_refl _) _ _); clear hb9 he9)
       obtain ⟨gX, hgX⟩ : ∃ g, w16.heap.size = g := ⟨_, rfl⟩
       rw [hgX] at HX17
       rw [hgX]
       clear hwz HZZ HGZ hgX
       have HC17 := zqd (HC16.out.kept HE17.out)
       go_upto_region 16 with (first | (refine cblk_load rfl 24 _ rfl gX rfl HX17.out Tryd.underlying24 rfl (by kernel_rfl) ?_) | (refine cblk_store rfl 24 _ _ rfl gC [.int .i64 mode, .int .i64 W, .slice a' 16 c'] HC17.out rfl rfl rfl (by kernel_rfl) rfl ?_; intro w18 hb9 he9; have HC18 := zqd hb9; have HE18 := zqd (show w17.grownBy w18 (some gC) by rw [← he9]; exact grown_setCells gC _ 0 w17); clear hb9 he9))
       have HR18 := zqd (rdc_away (HRM.out.kept HE17.out) HAM.out HE18.out (.inl rfl))
       have HK18 := zqd (show KpSt mode W w gC p B al nl ss w18 from ⟨a', c', M, HC18.out, HR18.out, HVM.out, HAM.out, (HL16.out.kept HE17.out).but HE18.out hgB, (HD16.out.kept HE17.out (by simp)).kept HE18.out (fun g e => by injection e with e; omega), gr_die (HG16.out.trans HE17.out) HE18.out hgw⟩)
       have HF18 := zqd ((HF16.out.kept HE17.out).but HE18.out (by intro e; injection e with e; have := HGF.out; omega))
       clear HF16 HC16 HR16 HL16 HD16 HG16 HX17 HE17 HC17 HE18
       have z1 : ∀ u, Gr w18 u → u.cell? ⟨gF, 1, none⟩ = some (.int .i64 f2) := fun u hu => (HF18.out.kept hu).at 1 rfl
       have hbz := HBZ.out
       by_cases hk2 : f2 = 2
       rotate_left
       · have hk2b : (f2 == 2) = false := by simpa using hk2
         clear hk2
         refine Sched.wp_region_sched 41 [] [] (by kernel_rfl) (by kernel_rfl) ?_
         simp only [List.take_succ_cons, List.take_zero, List.drop_succ_cons, List.drop_zero]
         repeat (first | ((with_reducible refine Sched.walk1_no ?_ ?_ (fun K hK => ?_)); (focus rfl); (focus rfl); simp only [Act.put, zqa, zqb, zqc]; refine hK _ ?_; clear hK K) | ((with_reducible refine Sched.walk1_gr ?_ ?_ ?_ (fun K hK => ?_)); (focus rfl); (focus rfl); (focus rfl); apply Exists.intro; refine ⟨fun w1 hw1 => ?_, ?_⟩; (focus (go_simp; (try go_ints); (try (simp only [IntWalk.iteOmega]; go_simp)); first | done | fail | (with_reducible rfl) | (with_reducible exact ⟨rfl, rfl⟩))); simp only [Act.put, zqa, zqb, zqc]; refine hK _ ?_; clear hK K) | ((with_reducible refine Sched.walk1_pure ?_ ?_ ?_ (fun K hK => ?_)); (focus rfl); (focus rfl); (focus rfl); apply Exists.intro; refine ⟨fun w1 => ?_, ?_⟩; (focus (go_simp; (try go_ints); (try (simp only [IntWalk.iteOmega]; go_simp)); first | done | (with_reducible rfl) | (with_reducible exact ⟨rfl, rfl⟩))); simp only [Act.put, zqa, zqb, zqc]; refine hK _ ?_; clear hK K) | (refine Sched.walk1_box rfl rfl ?_; apply Exists.intro; refine ⟨fun w1 hw1 => ?_, ?_⟩; (focus (go_simp; exact ⟨Gr.alloc _ _, rfl, by simp, heap_alloc_new _ _⟩))))
         (with_reducible refine Sched.walk1_gr ?_ ?_ ?_ (fun K hK => ?_)); (focus rfl); (focus rfl); (focus rfl)
         refine ⟨CVal mode W a' 16 c', fun w1 hw1 => ((HC18.out).kept hw1).load _ rfl rfl (by first | exact Tryd.underlying49 | exact Tryd.underlying46 | exact Tryd.underlying24) rfl (by kernel_rfl), ?_⟩
         simp only [Act.put, zqa, zqb, zqc]
         refine hK _ ?_
         clear hK K
         repeat (first | ((with_reducible refine Sched.walk1_no ?_ ?_ (fun K hK => ?_)); (focus rfl); (focus rfl); simp only [Act.put, zqa, zqb, zqc]; refine hK _ ?_; clear hK K) | ((with_reducible refine Sched.walk1_gr ?_ ?_ ?_ (fun K hK => ?_)); (focus rfl); (focus rfl); (focus rfl); apply Exists.intro; refine ⟨fun w1 hw1 => ?_, ?_⟩; (focus (go_simp; (try go_ints); (try (simp only [IntWalk.iteOmega]; go_simp)); first | done | (go_at_call 20; (with_reducible exact rcvalid_is HVM.out _ (rdc_gr HR18.out hw1))) | (with_reducible rfl) | (with_reducible exact ⟨rfl, rfl⟩))); simp only [Act.put, zqa, zqb, zqc]; refine hK _ ?_; clear hK K) | ((with_reducible refine Sched.walk1_pure ?_ ?_ ?_ (fun K hK => ?_)); (focus rfl); (focus rfl); (focus rfl); apply Exists.intro; refine ⟨fun w1 => ?_, ?_⟩; (focus (go_simp; (try go_ints); (try (simp only [IntWalk.iteOmega]; go_simp)); first | done | (with_reducible rfl) | (with_reducible exact ⟨rfl, rfl⟩))); simp only [Act.put, zqa, zqb, zqc]; refine hK _ ?_; clear hK K) | (refine Sched.walk1_box rfl rfl ?_; apply Exists.intro; refine ⟨fun w1 hw1 => ?_, ?_⟩; (focus (go_simp; exact ⟨Gr.alloc _ _, rfl, by simp, heap_alloc_new _ _⟩))))
         refine Sched.walk1_nil ?_
         intro wq hwq
         dsimp only [Sched.EndN, List.nil_append, List.cons_append, Act.put]
         (try simp only [zqa, zqb, zqc])
         repeat (first | (refine Sched.walk2_no rfl (fun K hK => ?_); simp only [Act.put, zqa, zqb, zqc]; refine hK _ ?_; clear hK K) | (refine Sched.walk2_go rfl (fun K hK => ?_); go_simp; (try go_ints); (try (simp only [IntWalk.iteOmega]; go_simp)); first | (refine hK _ _ ?_; clear hK K) | fail))
         refine Sched.walk2_nil ?_
         have HKq := zqd (HK18.out.gr hwq)
         clear hwq z1
         go_wp2_with fail
         go_roundw
         case rel => exact ⟨j + 1, by omega, by go_num, HKq.out⟩
         case measure => (simp [intOf] <;> omega)
       · subst hk2
         obtain ⟨s, hs, hs1, hs2⟩ := nack_at HV.out (show k1 < 16 by omega) HMM.out
         obtain ⟨bm, om, ham, -, hrow⟩ := HR18.out.row (by omega)
         have hrg := hrow k1 s hs
         have hsn : s.ser = (s.n : Int) := by rw [hs2, (HR18.out.2.2.2.2.2 s (List.mem_of_getElem? hs)).1]
         have z2 : ∀ u, Gr w18 u → u.cell? ⟨gC, 2, none⟩ = some (.slice (some ⟨bm, om, none⟩) 16 c') := fun u hu => by rw [← ham]; exact (HC18.out.kept hu).at 2 rfl
         have z3 : ∀ u, Gr w18 u → u.cell? ⟨gF, 0, none⟩ = some (.int .i64 (k1 : Int)) := fun u hu => (HF18.out.kept hu).at 0 rfl
         have z4 : ∀ u, Gr w18 u → u.cell? ⟨gC, 1, none⟩ = some (.int .i64 W) := fun u hu => (HC18.out.kept hu).at 1 rfl
         have z5 : ∀ u, Gr w18 u → u.cell? ⟨bm, om + k1 * 9 + 1, none⟩ = some (.int .i64 W) := fun u hu => by rw [← hs1]; exact (range_gr hrg hu) 1 _ rfl
         have z6 : ∀ u, Gr w18 u → u.cell? ⟨bm, om + k1 * 9 + 3, none⟩ = some (.int .i64 (s.n : Int)) := fun u hu => by rw [← hsn]; exact (range_gr hrg hu) 3 _ rfl
         have z7 : ∀ u, Gr w18 u → u.cell? ⟨bm, om + k1 * 9 + 8, none⟩ = some (.slice s.a s.n s.c) := fun u hu => (range_gr hrg hu) 8 _ rfl
         have q1 : (W != W) = false := by simp
         have q2 : ((s.n : Int) != (s.n : Int)) = false := by simp
         clear hs hs1 hs2 hrow hrg hsn ham
         refine Sched.wp_region_sched 41 [] [] (by kernel_rfl) (by kernel_rfl) ?_
         simp only [List.take_succ_cons, List.take_zero, List.drop_succ_cons, List.drop_zero]
         repeat (first | ((with_reducible refine Sched.walk1_no ?_ ?_ (fun K hK => ?_)); (focus rfl); (focus rfl); simp only [Act.put, zqa, zqb, zqc]; refine hK _ ?_; clear hK K) | ((with_reducible refine Sched.walk1_gr ?_ ?_ ?_ (fun K hK => ?_)); (focus rfl); (focus rfl); (focus rfl); apply Exists.intro; refine ⟨fun w1 hw1 => ?_, ?_⟩; (focus (go_simp; (try go_ints); (try (simp only [IntWalk.iteOmega]; go_simp)); first | done | fail | (with_reducible rfl) | (with_reducible exact ⟨rfl, rfl⟩))); simp only [Act.put, zqa, zqb, zqc]; refine hK _ ?_; clear hK K) | ((with_reducible refine Sched.walk1_pure ?_ ?_ ?_ (fun K hK => ?_)); (focus rfl); (focus rfl); (focus rfl); apply Exists.intro; refine ⟨fun w1 => ?_, ?_⟩; (focus (go_simp; (try go_ints); (try (simp only [IntWalk.iteOmega]; go_simp)); first | done | (with_reducible rfl) | (with_reducible exact ⟨rfl, rfl⟩))); simp only [Act.put, zqa, zqb, zqc]; refine hK _ ?_; clear hK K) | (refine Sched.walk1_box rfl rfl ?_; apply Exists.intro; refine ⟨fun w1 hw1 => ?_, ?_⟩; (focus (go_simp; exact ⟨Gr.alloc _ _, rfl, by simp, heap_alloc_new _ _⟩))))
         (with_reducible refine Sched.walk1_gr ?_ ?_ ?_ (fun K hK => ?_)); (focus rfl); (focus rfl); (focus rfl)
         refine ⟨CVal mode W a' 16 c', fun w1 hw1 => ((HC18.out).kept hw1).load _ rfl rfl (by first | exact Tryd.underlying49 | exact Tryd.underlying46 | exact Tryd.underlying24) rfl (by kernel_rfl), ?_⟩
         simp only [Act.put, zqa, zqb, zqc]
         refine hK _ ?_
         clear hK K
         repeat (first | ((with_reducible refine Sched.walk1_no ?_ ?_ (fun K hK => ?_)); (focus rfl); (focus rfl); simp only [Act.put, zqa, zqb, zqc]; refine hK _ ?_; clear hK K) | ((with_reducible refine Sched.walk1_gr ?_ ?_ ?_ (fun K hK => ?_)); (focus rfl); (focus rfl); (focus rfl); apply Exists.intro; refine ⟨fun w1 hw1 => ?_, ?_⟩; (focus (go_simp; (try go_ints); (try (simp only [IntWalk.iteOmega]; go_simp)); first | done | (go_at_call 20; (with_reducible exact rcvalid_is HVM.out _ (rdc_gr HR18.out hw1))) | (with_reducible rfl) | (with_reducible exact ⟨rfl, rfl⟩))); simp only [Act.put, zqa, zqb, zqc]; refine hK _ ?_; clear hK K) | ((with_reducible refine Sched.walk1_pure ?_ ?_ ?_ (fun K hK => ?_)); (focus rfl); (focus rfl); (focus rfl); apply Exists.intro; refine ⟨fun w1 => ?_, ?_⟩; (focus (go_simp; (try go_ints); (try (simp only [IntWalk.iteOmega]; go_simp)); first | done | (with_reducible rfl) | (with_reducible exact ⟨rfl, rfl⟩))); simp only [Act.put, zqa, zqb, zqc]; refine hK _ ?_; clear hK K) | (refine Sched.walk1_box rfl rfl ?_; apply Exists.intro; refine ⟨fun w1 hw1 => ?_, ?_⟩; (focus (go_simp; exact ⟨Gr.alloc _ _, rfl, by simp, heap_alloc_new _ _⟩))))
         refine Sched.walk1_nil ?_
         intro wq hwq
         dsimp only [Sched.EndN, List.nil_append, List.cons_append, Act.put]
         (try simp only [zqa, zqb, zqc])
         repeat (first | (refine Sched.walk2_no rfl (fun K hK => ?_); simp only [Act.put, zqa, zqb, zqc]; refine hK _ ?_; clear hK K) | (refine Sched.walk2_go rfl (fun K hK => ?_); go_simp; (try go_ints); (try (simp only [IntWalk.iteOmega]; go_simp)); first | (refine hK _ _ ?_; clear hK K) | fail))
         refine Sched.walk2_nil ?_
         have HKq := zqd (HK18.out.gr hwq)
         clear hwq z1 z2 z3 z4 z5 z6 z7 q1 q2
         go_wp2_with fail
         go_roundw
         case rel => exact ⟨j + 1, by omega, by go_num, HKq.out⟩
         case measure => (simp [intOf] <;> omega)
     · obtain ⟨E, hEE⟩ : ∃ E, apE mode W L k1 f2 f3 = E := ⟨_, rfl⟩
       rw [hEE] at hE ⊢
       have heb : (E == 0) = false := by simpa using hE
       clear hE hEE
       obtain ⟨wz, hwz⟩ : ∃ y, y = w16.alloc (.cells #[.int .i64 0, .int .i64 0, .slice none 0 0] 24) := ⟨_, rfl⟩
       have HZZ := zqd (show CBlk w16.heap.size 24 [.int .i64 0, .int .i64 0, .slice none 0 0] wz by rw [hwz]; exact CBlk.new _ _ _)
       have HGZ := zqd (show Gr w16 wz by rw [hwz]; exact Gr.alloc _ _)
       go_upto_region 14 with (first | rw [← hwz]; refine cblk_store rfl 24 _ _ rfl w16.heap.size [.int .i64 0, .int .i64 0, .slice none 0 0] HZZ.out rfl rfl rfl (by kernel_rfl) rfl ?_; intro w17 hb9 he9; have HX17 := zqd hb9; have HE17 := zqd (show Gr w16 w17 by rw [← he9]; exact gr_setCells HGZ.out (Nat.le_refl _) _ _); clear hb9 he9)
       have HC17 := zqd (HC16.out.kept HE17.out)
       have HR17 := zqd (HR16.out.kept HE17.out)
       have HK17 := zqd (show KpSt mode W w gC p B al nl ss w17 from ⟨a, c, L, HC17.out, HR17.out, HV.out, HA.out, HL16.out.kept HE17.out, HD16.out.kept HE17.out (by simp), HG16.out.trans HE17.out⟩)
       clear HF16 HC16 HR16 HL16 HD16 HG16 HX17 HE17
       have hbz := HBZ.out
       go_upto_region 16 with (fail)
       refine Sched.wp_region_sched 41 [] [] (by kernel_rfl) (by kernel_rfl) ?_
       simp only [List.take_succ_cons, List.take_zero, List.drop_succ_cons, List.drop_zero]
       repeat (first | ((with_reducible refine Sched.walk1_no ?_ ?_ (fun K hK => ?_)); (focus rfl); (focus rfl); simp only [Act.put, zqa, zqb, zqc]; refine hK _ ?_; clear hK K) | ((with_reducible refine Sched.walk1_gr ?_ ?_ ?_ (fun K hK => ?_)); (focus rfl); (focus rfl); (focus rfl); apply Exists.intro; refine ⟨fun w1 hw1 => ?_, ?_⟩; (focus (go_simp; (try go_ints); (try (simp only [IntWalk.iteOmega]; go_simp)); first | done | fail | (with_reducible rfl) | (with_reducible exact ⟨rfl, rfl⟩))); simp only [Act.put, zqa, zqb, zqc]; refine hK _ ?_; clear hK K) | ((with_reducible refine Sched.walk1_pure ?_ ?_ ?_ (fun K hK => ?_)); (focus rfl); (focus rfl); (focus rfl); apply Exists.intro; refine ⟨fun w1 => ?_, ?_⟩; (focus (go_simp; (try go_ints); (try (simp only [IntWalk.iteOmega]; go_simp)); first | done | (with_reducible rfl) | (with_reducible exact ⟨rfl, rfl⟩))); simp only [Act.put, zqa, zqb, zqc]; refine hK _ ?_; clear hK K) | (refine Sched.walk1_box rfl rfl ?_; apply Exists.intro; refine ⟨fun w1 hw1 => ?_, ?_⟩; (focus (go_simp; exact ⟨Gr.alloc _ _, rfl, by simp, heap_alloc_new _ _⟩))))
       (with_reducible refine Sched.walk1_gr ?_ ?_ ?_ (fun K hK => ?_)); (focus rfl); (focus rfl); (focus rfl)
       refine ⟨CVal mode W a 16 c, fun w1 hw1 => ((HC17.out).kept hw1).load _ rfl rfl (by first | exact Tryd.underlying49 | exact Tryd.underlying46 | exact Tryd.underlying24) rfl (by kernel_rfl), ?_⟩
       simp only [Act.put, zqa, zqb, zqc]
       refine hK _ ?_
       clear hK K
       repeat (first | ((with_reducible refine Sched.walk1_no ?_ ?_ (fun K hK => ?_)); (focus rfl); (focus rfl); simp only [Act.put, zqa, zqb, zqc]; refine hK _ ?_; clear hK K) | ((with_reducible refine Sched.walk1_gr ?_ ?_ ?_ (fun K hK => ?_)); (focus rfl); (focus rfl); (focus rfl); apply Exists.intro; refine ⟨fun w1 hw1 => ?_, ?_⟩; (focus (go_simp; (try go_ints); (try (simp only [IntWalk.iteOmega]; go_simp)); first | done | (go_at_call 20; (with_reducible exact rcvalid_is HV.out _ (rdc_gr HR17.out hw1))) | (with_reducible rfl) | (with_reducible exact ⟨rfl, rfl⟩))); simp only [Act.put, zqa, zqb, zqc]; refine hK _ ?_; clear hK K) | ((with_reducible refine Sched.walk1_pure ?_ ?_ ?_ (fun K hK => ?_)); (focus rfl); (focus rfl); (focus rfl); apply Exists.intro; refine ⟨fun w1 => ?_, ?_⟩; (focus (go_simp; (try go_ints); (try (simp only [IntWalk.iteOmega]; go_simp)); first | done | (with_reducible rfl) | (with_reducible exact ⟨rfl, rfl⟩))); simp only [Act.put, zqa, zqb, zqc]; refine hK _ ?_; clear hK K) | (refine Sched.walk1_box rfl rfl ?_; apply Exists.intro; refine ⟨fun w1 hw1 => ?_, ?_⟩; (focus (go_simp; exact ⟨Gr.alloc _ _, rfl, by simp, heap_alloc_new _ _⟩))))
       refine Sched.walk1_nil ?_
       intro wq hwq
       dsimp only [Sched.EndN, List.nil_append, List.cons_append, Act.put]
       (try simp only [zqa, zqb, zqc])
       repeat (first | (refine Sched.walk2_no rfl (fun K hK => ?_); simp only [Act.put, zqa, zqb, zqc]; refine hK _ ?_; clear hK K) | (refine Sched.walk2_go rfl (fun K hK => ?_); go_simp; (try go_ints); (try (simp only [IntWalk.iteOmega]; go_simp)); first | (refine hK _ _ ?_; clear hK K) | fail))
       refine Sched.walk2_nil ?_
       have HKq := zqd (HK17.out.gr hwq)
       clear hwq
       go_wp2_with fail
       go_roundw
       case rel => exact ⟨j + 1, by omega, by go_num, HKq.out⟩
       case measure => (simp [intOf] <;> omega)
theorem keeps_fit (t : Option Addr) (tl tc : Nat) (ts : List Int) (mo : Int) (w : World) (hl : LaidIn w) (ht : Rd .i64 w t tl ts) (_htc : tl ≤ tc) (_htl : tl * 8 ≤ 140737488351232) (_hm : i64 mo) :
   Calls Tryd.prog 4 #[.slice t tl tc, .int .i64 mo] w fun e w' => e = .returned (.bool true) ∧ Below w.heap.size w w' :=
 (keeps_walk t tl tc ts mo w hl ht).mono fun _ _ ⟨he, hg⟩ => ⟨he, Below.of_none hg⟩
end Go.Proofs.YtlnkofpcidngoaaDoor
