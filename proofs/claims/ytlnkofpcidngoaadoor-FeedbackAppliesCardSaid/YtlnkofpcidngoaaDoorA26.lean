/- Several texts in one. -/
import Derived.Test.YtlnkofpcidngoaaDoorA0
import Derived.Test.YtlnkofpcidngoaaDoorA10
import Derived.Test.YtlnkofpcidngoaaDoorA7
import Derived.Test.YtlnkofpcidngoaaDoorA20
import Derived.Test.YtlnkofpcidngoaaDoorA11
import Derived.Test.YtlnkofpcidngoaaDoorA1
import Derived.Laws.BytesArg
import Derived.Laws.Strings
import Derived.WideShapes
import Derived.Test.YtlnkofpcidngoaaDoorA6
import Derived.Test.YtlnkofpcidngoaaDoorA14
import Derived.Test.YtlnkofpcidngoaaDoorA17
import Derived.Test.YtlnkofpcidngoaaDoorA25
import Derived.Test.YtlnkofpcidngoaaDoorA12
/- Layer 9 (compressor): find of the reference. -/
namespace Go.Proofs.YtlnkofpcidngoaaDoor
open Go.ChangeShapes Go.WideShapes Go.ChangeAt Go.RowKit
def FrRel (L : List Snd) (h : Hdr) (j : Nat) (f : Value) : Prop :=
 (∀ k t, k < j → L[k]? = some t → t.act = true → sameB (headS t) h = false) ∧
 ((f = .int .i64 (-1) ∧ ∀ k t, k < j → L[k]? = some t → t.act = true) ∨ ∃ (q : Nat) (s : Snd), q < j ∧ f = .int .i64 q ∧ L[q]? = some s ∧ s.act = false ∧ ∀ k t, k < q → L[k]? = some t → t.act = true)
def Found (L : List Snd) (h : Hdr) (j : Nat) : Prop := ∃ s, L[j]? = some s ∧ ((s.act = true ∧ sameB (headS s) h = true) ∨ (s.act = false ∧ (∀ k t, k < L.length → L[k]? = some t → t.act = true → sameB (headS t) h = false) ∧ ∀ k t, k < j → L[k]? = some t → t.act = true))
def FindPost (L : List Snd) (h : Hdr) (w : World) (e : Ending) (w' : World) : Prop := Gr w w' ∧ ((∃ j : Nat, e = .returned (.tuple #[.int .i64 j, .bool true]) ∧ Found L h j) ∨ (e = .returned (.tuple #[.int .i64 (-1), .bool false]) ∧ ∀ k t, k < L.length → L[k]? = some t → t.act = true))
set_option maxHeartbeats 2000000 in
set_option maxRecDepth 100000 in
theorem find_any (mode width : Int) (a : Option Addr) (n c : Nat) (L : List Snd) (h : Hdr) (w : World) (hr : RdC w a n c L) (hL : ∀ t ∈ L, HasRef t) (hn : n ≤ 1000) : Calls Tryd.prog 35 #[CVal mode width a n c, HVal h] w (FindPost L h w) := by
 have HR := zqd hr
 have HN := zqd hr.1
 have HL := zqd hL
 clear hr hL
 go_enter Tryd.func35, Tryd.ntmps35
 go_upto_region 1 with (fail)
 obtain ⟨w1, hw1⟩ : ∃ y, y = (w.alloc (.cells #[.int .i64 mode, .int .i64 width, .slice a n c] 24)).alloc (.cells (HCells h).toArray 49) := ⟨_, rfl⟩
 have hb1 : CBlk w.heap.size 24 [.int .i64 mode, .int .i64 width, .slice a n c] w1 := by rw [hw1]; exact (CBlk.new _ _ _).kept (Gr.alloc _ _)
 have hh1 : CBlk (w.heap.size + 1) 49 (HCells h) w1 := by rw [hw1]; exact heap_two _ _ _
 have hg1 : Gr w w1 := by rw [hw1]; exact (Gr.alloc _ _).trans (Gr.alloc _ _)
 simp only [HCells] at hw1
 first | rw [← hw1] | (go_show; fail)
 have HB1 := zqd hb1
 have HH1 := zqd hh1
 have HG1 := zqd hg1
 clear hw1 hb1 hh1 hg1
 go_wp2_with fail
 go_loopw [6, 7] (fun f i wr => ∃ j : Nat, j ≤ n ∧ i = .int .i64 j ∧ FrRel L h j f ∧ Gr w1 wr) (fun _ i _ => n - (intOf i).toNat)
 case atStart => exact ⟨0, by omega, rfl, ⟨fun k t hk => by omega, .inl ⟨rfl, fun k t hk => by omega⟩⟩, Gr.refl _⟩
 case round =>
  obtain ⟨j, hj, rfl, hfr, hg⟩ := hrel
  have HG := zqd hg
  obtain ⟨hf1, hf2⟩ := hfr
  have HF1 := zqd hf1
  have HF2 := zqd hf2
  have x2 := (HB1.out.kept hg).at 2 rfl
  clear hg hf1 hf2
  by_cases hlt : j < n
  ·obtain ⟨s, hs, hrs⟩ := HR.out.get hlt
   obtain ⟨b, off, ea, -, hrow⟩ := HR.out.row (by omega)
   subst ea
   have hrg := hrow j s hs
   have HS := zqd hs
   obtain ⟨A, hA⟩ : ∃ A, s.act = A := ⟨_, rfl⟩
   have HA := zqd hA
   have s0 : wr.cell? ⟨b, off + j * 9, none⟩ = some (.bool A) := by rw [← hA]; exact (range_gr hrg (HG1.out.trans HG.out)) 0 _ rfl
   have HRG := zqd hrg
   have HRS := zqd hrs
   clear hs hrs hrow hrg hA
   cases A
   ·rcases HF2.out with ⟨rfl, hall⟩ | ⟨q, s', hq, rfl, hq1, hq2, hq3⟩
    ·have HALL := zqd hall
     clear hall
     go_wp2_with fail
     go_roundw
     case rel =>
      refine ⟨j + 1, by omega, by go_num, ⟨fun k t hk ht ha => ?_, .inr ⟨j, s, by omega, rfl, HS.out, HA.out, HALL.out⟩⟩, HG.out⟩
      by_cases hkj : k < j
      ·exact HF1.out k t hkj ht ha
      ·obtain rfl : k = j := by omega
       rw [HS.out] at ht; injection ht with ht; subst ht
       rw [HA.out] at ha; cases ha
     case measure => (simp [intOf] <;> omega)
    ·have HQ1 := zqd hq1
     have HQ2 := zqd hq2
     have HQ3 := zqd hq3
     have hqb : decide ((q : Int) < 0) = false := decide_eq_false (by omega)
     clear hq1 hq2 hq3
     go_wp2_with fail
     go_roundw
     case rel =>
      refine ⟨j + 1, by omega, by go_num, ⟨fun k t hk ht ha => ?_, .inr ⟨q, s', by omega, rfl, HQ1.out, HQ2.out, HQ3.out⟩⟩, HG.out⟩
      by_cases hkj : k < j
      ·exact HF1.out k t hkj ht ha
      ·obtain rfl : k = j := by omega
       rw [HS.out] at ht; injection ht with ht; subst ht
       rw [HA.out] at ha; cases ha
     case measure => (simp [intOf] <;> omega)
   ·have hrs := HRS.out
    have hn1 : 0 < s.n := by rw [← hrs.1]; exact HL.out s (List.mem_of_getElem? HS.out) HA.out
    obtain ⟨f, hf, -⟩ := hrs.get hn1
    obtain ⟨b1, o1, e1, -, r1⟩ := hrs.row hn1
    have k1 := r1 0 f hf
    rw [Nat.zero_mul, Nat.add_zero] at k1
    have HK1 := zqd (fun u (hu : Gr wr u) => range_gr k1 (HG1.out.trans (HG.out.trans hu)))
    have HHB := zqd (fun u (hu : Gr wr u) => (HH1.out.kept (HG.out.trans hu)).rng 0 (HCells h) (fun j v hv => by rw [Nat.zero_add]; exact hv))
    obtain ⟨U, hU⟩ : ∃ U, sameB f h = U := ⟨_, rfl⟩
    have HU := zqd hU
    have HUS := zqd (show sameB (headS s) h = U by rw [head_at hf, hU])
    have s8 : ∀ u, Gr wr u → u.cell? ⟨b, off + j * 9 + 8, none⟩ = some (.slice (some ⟨b1, o1, none⟩) s.n s.c) := fun u hu => by rw [← e1]; exact (range_gr HRG.out (HG1.out.trans (HG.out.trans hu))) 8 _ rfl
    have X2 := zqd (show ∀ u, Gr wr u → u.cell? ⟨w.heap.size, 2, none⟩ = some (.slice (some ⟨b, off, none⟩) n c) from fun u hu => (HB1.out.kept (HG.out.trans hu)).at 2 rfl)
    have hcap := HR.out.2.1
    clear hf r1 k1 hU e1 hrs
    go_upto_region 6 with (fail)
    clear x2 s0
    have x2 := X2.out
    refine Sched.wp_region_sched 9 [] [] (by kernel_rfl) (by kernel_rfl) ?_
    simp only [List.take_succ_cons, List.take_zero, List.drop_succ_cons, List.drop_zero]
    repeat (first | ((first | (refine Sched.walk1_no rfl rfl (fun K hK => ?_)) | (refine Sched.walk1_gr rfl rfl rfl (fun K hK => ?_); apply Exists.intro; refine ⟨fun w1 hw1 => ?_, ?_⟩; (focus (go_simp; (try go_ints); (try (simp only [IntWalk.iteOmega]; go_simp)); first | done | (with_reducible rfl) | (with_reducible exact ⟨rfl, rfl⟩))))); simp only [Act.put, zqa, zqb, zqc]; refine hK _ ?_; clear hK K))
    refine Sched.walk1_gr rfl rfl rfl (fun K hK => ?_)
    refine ⟨HVal f, fun w1 hw1 => rng_gq (HK1.out w1 hw1) 49 _ rfl rfl Tryd.underlying49 rfl (by kernel_rfl), ?_⟩
    simp only [Act.put, zqa, zqb, zqc]
    refine hK _ ?_
    clear hK K
    refine Sched.walk1_gr rfl rfl rfl (fun K hK => ?_)
    refine ⟨HVal h, fun w1 hw1 => rng_gq (HHB.out w1 hw1) 49 _ rfl rfl Tryd.underlying49 rfl (by kernel_rfl), ?_⟩
    simp only [Act.put, zqa, zqb, zqc]
    refine hK _ ?_
    clear hK K
    (with_reducible refine Sched.walk1_nil ?_)
    intro wq hwq
    dsimp only [Sched.EndN, List.nil_append, List.cons_append, Act.put]
    (try simp only [zqa, zqb, zqc])
    repeat (first | (refine Sched.walk2_no rfl (fun K hK => ?_); simp only [Act.put, zqa, zqb, zqc]; refine hK _ ?_; clear hK K) | (refine Sched.walk2_go rfl (fun K hK => ?_); go_simp; (try go_ints); (try (simp only [IntWalk.iteOmega]; go_simp)); first | (refine hK _ _ ?_; clear hK K) | (go_at_call 50; (refine (rsame_is HU.out wq).mono ?_); rintro e w7 ⟨rfl, hg7⟩; have HG7 := zqd (HG.out.trans (hwq.trans hg7)); clear hg7; refine ⟨_, rfl, ?_⟩; refine hK _ _ ?_; clear hK K)))
    refine Sched.walk2_nil ?_
    clear x2 s8 hwq
    cases U
    ·go_wp2_with fail
     go_roundw
     case rel =>
      refine ⟨j + 1, by omega, by go_num, ⟨fun k t hk ht ha => ?_, ?_⟩, HG7.out⟩
      ·by_cases hkj : k < j
       ·exact HF1.out k t hkj ht ha
       ·obtain rfl : k = j := by omega
        rw [HS.out] at ht; injection ht with ht; subst ht
        exact HUS.out
      ·rcases HF2.out with ⟨e, hall⟩ | ⟨q, s', hq, e, hq1, hq2, hq3⟩
       ·refine .inl ⟨e, fun k t hk ht => ?_⟩
        by_cases hkj : k < j
        ·exact hall k t hkj ht
        ·obtain rfl : k = j := by omega
         rw [HS.out] at ht; injection ht with ht; subst ht
         exact HA.out
       ·exact .inr ⟨q, s', by omega, e, hq1, hq2, hq3⟩
     case measure => (simp [intOf] <;> omega)
    ·go_wp2_with fail
     go_ret2
     exact ⟨HG1.out.trans HG7.out, .inl ⟨j, rfl, s, HS.out, .inl ⟨HA.out, HUS.out⟩⟩⟩
  ·obtain rfl : j = n := by omega
   rcases HF2.out with ⟨rfl, hall⟩ | ⟨q, s', hq, rfl, hq1, hq2, hq3⟩
   ·have HALL := zqd hall
    clear hall
    go_wp2_with fail
    go_ret2
    exact ⟨HG1.out.trans HG.out, .inr ⟨rfl, by rw [HN.out]; exact HALL.out⟩⟩
   ·have HQ1 := zqd hq1
    have HQ2 := zqd hq2
    have HQ3 := zqd hq3
    clear hq1 hq2 hq3
    go_wp2_with fail
    go_ret2
    exact ⟨HG1.out.trans HG.out, .inl ⟨q, rfl, s', HQ1.out, .inr ⟨HQ2.out, by rw [HN.out]; exact HF1.out, HQ3.out⟩⟩⟩
end Go.Proofs.YtlnkofpcidngoaaDoor
/- Layer 9 (compressor): begin of the reference. -/
namespace Go.Proofs.YtlnkofpcidngoaaDoor
open Go.ChangeShapes Go.WideShapes Go.ChangeAt Go.RowKit
theorem cblk_smid {P : Program} {ops : Array Oper} {rest : List Oper} {o : Oper} {a : Act} {w : World} {Q : Exit → Act → World → Prop} (hgd : o.guard = none) (ty : TypeId) (x y : Operand) (ho : o.op = .store ty x y) (g off : Nat) (ds : List Value) {t : TypeId} {cs cs' : List Value} (hb : CBlk g t cs w) (hl : off + ds.length ≤ cs.length) (hs : setM cs off ds = cs')
  (hx : a.eval x = .pointer (some ⟨g, off, none⟩)) (hy : a.eval y = .agg ds.toArray) (hi : (P.info? ty).map (·.size) = some ds.toArray.size) (h1 : ds.all (·.oneCell') = true)
  (h : ∀ w9, CBlk g t cs' w9 → w.setCells g off ds = w9 → wpList P ops Q rest (a.put o.dst undef) w9) : wpList P ops Q (o :: rest) a w :=
 wpList_store_mid hgd ty x y ho g off ds.toArray hx hy (hb.there (by simpa using hl)) hi (all_oneCell_toArray (List.all_eq_true.1 h1)) (h _ (by
  have := heap_setCells ds off w cs hb
  unfold CBlk
  rw [this, hs]) rfl)
def begD (had : Bool) (last h : Hdr) : Int × Int := if had then (learnS last h, learnF last h) else (0, 0)
def begS (s : Snd) (last : Hdr) (had : Bool) (h : Hdr) : Snd := ⟨s.act, s.full, s.refr, s.n, s.since, s.long, (begD had last h).1, (begD had last h).2, s.a, s.n, s.c, s.refs⟩
def zeroS' : Snd := ⟨false, 0, 0, 0, 0, 0, 0, 0, none, 0, 0, []⟩
set_option maxHeartbeats 2000000 in
set_option maxRecDepth 100000 in
theorem begin_any (s : Snd) (last : Hdr) (had : Bool) (h : Hdr) (w : World) (_hn : s.n ≤ 1000) : Calls Tryd.prog 39 #[SVal s, HVal last, .bool had, HVal h] w fun e w' => e = .returned (SVal (begS s last had h)) ∧ Gr w w' := by
 go_enter Tryd.func39, Tryd.ntmps39
 go_upto_region 1 with (fail)
 obtain ⟨w0, hw0⟩ : ∃ y, y = ((w.alloc (.cells (SCells s).toArray 46)).alloc (.cells (HCells last).toArray 49)).alloc (.cells (HCells h).toArray 49) := ⟨_, rfl⟩
 obtain ⟨w1, hw1⟩ : ∃ y, y = w0.alloc (.cells (SCells zeroS').toArray 46) := ⟨_, rfl⟩
 have h3 := blocks3 w (.cells (SCells s).toArray 46) (.cells (HCells last).toArray 49) (.cells (HCells h).toArray 49)
 rw [← hw0] at h3
 have hg01 : Gr w0 w1 := by rw [hw1]; exact Gr.alloc _ _
 have hsz : w0.heap.size = w.heap.size + 1 + 1 + 1 := by rw [hw0]; simp
 have hs1 : CBlk w.heap.size 46 (SCells s) w1 := CBlk.kept h3.1 hg01
 have hl1 : CBlk (w.heap.size + 1) 49 (HCells last) w1 := CBlk.kept h3.2.1 hg01
 have hh1 : CBlk (w.heap.size + 1 + 1) 49 (HCells h) w1 := CBlk.kept h3.2.2 hg01
 have hz1 : CBlk (w.heap.size + 1 + 1 + 1) 46 (SCells zeroS') w1 := by rw [← hsz, hw1]; exact CBlk.new _ _ _
 have hg1 : Gr w w1 := by rw [hw0] at hg01; exact ((Gr.alloc _ _).trans ((Gr.alloc _ _).trans (Gr.alloc _ _))).trans hg01
 rw [hw0] at hw1
 simp only [SCells, HCells, zeroS'] at hw1
 first | rw [← hw1] | (go_show; fail)
 have HS1 := zqd hs1
 have HL1 := zqd hl1
 have HH1 := zqd hh1
 have HZ1 := zqd hz1
 have HG1 := zqd hg1
 have x8 : w1.cell? ⟨w.heap.size, 8, none⟩ = some (.slice s.a s.n s.c) := hs1.at 8 rfl
 have x3 : w1.cell? ⟨w.heap.size, 3, none⟩ = some (.int .i64 s.ser) := hs1.at 3 rfl
 have f3 := hs1.fz 3
 clear hw0 hw1 h3 hg01 hsz hs1 hl1 hh1 hz1 hg1
 have HS1' := zqd (show CBlk w.heap.size 46 (SCells ⟨s.act, s.full, s.refr, s.n, s.since, s.long, s.str, s.fol, s.a, s.n, s.c, s.refs⟩) (w1.setCell ⟨w.heap.size, 3, none⟩ (.int .i64 s.n)) from HS1.out.set 3 _ rfl)
 have hlt := HZ1.out.lt
 go_upto_region 2 with (refine cblk_smid (cs' := SCells ⟨s.act, s.full, s.refr, s.n, s.since, s.long, 0, 0, s.a, s.n, s.c, s.refs⟩) rfl 43 _ _ rfl w.heap.size 6 [.int .i64 0, .int .i64 0] HS1'.out (by simp) rfl rfl rfl (by kernel_rfl) rfl ?_; intro w2 hb2 he2; have HS2 := zqd hb2; have HE2 := zqd he2; clear hb2 he2)
 have hgr : w1.grownBy w2 (some w.heap.size) := by rw [← HE2.out]; exact grown_trans' (grown_setAt w1 _ _ _) (grown_setCells _ _ _ _)
 have HL2 := zqd (HL1.out.but hgr (by simp))
 have HH2 := zqd (HH1.out.but hgr (by simp; omega))
 have HZ2 := zqd (HZ1.out.but hgr (by simp; omega))
 have HG2 := zqd (show Gr w w2 by rw [← HE2.out]; exact gr_setCells (gr_setCell HG1.out (Nat.le_refl _) _ _) (Nat.le_refl _) _ _)
 clear x8 x3 f3 hgr HS1' HL1 HH1 HZ1 HE2
 cases had
 ·have HRES := zqd (show begS s last false h = ⟨s.act, s.full, s.refr, s.n, s.since, s.long, 0, 0, s.a, s.n, s.c, s.refs⟩ from rfl)
  go_wp2_with (first | (refine cblk_load rfl 46 _ rfl w.heap.size rfl HS2.out Tryd.underlying46 rfl (by kernel_rfl) ?_) | (refine cblk_store rfl 46 _ _ rfl (w.heap.size + 1 + 1 + 1) (SCells ⟨s.act, s.full, s.refr, s.n, s.since, s.long, 0, 0, s.a, s.n, s.c, s.refs⟩) HZ2.out rfl rfl rfl (by kernel_rfl) rfl ?_; intro w9 hb9 he9; have HB9 := zqd hb9; have HGE := zqd (show Gr w w9 by rw [← he9]; exact gr_setCells HG2.out (by omega) _ _); clear hb9 he9))
  exact bodyPost_ret (results_c0 Tryd.results39 _ _ (w.heap.size + 1 + 1 + 1) _ _ rfl HB9.out Tryd.underlying46 rfl (by kernel_rfl)) rfl ⟨by rw [HRES.out], HGE.out⟩
 ·obtain ⟨S, hS⟩ : ∃ S, learnS last h = S := ⟨_, rfl⟩
  obtain ⟨F, hF⟩ : ∃ F, learnF last h = F := ⟨_, rfl⟩
  have HSS := zqd hS
  have HFF := zqd hF
  have HRES := zqd (show begS s last true h = ⟨s.act, s.full, s.refr, s.n, s.since, s.long, S, F, s.a, s.n, s.c, s.refs⟩ by rw [begS, begD, if_pos rfl, hS, hF])
  clear hS hF
  go_wp2_with (first | (refine cblk_load rfl 49 _ rfl (w.heap.size + 1) rfl HL2.out Tryd.underlying49 rfl (by kernel_rfl) ?_) | (refine cblk_load rfl 49 _ rfl (w.heap.size + 1 + 1) rfl HH2.out Tryd.underlying49 rfl (by kernel_rfl) ?_))
  refine (rlearn_is HSS.out HFF.out w2).mono ?_
  rintro e w3 ⟨rfl, hg3⟩
  have HS3 := zqd (HS2.out.kept hg3)
  have HZ3 := zqd (HZ2.out.kept hg3)
  have HG3 := zqd (HG2.out.trans hg3)
  clear hg3
  go_upto_region 4 with (refine cblk_smid (cs' := SCells ⟨s.act, s.full, s.refr, s.n, s.since, s.long, S, F, s.a, s.n, s.c, s.refs⟩) rfl 43 _ _ rfl w.heap.size 6 [.int .i64 S, .int .i64 F] HS3.out (by simp) rfl rfl rfl (by kernel_rfl) rfl ?_; intro w4 hb4 he4; have HS4 := zqd hb4; have HE4 := zqd he4; clear hb4 he4)
  have HZ4 := zqd (show CBlk (w.heap.size + 1 + 1 + 1) 46 (SCells zeroS') w4 by rw [← HE4.out]; exact HZ3.out.puts _ _ (by omega))
  have HG4 := zqd (show Gr w w4 by rw [← HE4.out]; exact gr_setCells HG3.out (Nat.le_refl _) _ _)
  go_wp2_with (first | (refine cblk_load rfl 46 _ rfl w.heap.size rfl HS4.out Tryd.underlying46 rfl (by kernel_rfl) ?_) | (refine cblk_store rfl 46 _ _ rfl (w.heap.size + 1 + 1 + 1) (SCells ⟨s.act, s.full, s.refr, s.n, s.since, s.long, S, F, s.a, s.n, s.c, s.refs⟩) HZ4.out rfl rfl rfl (by kernel_rfl) rfl ?_; intro w9 hb9 he9; have HB9 := zqd hb9; have HGE := zqd (show Gr w w9 by rw [← he9]; exact gr_setCells HG4.out (by omega) _ _); clear hb9 he9))
  exact bodyPost_ret (results_c0 Tryd.results39 _ _ (w.heap.size + 1 + 1 + 1) _ _ rfl HB9.out Tryd.underlying46 rfl (by kernel_rfl)) rfl ⟨by rw [HRES.out], HGE.out⟩
end Go.Proofs.YtlnkofpcidngoaaDoor
/- Layer 05 (packet): Build of the program and of the reference. -/
namespace Go.Proofs.YtlnkofpcidngoaaDoor
open Go.ChangeShapes Go.WideShapes Go.ChangeAt Go.RowKit
theorem OwnI.le_cap {B : Nat} {e : TypeId} {k : IntKind} {w : World} {a : Option Addr} {n cap : Nat} {xs : List Int} (h : OwnI B e k w a n cap xs) : n ≤ cap := by
 rcases h.row.2 with ⟨hv, h0⟩ | ⟨g, cap', cur, hv, _, _, hn, _⟩
 ·omega
 ·injection hv with _ _ e3; omega
def BytI (w0 : World) (a : Option Addr) (n cap : Nat) (xs : List Int) (wn : World) : Prop := OwnI w0.heap.size 5 .u8 wn a n cap xs ∧ Gr w0 wn
theorem BytI.turn {w0 wn w' : World} {a a' : Option Addr} {n n' cap cap' : Nat} {xs ys : List Int} (hI : BytI w0 a n cap xs wn) (ho : OwnI w0.heap.size 5 .u8 w' a' n' cap' ys) (hg : wn.grownBy w' (Value.slice a n cap).ownBlock) : BytI w0 a' n' cap' ys w' :=
 ⟨ho, grown_own hI.2 hI.1 (Nat.le_refl _) hg⟩
theorem BytI.gr {w0 wn w' : World} {a : Option Addr} {n cap : Nat} {xs : List Int} (hI : BytI w0 a n cap xs wn) (hg : Gr wn w') : BytI w0 a n cap xs w' := ⟨hI.1.stay hg, hI.2.trans hg⟩
theorem BytI.app {w0 wn : World} {a : Option Addr} {n cap : Nat} {xs : List Int} (hI : BytI w0 a n cap xs wn) (b : Option Addr) (m c : Nat) (ys : List Int) (N : Nat) (hN : N = n + m) (hr : Rd .u8 wn b m ys) (hm : n + m ≤ 140737488355328) :
  ∃ a' cap' w', (Builtin.append_ #[39, 39] 39 #[.slice a n cap, .slice b m c]).run Tryd.prog wn = .ok (.slice a' N cap') w' ∧ BytI w0 a' N cap' (xs ++ ys) w' := by
 subst hN
 obtain ⟨a', cap', w', h1, h2, h3, _⟩ := app_u8 _ wn a n cap xs hI.1 b m c ys hr hm hI.2.size
 exact ⟨a', cap', w', h1, hI.turn h2 h3⟩
set_option maxRecDepth 20000 in
set_option maxHeartbeats 2000000 in
theorem set_any (B g N C : Nat) (xs : List Int) (o : Nat) (O v : Int) (w : World) (hO : O = o) (hown : OwnI B 5 .u8 w (some ⟨g, 0, none⟩) N C xs) (h1 : o + 2 ≤ N) (h3 : N ≤ 100000) (h0 : 0 ≤ v) (hv : v ≤ 65535) :
  Calls Tryd.prog 83 #[.slice (some ⟨g, 0, none⟩) N C, .int .i64 O, .int .i64 v] w fun e w' => e = .returned (.tuple #[]) ∧ OwnI B 5 .u8 w' (some ⟨g, 0, none⟩) N C (setM xs o (putR v 2)) ∧ w.grownBy w' (some g) := by
 subst hO
 obtain ⟨c1, f1⟩ := hown.at o (by omega)
 have hs := hown.set o (v / 256) (WalkArith.wf_u8 (by omega))
 obtain ⟨c2, f2⟩ := hs.at (o + 1) (by omega)
 have hs2 := hs.set (o + 1) (v % 256) (WalkArith.wf_u8 (by omega))
 have e : setM xs o (putR v 2) = (xs.set o (v / 256)).set (o + 1) (v % 256) := by
  rw [putR2, show v / 256 % 256 = v / 256 by omega]; rfl
 rw [← e] at hs2
 have HS := zqd hs2
 have HG := zqd (grown_trans' (grown_setAt w g o (.int .u8 (v / 256))) (grown_setAt (w.setCell ⟨g, o, none⟩ (.int .u8 (v / 256))) g (o + 1) (.int .u8 (v % 256))))
 clear hs hs2 e hown
 go_enter Tryd.func83, Tryd.ntmps83
 go_wp2_with fail
 first | go_end0 | (go_show; fail)
 exact ⟨rfl, HS.out, HG.out⟩
theorem BytI.set {w0 wn : World} {g n cap : Nat} {xs : List Int} (hI : BytI w0 (some ⟨g, 0, none⟩) n cap xs wn) (o : Nat) (O x : Int) (hO : O = o) (h1 : o + 2 ≤ n) (h3 : n ≤ 100000) (h0 : 0 ≤ x) (hx : x ≤ 65535) :
  Calls Tryd.prog 83 #[.slice (some ⟨g, 0, none⟩) n cap, .int .i64 O, .int .i64 x] wn fun e w' => e = .returned (.tuple #[]) ∧ BytI w0 (some ⟨g, 0, none⟩) n cap (setM xs o (putR x 2)) w' := by
 refine (set_any _ g n cap xs o O x wn hO hI.1 h1 h3 h0 hx).mono ?_
 rintro e w' ⟨rfl, ho, hg⟩
 exact ⟨rfl, hI.turn ho hg⟩
def BuildPost (R : Int × List Int) (w : World) (e : Ending) (w' : World) : Prop :=
 ∃ a n cap, e = .returned (.tuple #[.slice a n cap, .int .i64 R.1]) ∧ n = R.2.length ∧ BytI w a n cap R.2 w'
theorem buildF_no {h : Hdr} (hv : validH h = false) (ys : List Int) : buildF h ys = (1, []) := by rw [buildF, hv]; rfl
theorem buildF_big {h : Hdr} (hv : validH h = true) {ys : List Int} (hl : 1500 < (headL h ++ ys).length) : buildF h ys = (2, []) := by
 rw [buildF, if_pos hv, if_pos hl]
theorem BytI.nil (w0 wn : World) (hg : Gr w0 wn) : BytI w0 none 0 0 [] wn := ⟨OwnI.nil _ _ _ _, hg⟩
set_option maxRecDepth 100000 in
set_option maxHeartbeats 2000000 in
theorem rbuild_any (h : Hdr) (a : Option Addr) (m c : Nat) (ys : List Int) (w : World) (hr : Rd .u8 w a m ys) (hm : m ≤ 140737488351232) : Calls Tryd.prog 57 #[HVal h, .slice a m c] w (BuildPost (buildF h ys) w) := by
 obtain ⟨R, hR⟩ : ∃ R, buildF h ys = R := ⟨_, rfl⟩
 have HRF := zqd hR
 rw [hR]
 have HR := zqd hr
 have HL := zqd hr.len
 obtain ⟨V, hV⟩ : ∃ V, validH h = V := ⟨_, rfl⟩
 have HV := zqd hV
 clear hR hr hV
 go_enter Tryd.func57, Tryd.ntmps57
 go_upto_region 1 with (fail)
 obtain ⟨w1, hw1⟩ : ∃ y, y = w.alloc (.cells (HCells h).toArray 49) := ⟨_, rfl⟩
 have hb1 : HBlk w.heap.size h w1 := by rw [hw1]; exact heap_alloc_new _ _
 have hg1 : Gr w w1 := by rw [hw1]; exact Gr.alloc _ _
 simp only [HCells] at hw1
 rw [← hw1]
 have hb1' := hb1
 unfold HBlk at hb1'
 have HB1' := zqd hb1'
 have HB1 := zqd hb1
 have HG1 := zqd hg1
 clear hw1 hb1 hb1' hg1
 go_wp2_with (first | (refine wpList_load_row rfl 49 _ rfl w.heap.size rfl 49 _ _ _ HB1'.out Tryd.underlying49 rfl (by kernel_rfl) ?_))
 refine (rvalid_is HV.out w1).mono ?_
 rintro e wv ⟨rfl, hgv⟩
 have hbv := HB1.out.kept hgv
 unfold HBlk at hbv
 have HBV := zqd hbv
 have HGV := zqd (HG1.out.trans hgv)
 clear hgv hbv HB1 HB1' HG1
 cases V
 ·go_wp2_with fail
  go_ret2
  have e := HRF.out
  rw [buildF_no HV.out] at e
  subst e
  exact ⟨none, 0, 0, rfl, rfl, BytI.nil _ _ HGV.out⟩
 ·go_wp2_with (first | (refine wpList_load_row rfl 49 _ rfl w.heap.size rfl 49 _ _ _ HBV.out Tryd.underlying49 rfl (by kernel_rfl) ?_))
  refine (rhead_yes h wv HV.out).mono ?_
  rintro e w2 ⟨a2, n, cap2, rfl, hn, ho2, hg2⟩
  have HN := zqd hn
  have hn28 : n = 28 ∨ n = 40 := by rw [hn, headL_len]; split <;> omega
  have hnb : 28 ≤ n ∧ n ≤ 40 := by omega
  obtain ⟨n1, n2⟩ := hnb
  have H2 := zqd (show BytI w a2 n cap2 (headL h) w2 from ⟨ho2.weak HGV.out.size, HGV.out.trans hg2⟩)
  clear ho2 hg2 HGV HBV hn hn28
  obtain ⟨N, hN⟩ : ∃ N, N = n + m := ⟨_, rfl⟩
  obtain ⟨a3, cap3, w3, hrun, hb3⟩ := H2.out.app a m c ys N hN (HR.out.kept H2.out.2) (by omega)
  obtain ⟨g3, hg3, _⟩ := hb3.1.some (by omega)
  subst hg3
  have hcap : N ≤ cap3 := hb3.1.le_cap
  have H3 := zqd hb3
  have HRUN := zqd hrun
  have HNN := zqd hN
  have hN1 : 28 ≤ N := by omega
  have hN0 : N ≤ 140737488355328 := by omega
  have hXL := zqd (show (headL h ++ ys).length = N by rw [List.length_append, ← HN.out, HL.out, hN])
  clear hb3 hrun hN
  by_cases hbig : 1500 < N
  ·go_wp2_with (at_builtin; refine wpList_app rfl _ _ _ rfl rfl rfl HRUN.out ?_)
   go_ret2
   have e := HRF.out
   rw [buildF_big HV.out (by rw [hXL.out]; exact hbig)] at e
   subst e
   exact ⟨none, 0, 0, rfl, rfl, BytI.nil _ _ H3.out.2⟩
  ·have hN2 : N ≤ 1500 := by omega
   go_wp2_with (at_builtin; refine wpList_app rfl _ _ _ rfl rfl rfl HRUN.out ?_)
   clear HRUN H2 hbig
   refine (H3.out.set 2 2 _ rfl (by omega) (by omega) (by omega) (by omega)).mono ?_
   rintro e w4 ⟨rfl, hb4⟩
   have H4 := zqd hb4
   clear hb4 H3
   go_wp2_with fail
   refine (H4.out.set 24 24 _ rfl (by omega) (by omega) (by omega) (by omega)).mono ?_
   rintro e w5 ⟨rfl, hb5⟩
   have H5 := zqd (show BytI w (some ⟨g3, 0, none⟩) N cap3 (put2 (headL h ++ ys)) w5 by unfold put2; rw [hXL.out]; exact hb5)
   clear hb5 H4
   go_wp2_with fail
   have hcut := (H5.out.1.cut 20 (by omega)).rd
   refine (rsum_any _ 20 cap3 _ w5 hcut (by omega)).mono ?_
   rintro e w' ⟨rfl, rfl⟩
   have hfr := foldS_rng (foldS 0 + words ((put2 (headL h ++ ys)).take 20))
   have hsr : 0 ≤ addS 0 ((put2 (headL h ++ ys)).take 20) ∧ addS 0 ((put2 (headL h ++ ys)).take 20) ≤ 65535 := hfr
   obtain ⟨s, hs⟩ : ∃ s, addS 0 ((put2 (headL h ++ ys)).take 20) = s := ⟨_, rfl⟩
   rw [hs] at hsr ⊢
   obtain ⟨s1, s2⟩ := hsr
   have HS := zqd hs
   clear hs hfr hcut
   go_wp2_with fail
   refine (H5.out.set 10 10 _ rfl (by omega) (by omega) (by omega) (by omega)).mono ?_
   rintro e w6 ⟨rfl, hb6⟩
   have H6 := zqd (show BytI w (some ⟨g3, 0, none⟩) N cap3 (bldL (headL h ++ ys)) w6 by unfold bldL; rw [HS.out]; exact hb6)
   clear hb6 H5
   go_wp2_with fail
   go_ret2
   have e := HRF.out
   rw [buildF_yes HV.out (by rw [hXL.out]; exact hN2)] at e
   subst e
   exact ⟨_, N, cap3, rfl, by show N = (bldL _).length; rw [bldL_len, hXL.out], H6.out⟩
end Go.Proofs.YtlnkofpcidngoaaDoor
/- ref01.Same: two strings of bytes are equal. -/
namespace Go.Proofs.YtlnkofpcidngoaaDoor
open Go.ChangeShapes Go.WideShapes Go.ChangeAt Go.RowKit
theorem conv_rd {P : Program} {w : World} {a : Option Addr} {len : Nat} {xs : List Int} (h : Rd .u8 w a len xs) (cap : Nat) (src e dst : TypeId) (hs : P.underlying src = some (.slice e)) (he : P.underlying e = some (.int .u8)) (hd : P.underlying dst = some .string) :
  (convert src dst (.slice a len cap)).run P w = .ok (.string (strOfNums xs)) w := by
 obtain ⟨h1, _, _, h4⟩ := h
 rcases h4 with h0 | ⟨b, off, rfl, hb, hc⟩
 ·subst h0
  have : xs = [] := List.eq_nil_of_length_eq_zero h1
  subst this
  rw [run_convert_bytes_string w src dst e _ 0 cap hs he hd]
  cases a <;> simp [Conv.bytesToString, loadCells]
  all_goals rfl
 ·exact run_convert_bytes_arg w src e hs he b off len cap xs h1 (fun i hi => by rw [hc i hi]; simp [List.getD]) dst hd
theorem byte_inj {x y : Int} (hx : 0 ≤ x ∧ x ≤ 255) (hy : 0 ≤ y ∧ y ≤ 255) (h : UInt8.ofNat x.toNat = UInt8.ofNat y.toNat) : x = y := by
 have := congrArg UInt8.toNat h
 simp at this
 omega
theorem nums_inj : ∀ (xs ys : List Int), (∀ x ∈ xs, 0 ≤ x ∧ x ≤ 255) → (∀ x ∈ ys, 0 ≤ x ∧ x ≤ 255) → (xs.map fun n => UInt8.ofNat n.toNat) = (ys.map fun n => UInt8.ofNat n.toNat) → xs = ys
 | [], [], _, _, _ => rfl
 | [], _ :: _, _, _, h => by simp at h
 | _ :: _, [], _, _, h => by simp at h
 | x :: xs, y :: ys, hx, hy, h => by
  simp only [List.map_cons, List.cons.injEq] at h
  rw [byte_inj (hx x (by simp)) (hy y (by simp)) h.1, nums_inj xs ys (fun z hz => hx z (by simp [hz])) (fun z hz => hy z (by simp [hz])) h.2]
theorem str_inj {xs ys : List Int} (hx : ∀ x ∈ xs, 0 ≤ x ∧ x ≤ 255) (hy : ∀ x ∈ ys, 0 ≤ x ∧ x ≤ 255) : strOfNums xs = strOfNums ys ↔ xs = ys := by
 constructor
 ·intro h
  refine nums_inj xs ys hx hy ?_
  rw [← strOfNums_data, ← strOfNums_data, h]
 ·rintro rfl; rfl
theorem rd_bytes {w : World} {a : Option Addr} {len : Nat} {xs : List Int} (h : Rd .u8 w a len xs) : ∀ x ∈ xs, 0 ≤ x ∧ x ≤ 255 := fun x hx => bounds_u8 (h.2.1 x hx)
theorem ret_bool' {a b : Bool} (h : a = b) : Ending.returned (.bool a) = .returned (.bool b) := by rw [h]
set_option maxRecDepth 20000 in
set_option maxHeartbeats 2000000 in
theorem bsame_any (a b : Option Addr) (l c l' c' : Nat) (xs ys : List Int) (w : World) (hx : Rd .u8 w a l xs) (hy : Rd .u8 w b l' ys) :
  Calls Tryd.prog 26 #[.slice a l c, .slice b l' c'] w fun e w' => e = .returned (.bool (decide (xs = ys))) ∧ w = w' := by
 have k1 := conv_rd (P := Tryd.prog) hx c 39 5 9 Tryd.underlying39 Tryd.underlying5 Tryd.underlying9
 have k2 := conv_rd (P := Tryd.prog) hy c' 39 5 9 Tryd.underlying39 Tryd.underlying5 Tryd.underlying9
 have hi := str_inj (rd_bytes hx) (rd_bytes hy)
 have HI := zqd hi
 clear hi hx hy
 go_enter Tryd.func26, Tryd.ntmps26
 go_wp2_with fail
 go_ret
 refine ⟨ret_bool' ?_, rfl⟩
 have hi := HI.out
 rw [ByteArray.toList_eq, ByteArray.toList_eq, Bool.eq_iff_iff, beq_iff_eq, decide_eq_true_eq, ← hi]
 exact ⟨fun h => bytes_inj h, fun h => by rw [h]⟩
end Go.Proofs.YtlnkofpcidngoaaDoor
/- Regions that draw their order, walked once (beside Sched): a head operation may look at new values, of which a predicate is known. -/
namespace Go.Proofs.YtlnkofpcidngoaaDoor
open Go.ChangeShapes Go.WideShapes Go.ChangeAt Go.RowKit
namespace SchedD
open Sched (gq nq tq Stable NPred Walk2 EndN dstOf bef chk1 lst Closed newsL newsL_congr put_size put_defers put_get look_same gq_wp gq_late nq_wp tq_wp uniq dst_lt lst_set closed_set acts_reg Inv1 inv1_fix inv1_new putNews endN_inst putNews_reg Inv2 inv2_next cnt cnt_set cnt_zero all_of_ready chk_edge chk_pair listed_of_bef)
variable (P : Program) (ops : Array Oper) (W : World)
def depOf : List (Nat × List (Nat × Tmp)) → Nat → List (Nat × Tmp)
 | [], _ => []
 | (j, d) :: r, i => if i = j then d else depOf r i
def nsel : List (Nat × NPred) → Nat → NPred
 | [], _ => fun _ _ _ _ => True
 | (j, n) :: r, k => if k = j then n else nsel r k
def DepN (N : Nat → NPred) (w : World) (K : Act → Prop) : List (Nat × Tmp) → Act → Prop
 | [], a => K a
 | (k, t) :: ks, a => ∀ lo hi u, N k lo hi u w → DepN N w K ks (a.put (some t) u)
def Walk1 (late news : List Nat) (N : Nat → NPred) (deps : List (Nat × List (Nat × Tmp))) (Q : Act → List (Option Tmp × NPred) → Prop) : List Oper → Nat → Act → List (Option Tmp × NPred) → Prop
 | [], _, a, L => Q a L
 | o :: r, k, a, L =>
  if news.contains k then
   Stable (N k) ∧ (∀ w, Gr W w → DepN N w (fun a' => Region.wanted o (yielded ops a'.tmps) = true ∧ nq P o a' w (N k)) (depOf deps k) a) ∧ Walk1 late news N deps Q r (k + 1) a (L ++ [(o.dst, N k)])
  else
   (∃ v, (∀ w, (late.contains k = true ∨ Gr W w) → DepN N w (fun a' => Region.wanted o (yielded ops a'.tmps) = true ∧ gq P o a' w v (late.contains k)) (depOf deps k) a) ∧ Walk1 late news N deps Q r (k + 1) (a.put o.dst v) L) ∨
   ((∀ w, (late.contains k = true ∨ Gr W w) → DepN N w (fun a' => Region.wanted o (yielded ops a'.tmps) = false) (depOf deps k) a) ∧ Walk1 late news N deps Q r (k + 1) (a.put o.dst undef) L)
def chk2 (B : Array Nat) (m : Nat) (late news : List Nat) (deps : List (Nat × List (Nat × Tmp))) : Bool :=
 decide (m ≤ ops.size) && (news.all fun k => decide (k < m)) && (late.all fun k => decide (k < m) && !news.contains k && (depOf deps k).isEmpty) &&
 (decide (m = ops.size) || (List.range m).all fun j => late.contains j || bef B m j) &&
 ((List.range ops.size).all fun i => decide (i ≤ m) || bef B i (i - 1)) &&
 ((List.range m).all fun i => match ops[i]? with
  | none => false
  | some o => (news.all fun k => match dstOf ops k with | some t => !(o.looksAt ops).contains t || (depOf deps i).contains (k, t) | none => true) &&
   ((depOf deps i).all fun p => decide (p.1 < i) && news.contains p.1 && bef B i p.1 && (dstOf ops p.1 == some p.2)))
variable {P ops W}
variable {B : Array Nat} {m : Nat} {late news : List Nat} {N : Nat → NPred} {deps : List (Nat × List (Nat × Tmp))}
theorem chk2_parts (h : chk2 ops B m late news deps = true) : m ≤ ops.size ∧ (∀ j, news.contains j = true → j < m) ∧ (∀ j, late.contains j = true → news.contains j = false ∧ depOf deps j = []) ∧
  (m = ops.size ∨ ∀ j, j < m → late.contains j = true ∨ bef B m j = true) ∧ (∀ i, i < ops.size → i ≤ m ∨ bef B i (i - 1) = true) ∧
  (∀ i o, i < m → ops[i]? = some o → (∀ j t, news.contains j = true → dstOf ops j = some t → t ∈ o.looksAt ops → (j, t) ∈ depOf deps i) ∧ ∀ p ∈ depOf deps i, p.1 < i ∧ news.contains p.1 = true ∧ bef B i p.1 = true ∧ dstOf ops p.1 = some p.2) := by
 simp only [chk2, Bool.and_eq_true, decide_eq_true_eq] at h
 obtain ⟨⟨⟨⟨⟨h1, h2⟩, h3⟩, h4⟩, h5⟩, h6⟩ := h
 refine ⟨h1, fun j hj => ?_, fun j hj => ?_, ?_, fun i hi => ?_, fun i o hi ho => ?_⟩
 ·have := List.all_eq_true.1 h2 j (by simpa using hj); simpa using this
 ·have := List.all_eq_true.1 h3 j (by simpa using hj)
  simp only [Bool.and_eq_true, Bool.not_eq_true', List.isEmpty_iff] at this
  exact ⟨this.1.2, this.2⟩
 ·rcases Bool.or_eq_true _ _ ▸ h4 with h | h
  ·exact .inl (by simpa using h)
  ·exact .inr fun j hj => by
    have := List.all_eq_true.1 h j (List.mem_range.2 hj)
    rwa [Bool.or_eq_true] at this
 ·have := List.all_eq_true.1 h5 i (List.mem_range.2 hi)
  simpa using this
 ·have h7 := List.all_eq_true.1 h6 i (List.mem_range.2 hi)
  simp only [ho, Bool.and_eq_true] at h7
  refine ⟨fun j t hj hd ht => ?_, fun p hp => ?_⟩
  ·have h8 := List.all_eq_true.1 h7.1 j (by simpa using hj)
   rw [hd] at h8
   simp only [Bool.or_eq_true, Bool.not_eq_true', List.contains_eq_mem, decide_eq_false_iff_not, decide_eq_true_eq] at h8
   rcases h8 with h8 | h8
   ·exact absurd ht h8
   ·exact h8
  ·have h8 := List.all_eq_true.1 h7.2 p hp
   simp only [Bool.and_eq_true, decide_eq_true_eq, beq_iff_eq] at h8
   exact ⟨h8.1.1.1, h8.1.1.2, h8.1.2, h8.2⟩
def FixOK (P : Program) (ops : Array Oper) (W : World) (late : List Nat) (N : Nat → NPred) (deps : List (Nat × List (Nat × Tmp))) (i : Nat) (a : Act) (v : Value) : Prop := ∃ o, ops[i]? = some o ∧
 ((∀ w, (late.contains i = true ∨ Gr W w) → DepN N w (fun a' => Region.wanted o (yielded ops a'.tmps) = true ∧ gq P o a' w v (late.contains i)) (depOf deps i) a) ∨
  ((∀ w, (late.contains i = true ∨ Gr W w) → DepN N w (fun a' => Region.wanted o (yielded ops a'.tmps) = false) (depOf deps i) a) ∧ v = undef))
def NewOK (P : Program) (ops : Array Oper) (W : World) (N : Nat → NPred) (deps : List (Nat × List (Nat × Tmp))) (i : Nat) (a : Act) : Prop := ∃ o, ops[i]? = some o ∧ Stable (N i) ∧
 ∀ w, Gr W w → DepN N w (fun a' => Region.wanted o (yielded ops a'.tmps) = true ∧ nq P o a' w (N i)) (depOf deps i) a
theorem walk1_ext {Q : Act → List (Option Tmp × NPred) → Prop} : ∀ (l : List Oper) (k : Nat) (a : Act) (L : List (Option Tmp × NPred)), (∀ j, j < l.length → l[j]? = ops[k + j]?) → Walk1 P ops W late news N deps Q l k a L →
  ∃ (A : Nat → Act) (v : Nat → Value), A k = a ∧
   (∀ i, k ≤ i → i < k + l.length → (news.contains i = true → A (i + 1) = A i ∧ NewOK P ops W N deps i (A i)) ∧ (news.contains i = false → A (i + 1) = (A i).put (dstOf ops i) (v i) ∧ FixOK P ops W late N deps i (A i) (v i))) ∧
   Q (A (k + l.length)) (L ++ newsL ops news N l.length k)
 | [], k, a, L, _, h => ⟨fun _ => a, fun _ => undef, rfl, fun i h1 h2 => by simp at h2; omega, by simpa [newsL, Walk1] using h⟩
 | o :: r, k, a, L, hl, h => by
  have ho : ops[k]? = some o := by simpa using (hl 0 (by simp)).symm
  have hl' : ∀ j, j < r.length → r[j]? = ops[k + 1 + j]? := fun j hj => by
   have := hl (j + 1) (by simpa using hj)
   simpa [Nat.add_assoc, Nat.add_comm 1 j] using this
  have hd : dstOf ops k = o.dst := by simp [dstOf, ho]
  have hlen : k + (o :: r).length = k + 1 + r.length := by simp; omega
  have join : ∀ (a1 : Act) (L1 : List (Option Tmp × NPred)) (v0 : Value), Walk1 P ops W late news N deps Q r (k + 1) a1 L1 →
    ((news.contains k = true → a1 = a ∧ NewOK P ops W N deps k a) ∧ (news.contains k = false → a1 = a.put (dstOf ops k) v0 ∧ FixOK P ops W late N deps k a v0)) →
    (L1 = L ++ (if news.contains k then [(dstOf ops k, N k)] else [])) → ∃ (A : Nat → Act) (v : Nat → Value), A k = a ∧
   (∀ i, k ≤ i → i < k + (o :: r).length → (news.contains i = true → A (i + 1) = A i ∧ NewOK P ops W N deps i (A i)) ∧ (news.contains i = false → A (i + 1) = (A i).put (dstOf ops i) (v i) ∧ FixOK P ops W late N deps i (A i) (v i))) ∧
   Q (A (k + (o :: r).length)) (L ++ newsL ops news N (o :: r).length k) := by
   intro a1 L1 v0 hw hk hL
   obtain ⟨A, v, hA, hstep, hQ⟩ := walk1_ext r (k + 1) a1 L1 hl' hw
   refine ⟨fun i => if i = k then a else A i, fun i => if i = k then v0 else v i, by simp, ?_, ?_⟩
   ·intro i h1 h2
    by_cases hik : i = k
    ·subst hik
     simp only [if_true, show ¬ i + 1 = i from by omega, if_false, hA]
     exact hk
    ·have := hstep i (by omega) (by omega)
     simp only [hik, if_false, show ¬ i + 1 = k from by omega]
     exact this
   ·have e1 : ¬ k + (o :: r).length = k := by simp
    show Q (if k + (o :: r).length = k then a else A (k + (o :: r).length)) _
    rw [if_neg e1, hlen]
    rw [hL] at hQ
    simp only [List.length_cons, newsL]
    simpa [List.append_assoc] using hQ
  unfold Walk1 at h
  by_cases hn : news.contains k = true
  ·rw [if_pos hn] at h
   obtain ⟨hs, hq, hr⟩ := h
   exact join a _ undef hr ⟨fun _ => ⟨rfl, o, ho, hs, hq⟩, fun e => (by rw [hn] at e; cases e)⟩ (by rw [if_pos hn, hd])
  ·have hnf : news.contains k = false := by simpa using hn
   rw [if_neg hn] at h
   rcases h with ⟨v0, hq, hr⟩ | ⟨hw, hr⟩
   ·exact join _ L v0 hr ⟨fun e => (by rw [hnf] at e; cases e), fun _ => ⟨by rw [hd], o, ho, .inl hq⟩⟩ (by rw [if_neg hn]; simp)
   ·exact join _ L undef hr ⟨fun e => (by rw [hnf] at e; cases e), fun _ => ⟨by rw [hd], o, ho, .inr ⟨hw, rfl⟩⟩⟩ (by rw [if_neg hn]; simp)
def putL (nv : Nat → Value) : List (Nat × Tmp) → Act → Act
 | [], a => a
 | (k, t) :: ks, a => putL nv ks (a.put (some t) (nv k))
theorem depN_inst {nv : Nat → Value} {lo hi : Nat → Nat} {w : World} {K : Act → Prop} : ∀ (l : List (Nat × Tmp)) (a : Act), (∀ p ∈ l, N p.1 (lo p.1) (hi p.1) (nv p.1) w) → DepN N w K l a → K (putL nv l a)
 | [], _, _, h => h
 | (k, t) :: ks, a, hf, h => depN_inst ks _ (fun p hp => hf p (by simp [hp])) (h _ _ _ (hf (k, t) (by simp)))
theorem putL_size (nv : Nat → Value) : ∀ (l : List (Nat × Tmp)) (a : Act), (putL nv l a).tmps.size = a.tmps.size
 | [], _ => rfl
 | (k, t) :: ks, a => by unfold putL; rw [putL_size nv ks]; simp [Act.put]
theorem putL_get (hch : chk1 ops B = true) (nv : Nat → Value) : ∀ (l : List (Nat × Tmp)) (a : Act), (∀ p ∈ l, dstOf ops p.1 = some p.2) → ∀ t, t < a.tmps.size →
  (∀ j, (j, t) ∈ l → (putL nv l a).tmps[t]? = some (nv j)) ∧ ((∀ j, (j, t) ∉ l) → (putL nv l a).tmps[t]? = a.tmps[t]?)
 | [], a, _, t, _ => ⟨fun j h => (by cases h), fun _ => rfl⟩
 | (k, s) :: ks, a, hd, t, ht => by
  unfold putL
  obtain ⟨h1, h2⟩ := putL_get hch nv ks (a.put (some s) (nv k)) (fun p hp => hd p (by simp [hp])) t (by rw [put_size]; exact ht)
  rw [put_get _ _ _ _ ht] at h2
  refine ⟨fun j hj => ?_, fun hno => ?_⟩
  ·by_cases hin : ∃ i, (i, t) ∈ ks
   ·obtain ⟨i, hi⟩ := hin
    have hji : j = i := uniq hch (hd (j, t) hj) (hd (i, t) (by simp [hi]))
    rw [hji]; exact h1 i hi
   ·rcases List.mem_cons.1 hj with e | hj
    ·cases e
     rw [h2 (fun i hi => hin ⟨i, hi⟩), if_pos rfl]
    ·exact absurd ⟨j, hj⟩ hin
  ·rw [h2 (fun j hj => hno j (by simp [hj])), if_neg (fun e => by cases e; exact hno k (by simp))]
section
variable {a0 : Act} {v : Nat → Value} {listed : Array Bool} {a : Act} {w w' : World}
theorem look1 (hch : chk1 ops B = true) (hc2 : chk2 ops B m late news deps = true) {A : Nat → Act} (hA0 : A 0 = a0)
  (hstep : ∀ i, i < m → (news.contains i = true → A (i + 1) = A i) ∧ (news.contains i = false → A (i + 1) = (A i).put (dstOf ops i) (v i)))
  (inv : Inv1 ops W m news a0 v N listed a w) {i : Nat} {o : Oper} (hi : i < m) (ho : ops[i]? = some o) (hr : ∀ e ∈ o.after, Region.binds .any e = true → lst listed e.on = true) (hun : lst listed i = false) :
  ∃ (nv : Nat → Value) (lo hi' : Nat → Nat), (∀ p ∈ depOf deps i, N p.1 (lo p.1) (hi' p.1) (nv p.1) w) ∧ ∀ t ∈ o.looksAt ops, a.tmps[t]? = (putL nv (depOf deps i) (A i)).tmps[t]? := by
 obtain ⟨h1, h2, h3⟩ := acts_reg hch hstep i (Nat.le_of_lt hi)
 rw [hA0] at h1 h2 h3
 obtain ⟨nv, lo, hi', r1, r2, r3, _⟩ := inv.regs
 obtain ⟨_, _, _, _, _, hlk⟩ := chk2_parts hc2
 obtain ⟨k1, k2⟩ := hlk i o hi ho
 refine ⟨nv, lo, hi', fun p hp => ?_, fun t ht => ?_⟩
 ·obtain ⟨q1, q2, q3, q4⟩ := k2 p hp
  exact (r3 p.1 q2 (listed_of_bef hch inv.closed i o ho hr p.1 q3 (dst_lt q4))).1
 ·rcases Nat.lt_or_ge t a0.tmps.size with hlt | hge
  ·obtain ⟨g1, g2⟩ := putL_get hch nv (depOf deps i) (A i) (fun p hp => (k2 p hp).2.2.2) t (by rw [h2]; exact hlt)
   by_cases hex : ∃ j, dstOf ops j = some t
   ·obtain ⟨j, hj⟩ := hex
    cases hnj : news.contains j
    ·rw [g2 (fun j' hj' => by
      obtain ⟨_, q2, _, q4⟩ := k2 _ hj'
      rw [uniq hch q4 hj, hnj] at q2; cases q2)]
     rcases ((chk_pair hch ho (dst_lt hj)).2 t hj).2 ht with ⟨hji, hb⟩ | ⟨hij, hb⟩
     ·have hl := listed_of_bef hch inv.closed i o ho hr j hb (dst_lt hj)
      rw [r1 t hlt j hj hl, (h3 t hlt).1 j hji hnj hj, hnj]; rfl
     ·have hl : lst listed j = false := by
       cases hlj : lst listed j
       ·rfl
       ·obtain ⟨oj, hoj⟩ : ∃ oj, ops[j]? = some oj := ⟨ops[j]'(dst_lt hj), Array.getElem?_eq_getElem _⟩
        have := listed_of_bef hch inv.closed j oj hoj (fun e he hbb => inv.closed j oj hoj hlj e he hbb) i hb (Array.getElem?_eq_some_iff.1 ho).1
        rw [hun] at this; cases this
      rw [r2 t hlt (fun j' hj' => by rw [uniq hch hj' hj]; exact hl), (h3 t hlt).2 (fun j' hj' _ hd => by rw [uniq hch hd hj] at hj'; omega)]
    ·have hdp := k1 j t hnj hj ht
     obtain ⟨_, _, q3, _⟩ := k2 _ hdp
     have hl := listed_of_bef hch inv.closed i o ho hr j q3 (dst_lt hj)
     rw [r1 t hlt j hj hl, hnj, g1 j hdp]; rfl
   ·rw [g2 (fun j' hj' => hex ⟨j', (k2 _ hj').2.2.2⟩), r2 t hlt (fun j hj => absurd ⟨j, hj⟩ hex), (h3 t hlt).2 (fun j _ _ hd => hex ⟨j, hd⟩)]
  ·rw [Array.getElem?_eq_none (by rw [inv.sz]; exact hge), Array.getElem?_eq_none (by rw [putL_size, h2]; exact hge)]
variable {Q' : Act → World → Prop}
theorem inv2_start (hch : chk1 ops B = true) (hc2 : chk2 ops B m late news deps = true) {A : Nat → Act} (hA0 : A 0 = a0)
  (hstep : ∀ i, i < m → (news.contains i = true → A (i + 1) = A i) ∧ (news.contains i = false → A (i + 1) = (A i).put (dstOf ops i) (v i)))
  (inv : Inv1 ops W m news a0 v N listed a w) (hall : ∀ j, j < m → late.contains j = false → lst listed j = true)
  (H : EndN W w (fun a' => Walk2 P ops Q' (ops.toList.drop m) a' w) (newsL ops news N m 0) [] (A m)) : Inv2 P ops Q' m late news a0 v m listed a w := by
 obtain ⟨hmn, hnm, hlp, _, _, _⟩ := chk2_parts hc2
 have hln : ∀ j, late.contains j = true → news.contains j = false := fun j hj => (hlp j hj).1
 have hnl : ∀ j, news.contains j = true → lst listed j = true := fun j hj => by
  refine hall j (hnm j hj) ?_
  cases h : late.contains j
  ·rfl
  ·rw [hln j h] at hj; cases hj
 obtain ⟨nv, lo, hi', r1, r2, r3, r4⟩ := inv.regs
 have hk := endN_inst (nv := nv) (lo := lo) (hi := hi') (fun i j hij hi hj => r4 i j hij hi hj (hnl i hi) (hnl j hj)) m 0 [] (A m) (fun j _ _ hj => r3 j hj (hnl j hj)) (fun _ _ _ _ p hp => by cases hp) H
 obtain ⟨g1, g2, g3⟩ := acts_reg hch hstep m (Nat.le_refl _)
 rw [hA0] at g1 g2 g3
 obtain ⟨f1, f2, f3⟩ := putNews_reg hch (news := news) (nv := nv) m 0 (A m)
 refine ⟨inv.size, inv.closed, Nat.le_refl _, hmn, fun i h1 h2 => by omega, inv.later, hall, inv.dfs, inv.sz, putNews ops news nv m 0 (A m), hk, by rw [f1, g1], by rw [f2, g2], fun t ht => ?_⟩
 obtain ⟨f4, f5⟩ := f3 t (by rw [g2]; exact ht)
 obtain ⟨g4, g5⟩ := g3 t ht
 have hfix : ∀ j, j < m → news.contains j = false → dstOf ops j = some t → (putNews ops news nv m 0 (A m)).tmps[t]? = some (v j) := fun j hj hnj hd => by
  rw [f5 (fun j' _ _ hn' hd' => by have := uniq hch hd' hd; rw [this, hnj] at hn'; cases hn'), g4 j hj hnj hd]
 have hnone : (∀ j, j < m → dstOf ops j ≠ some t) → (putNews ops news nv m 0 (A m)).tmps[t]? = a0.tmps[t]? := fun hno => by
  rw [f5 (fun j' _ h2 _ => hno j' (by omega)), g5 fun j hj _ => hno j hj]
 refine ⟨fun j hj hl hun hd => ?_, fun hno => ?_, hfix, hnone⟩
 ·exact r2 t ht fun j' hj' => by rw [uniq hch hj' hd]; exact hun
 ·by_cases hex : ∃ j, j < m ∧ dstOf ops j = some t
  ·obtain ⟨j, hj, hd⟩ := hex
   have hl : lst listed j = true := by
    cases h : late.contains j
    ·exact hall j hj h
    ·cases h2 : lst listed j
     ·exact absurd hd (hno j hj h h2)
     ·rfl
   rw [r1 t ht j hd hl]
   cases hnj : news.contains j
   ·rw [hfix j hj hnj hd]; rfl
   ·rw [f4 j (by omega) (by omega) hnj hd]; rfl
  ·rw [hnone (fun j hj hd => hex ⟨j, hj, hd⟩)]
   refine r2 t ht fun j hd => ?_
   exact inv.later j (by
    rcases Nat.lt_or_ge j m with h | h
    ·exact absurd ⟨j, h, hd⟩ hex
    ·exact h)
theorem inv2_late (hch : chk1 ops B = true) (hc2 : chk2 ops B m late news deps = true) {p : Nat} (inv : Inv2 P ops Q' m late news a0 v p listed a w) {i : Nat} {o : Oper} (hi : i < m) (hl : late.contains i = true) (ho : ops[i]? = some o)
  (hr : ∀ e ∈ o.after, Region.binds .any e = true → lst listed e.on = true) : Inv2 P ops Q' m late news a0 v p (listed.setIfInBounds i true) (a.put o.dst (v i)) w := by
 have hin : i < listed.size := by rw [inv.size]; exact (Array.getElem?_eq_some_iff.1 ho).1
 have hd : dstOf ops i = o.dst := by simp [dstOf, ho]
 have hln : news.contains i = false := ((chk2_parts hc2).2.2.1 i hl).1
 obtain ⟨A, h1, h2, h3, h4⟩ := inv.ideal
 have up : ∀ j, lst listed j = true → lst (listed.setIfInBounds i true) j = true := fun j h => by rw [lst_set hin]; split <;> simp [h]
 refine ⟨by simp [inv.size], closed_set hin ho inv.closed hr, inv.mp, inv.pn, fun k hk1 hk2 => up k (inv.done k hk1 hk2), fun k hk => ?_, fun j hj1 hj2 => up j (inv.head j hj1 hj2), by rw [put_defers, inv.dfs], by rw [put_size, inv.sz],
  A, h1, h2, h3, fun t ht => ?_⟩
 ·rw [lst_set hin, if_neg (by have := inv.mp; omega)]; exact inv.todo k hk
 ·obtain ⟨c1, c2, c3, c4⟩ := h4 t ht
  rw [put_get _ _ _ _ (by rw [inv.sz]; exact ht)]
  refine ⟨fun j hj hlj hun hdj => ?_, fun hno => ?_, c3, c4⟩
  ·rw [lst_set hin] at hun
   by_cases hij : i = j
   ·subst hij; simp at hun
   ·rw [if_neg hij] at hun
    rw [if_neg (fun e => hij (uniq hch (by rw [hd]; exact e) hdj))]
    exact c1 j hj hlj hun hdj
  ·by_cases hdi : o.dst = some t
   ·rw [if_pos hdi, c3 i hi hln (by rw [hd]; exact hdi)]
   ·rw [if_neg hdi]
    refine c2 fun j hj hlj hun hdj => ?_
    by_cases hij : i = j
    ·subst hij; exact hdi (by rw [← hd]; exact hdj)
    ·exact hno j hj hlj (by rw [lst_set hin, if_neg hij]; exact hun) hdj
theorem sched_any (hch : chk1 ops B = true) (hc2 : chk2 ops B m late news deps = true) (hsel : Region.noSelect ops = true) {Q : Exit → Act → World → Prop} {A : Nat → Act} (hA0 : A 0 = a0)
  (hstep : ∀ i, i < m → (news.contains i = true → A (i + 1) = A i ∧ NewOK P ops W N deps i (A i)) ∧ (news.contains i = false → A (i + 1) = (A i).put (dstOf ops i) (v i) ∧ FixOK P ops W late N deps i (A i) (v i)))
  (hend : ∀ w', Gr W w' → EndN W w' (fun a' => Walk2 P ops (Q .normal) (ops.toList.drop m) a' w') (newsL ops news N m 0) [] (A m)) :
  ∀ (fuel : Nat) (listed : Array Bool) (a : Act) (w : World), cnt listed ops.size = fuel → (Inv1 ops W m news a0 v N listed a w ∨ ∃ p, Inv2 P ops (Q .normal) m late news a0 v p listed a w) → wpAny P .any ops Q fuel listed a w := by
 have hst1 : ∀ i, i < m → (news.contains i = true → A (i + 1) = A i) ∧ (news.contains i = false → A (i + 1) = (A i).put (dstOf ops i) (v i)) := fun i hi => ⟨fun h => ((hstep i hi).1 h).1, fun h => ((hstep i hi).2 h).1⟩
 obtain ⟨hmn, hnm, hlp, hcm, hchain', hlk⟩ := chk2_parts hc2
 have hstable : ∀ j, news.contains j = true → Stable (N j) := fun j hj => by
  obtain ⟨_, _, _, h, _⟩ := (hstep j (hnm j hj)).1 hj
  exact h
 -- at the end
 have fin : ∀ (listed : Array Bool) (a : Act) (w : World), (∀ i, i < ops.size → lst listed i = true) → (Inv1 ops W m news a0 v N listed a w ∨ ∃ p, Inv2 P ops (Q .normal) m late news a0 v p listed a w) → Q .normal a w := by
  intro listed a w hall inv
  have h2 : ∃ p, Inv2 P ops (Q .normal) m late news a0 v p listed a w := by
   rcases inv with inv | h
   ·have hm : m = ops.size := by
     rcases Nat.lt_or_ge m ops.size with h | h
     ·have := inv.later m (Nat.le_refl _); rw [hall m h] at this; cases this
     ·omega
    exact ⟨m, inv2_start hch hc2 hA0 hst1 inv (fun j hj _ => hall j (by omega)) (hend w inv.gr)⟩
   ·exact h
  obtain ⟨p, inv⟩ := h2
  have hp : p = ops.size := by
   rcases Nat.lt_or_ge p ops.size with h | h
   ·have := inv.todo p (Nat.le_refl _); rw [hall p h] at this; cases this
   ·have := inv.pn; omega
  obtain ⟨A', h1, h2, h3, h4⟩ := inv.ideal
  rw [List.drop_eq_nil_of_le (by rw [hp]; simp)] at h1
  have e : a = A' := by
   have ht : a.tmps = A'.tmps := by
    apply Array.ext_getElem?
    intro t
    rcases Nat.lt_or_ge t a0.tmps.size with h | h
    ·exact (h4 t h).2.1 fun j hj _ hun _ => by rw [hall j (by omega)] at hun; cases hun
    ·rw [Array.getElem?_eq_none (by rw [inv.sz]; exact h), Array.getElem?_eq_none (by rw [h3]; exact h)]
   have hd : a.defers = A'.defers := by rw [inv.dfs, h2]
   cases a; cases A'; simp_all
  rw [e]; exact h1
 -- one operation of the chain
 have chain : ∀ (fuel : Nat) (listed : Array Bool) (a : Act) (w : World) (p : Nat) (o : Oper), (∀ a' w', (∃ q, Inv2 P ops (Q .normal) m late news a0 v q (listed.setIfInBounds p true) a' w') → wpAny P .any ops Q fuel (listed.setIfInBounds p true) a' w') →
   Inv2 P ops (Q .normal) m late news a0 v p listed a w → ops[p]? = some o → (∀ e ∈ o.after, Region.binds .any e = true → lst listed e.on = true) → wpOp P ops Q p (wpAny P .any ops Q fuel (listed.setIfInBounds p true)) a w := by
  intro fuel listed a w p o ih inv ho hr
  obtain ⟨A', h1, h2, h3, h4⟩ := inv.ideal
  have hpn := (Array.getElem?_eq_some_iff.1 ho).1
  have hdrop : ops.toList.drop p = o :: ops.toList.drop (p + 1) := by
   rw [List.drop_eq_getElem_cons (by simpa using hpn)]
   congr 1
   have := (Array.getElem?_eq_some_iff.1 ho).2
   simpa using this
  rw [hdrop] at h1
  have look := look_same (ops := ops) (o := o) (a := a) (a' := A') (fun cs b => Region.noSelect_spec hsel p o cs b ho) (fun t ht => by
   rcases Nat.lt_or_ge t a0.tmps.size with h | h
   ·refine (h4 t h).2.1 fun j hj _ hun hd => ?_
    rcases ((chk_pair hch ho (dst_lt hd)).2 t hd).2 ht with ⟨_, hb⟩ | ⟨h5, _⟩
    ·have := listed_of_bef hch inv.closed p o ho hr j hb (dst_lt hd)
     rw [hun] at this; cases this
    ·have := inv.mp; omega
   ·rw [Array.getElem?_eq_none (by rw [inv.sz]; exact h), Array.getElem?_eq_none (by rw [h3]; exact h)])
  unfold wpOp
  rw [ho]
  simp only
  rw [look.2]
  unfold Walk2 at h1
  by_cases hw : Region.wanted o (yielded ops A'.tmps) = true
  ·rw [if_pos hw] at h1 ⊢
   exact .inl (tq_wp look.1 h1 fun x w' hK => ih _ _ ⟨p + 1, inv2_next hch inv ho hr hK h2 h3 h4⟩)
  ·rw [if_neg hw] at h1 ⊢
   exact ih _ _ ⟨p + 1, inv2_next hch inv ho hr h1 h2 h3 h4⟩
 intro fuel
 induction fuel with
 | zero =>
  intro listed a w hc inv
  have hall := cnt_zero ops.size hc
  refine ⟨?_, fin listed a w hall inv⟩
  rw [List.eq_nil_iff_forall_not_mem]
  intro i hi
  obtain ⟨h0, o, ho, _⟩ := mem_ready.1 hi
  have hin := (Array.getElem?_eq_some_iff.1 ho).1
  have hs : listed.size = ops.size := by rcases inv with inv | ⟨_, inv⟩ <;> exact inv.size
  have h1 := hall i hin
  unfold lst at h1
  have hsz : i < listed.size := by omega
  simp only [Array.getD_eq_getD_getElem?, Array.getElem?_eq_getElem hsz, Option.getD_some] at h0 h1
  rw [h1] at h0; cases h0
 | succ fuel ih =>
  intro listed a w hc inv
  have hs : listed.size = ops.size := by rcases inv with inv | ⟨_, inv⟩ <;> exact inv.size
  refine ⟨fun h => fin listed a w (all_of_ready hch hs h) inv, fun i hi => ?_⟩
  obtain ⟨h0, o, ho, hr⟩ := mem_ready.1 hi
  have hin := (Array.getElem?_eq_some_iff.1 ho).1
  have hun : lst listed i = false := by
   have hsz : i < listed.size := by omega
   unfold lst
   simp only [Array.getD_eq_getD_getElem?, Array.getElem?_eq_getElem hsz, Option.getD_some] at h0 ⊢
   exact h0
  have hcnt : cnt (listed.setIfInBounds i true) ops.size = fuel := by
   have := cnt_set (listed := listed) (by omega) hun ops.size
   rw [if_pos hin] at this; omega
  have ih2 : ∀ a' w', (∃ q, Inv2 P ops (Q .normal) m late news a0 v q (listed.setIfInBounds i true) a' w') → wpAny P .any ops Q fuel (listed.setIfInBounds i true) a' w' := fun a' w' h => ih _ _ _ hcnt (.inr h)
  rcases inv with inv | ⟨p, inv⟩
  ·rcases Nat.lt_or_ge i m with him | him
   ·obtain ⟨nv, lo, hi', hdn, hl⟩ := look1 hch hc2 hA0 hst1 inv him ho hr hun
    have look := look_same (ops := ops) (o := o) (a := a) (a' := putL nv (depOf deps i) (A i)) (fun cs b => Region.noSelect_spec hsel i o cs b ho) hl
    have hd : dstOf ops i = o.dst := by simp [dstOf, ho]
    unfold wpOp
    rw [ho]
    simp only
    rw [look.2]
    cases hn : news.contains i
    ·obtain ⟨_, o', ho', hfix⟩ := (hstep i him).2 hn
     rw [ho] at ho'; cases ho'
     rcases hfix with hq | ⟨hw, hv⟩
     ·obtain ⟨hw, hq⟩ := depN_inst _ _ hdn (hq w (.inr inv.gr))
      rw [if_pos hw]
      exact .inl (gq_wp look.1 hq fun w' hg => ih _ _ _ hcnt (.inl (inv1_fix hch hstable inv him ho hr hn hg)))
     ·have hw := depN_inst _ _ hdn (hw w (.inr inv.gr))
      rw [if_neg (by rw [hw]; simp), ← hv]
      exact ih _ _ _ hcnt (.inl (inv1_fix hch hstable inv him ho hr hn (Gr.refl w)))
    ·obtain ⟨_, o', ho', _, hq⟩ := (hstep i him).1 hn
     rw [ho] at ho'; cases ho'
     obtain ⟨hw, hq⟩ := depN_inst _ _ hdn (hq w inv.gr)
     rw [if_pos hw]
     exact .inl (nq_wp look.1 hq fun x w' hg hN => ih _ _ _ hcnt (.inl (inv1_new hch hstable inv him ho hr hun hn hg hN)))
   ·have him2 : i = m := by
     rcases hchain' i hin with h | h
     ·omega
     ·by_cases hne : i = m
      ·exact hne
      ·have := listed_of_bef hch inv.closed i o ho hr (i - 1) h (by omega)
       rw [inv.later (i - 1) (by omega)] at this; cases this
    subst him2
    have hall : ∀ j, j < i → late.contains j = false → lst listed j = true := fun j hj hlj => by
     rcases hcm with h | h
     ·omega
     ·rcases h j hj with h | h
      ·rw [hlj] at h; cases h
      ·exact listed_of_bef hch inv.closed i o ho hr j h (by omega)
    exact chain fuel listed a w i o ih2 (inv2_start hch hc2 hA0 hst1 inv hall (hend w inv.gr)) ho hr
  ·rcases Nat.lt_or_ge i m with him | him
   ·have hl : late.contains i = true := by
     cases h : late.contains i
     ·rw [inv.head i him h] at hun; cases hun
     ·rfl
    obtain ⟨hn, hdep⟩ := hlp i hl
    have hd : dstOf ops i = o.dst := by simp [dstOf, ho]
    obtain ⟨A', h1, h2, h3, h4⟩ := inv.ideal
    obtain ⟨g1, g2, g3⟩ := acts_reg hch hst1 i (Nat.le_of_lt him)
    rw [hA0] at g1 g2 g3
    have hl1 : ∀ t ∈ o.looksAt ops, a.tmps[t]? = (A i).tmps[t]? := by
     intro t ht
     rcases Nat.lt_or_ge t a0.tmps.size with h | h
     ·obtain ⟨c1, c2, c3, c4⟩ := h4 t h
      by_cases hex : ∃ j, dstOf ops j = some t
      ·obtain ⟨j, hj⟩ := hex
       rcases ((chk_pair hch ho (dst_lt hj)).2 t hj).2 ht with ⟨hji, hb⟩ | ⟨hij, hb⟩
       ·have hlj := listed_of_bef hch inv.closed i o ho hr j hb (dst_lt hj)
        have hnj : news.contains j = false := by
         cases hnj : news.contains j
         ·rfl
         ·have h5 := (hlk i o him ho).1 j t hnj hj ht
          rw [hdep] at h5; cases h5
        rw [c2 (fun j' _ _ hun' hd' => by rw [uniq hch hd' hj, hlj] at hun'; cases hun'), c3 j (by omega) hnj hj, (g3 t h).1 j hji hnj hj]
       ·have hlj : lst listed j = false := by
         cases hlj : lst listed j
         ·rfl
         ·obtain ⟨oj, hoj⟩ : ∃ oj, ops[j]? = some oj := ⟨ops[j]'(dst_lt hj), Array.getElem?_eq_getElem _⟩
          have := listed_of_bef hch inv.closed j oj hoj (fun e he hbb => inv.closed j oj hoj hlj e he hbb) i hb hin
          rw [hun] at this; cases this
        have hA : (A i).tmps[t]? = a0.tmps[t]? := (g3 t h).2 fun j' hj' _ hd' => by rw [uniq hch hd' hj] at hj'; omega
        rw [hA]
        rcases Nat.lt_or_ge j m with hjm | hjm
        ·have hlate2 : late.contains j = true := by
          cases h6 : late.contains j
          ·rw [inv.head j hjm h6] at hlj; cases hlj
          ·rfl
         exact c1 j hjm hlate2 hlj hj
        ·have hjp : p ≤ j := by
          rcases Nat.lt_or_ge j p with h6 | h6
          ·rw [inv.done j hjm h6] at hlj; cases hlj
          ·exact h6
         rw [c2 (fun j' hj' _ _ hd' => by have := uniq hch hd' hj; omega), c4 fun j' hj' hd' => by have := uniq hch hd' hj; omega]
      ·rw [c2 (fun j' _ _ _ hd' => hex ⟨j', hd'⟩), c4 (fun j' _ hd' => hex ⟨j', hd'⟩), (g3 t h).2 fun j' _ _ hd' => hex ⟨j', hd'⟩]
     ·rw [Array.getElem?_eq_none (by rw [inv.sz]; exact h), Array.getElem?_eq_none (by rw [g2]; exact h)]
    have look := look_same (ops := ops) (o := o) (a := a) (a' := A i) (fun cs b => Region.noSelect_spec hsel i o cs b ho) hl1
    obtain ⟨_, o', ho', hfix⟩ := (hstep i him).2 hn
    rw [ho] at ho'; cases ho'
    unfold wpOp
    rw [ho]
    simp only
    rw [look.2]
    rcases hfix with hq | ⟨hw, hv⟩
    ·have hq1 := hq w (.inl hl)
     rw [hdep] at hq1
     obtain ⟨hw, hq'⟩ := hq1
     rw [if_pos hw]
     rw [hl] at hq'
     exact .inl (gq_late look.1 hq' (ih2 _ _ ⟨p, inv2_late hch hc2 inv him hl ho hr⟩))
    ·have hw1 := hw w (.inl hl)
     rw [hdep] at hw1
     have hw2 : Region.wanted o (yielded ops (A i).tmps) = false := hw1
     rw [if_neg (by rw [hw2]; simp), ← hv]
     exact ih2 _ _ ⟨p, inv2_late hch hc2 inv him hl ho hr⟩
   ·have hip : i = p := by
     rcases Nat.lt_or_ge i p with h | h
     ·rw [inv.done i him h] at hun; cases hun
     ·by_cases hne : i = p
      ·exact hne
      ·have hmp := inv.mp
       rcases hchain' i hin with h5 | h5
       ·omega
       ·have := listed_of_bef hch inv.closed i o ho hr (i - 1) h5 (by omega)
        rw [inv.todo (i - 1) (by omega)] at this; cases this
    subst hip
    exact chain fuel listed a w i o ih2 inv ho hr
end
variable {Q : Act → List (Option Tmp × NPred) → Prop} {o : Oper} {r : List Oper} {k : Nat} {a : Act} {L : List (Option Tmp × NPred)}
theorem walk1_nil (h : Q a L) : Walk1 P ops W late news N deps Q [] k a L := h
theorem walk1_no (hn : news.contains k = false) (hd : depOf deps k = []) (hw : Region.wanted o (yielded ops a.tmps) = false)
  (h : ∀ K : Act → Prop, (∀ a', Walk1 P ops W late news N deps Q r (k + 1) a' L → K a') → K (a.put o.dst undef)) : Walk1 P ops W late news N deps Q (o :: r) k a L := by
 have h := h _ (fun _ h => h)
 unfold Walk1; rw [if_neg (by rw [hn]; simp), hd]; exact .inr ⟨fun _ _ => hw, h⟩
theorem walk1_gr (hn : news.contains k = false) (hl : late.contains k = false) (hd : depOf deps k = []) (hw : Region.wanted o (yielded ops a.tmps) = true)
  (h : ∀ K : Act → Prop, (∀ a', Walk1 P ops W late news N deps Q r (k + 1) a' L → K a') → ∃ v, (∀ w, Gr W w → gq P o a w v false) ∧ K (a.put o.dst v)) : Walk1 P ops W late news N deps Q (o :: r) k a L := by
 obtain ⟨v, hq, h⟩ := h _ (fun _ h => h)
 unfold Walk1; rw [if_neg (by rw [hn]; simp), hd]; exact .inl ⟨v, fun w hw' => ⟨hw, by rw [hl]; exact hq w (hw'.resolve_left (by rw [hl]; simp))⟩, h⟩
theorem walk1_pure (hn : news.contains k = false) (hl : late.contains k = true) (hd : depOf deps k = []) (hw : Region.wanted o (yielded ops a.tmps) = true)
  (h : ∀ K : Act → Prop, (∀ a', Walk1 P ops W late news N deps Q r (k + 1) a' L → K a') → ∃ v, (∀ w, gq P o a w v true) ∧ K (a.put o.dst v)) : Walk1 P ops W late news N deps Q (o :: r) k a L := by
 obtain ⟨v, hq, h⟩ := h _ (fun _ h => h)
 unfold Walk1; rw [if_neg (by rw [hn]; simp), hd]; exact .inl ⟨v, fun w _ => ⟨hw, by rw [hl]; exact hq w⟩, h⟩
theorem walk1_dep (v : Value) (hn : news.contains k = false) (hl : late.contains k = false)
  (hq : ∀ w, Gr W w → DepN N w (fun a' => Region.wanted o (yielded ops a'.tmps) = true ∧ gq P o a' w v false) (depOf deps k) a)
  (h : Walk1 P ops W late news N deps Q r (k + 1) (a.put o.dst v) L) : Walk1 P ops W late news N deps Q (o :: r) k a L := by
 unfold Walk1; rw [if_neg (by rw [hn]; simp)]; exact .inl ⟨v, fun w hw' => by rw [hl]; exact hq w (hw'.resolve_left (by rw [hl]; simp)), h⟩
theorem walk1_new (hn : news.contains k = true) (hs : Stable (N k))
  (hq : ∀ w, Gr W w → DepN N w (fun a' => Region.wanted o (yielded ops a'.tmps) = true ∧ nq P o a' w (N k)) (depOf deps k) a)
  (h : Walk1 P ops W late news N deps Q r (k + 1) a (L ++ [(o.dst, N k)])) : Walk1 P ops W late news N deps Q (o :: r) k a L := by
 unfold Walk1; rw [if_pos hn]; exact ⟨hs, hq, h⟩
theorem walk1_new0 (N' : NPred) (hn : news.contains k = true) (hN : N k = N') (hd : depOf deps k = []) (hw : Region.wanted o (yielded ops a.tmps) = true) (hs : Stable N') (hq : ∀ w, Gr W w → nq P o a w N')
  (h : Walk1 P ops W late news N deps Q r (k + 1) a (L ++ [(o.dst, N')])) : Walk1 P ops W late news N deps Q (o :: r) k a L := by
 subst hN
 refine walk1_new hn hs (fun w hw' => ?_) h
 rw [hd]; exact ⟨hw, hq w hw'⟩
theorem walk1_new1 (N' N1 : NPred) (k1 : Nat) (t1 : Tmp) (hn : news.contains k = true) (hN : N k = N') (hd : depOf deps k = [(k1, t1)]) (h1 : N k1 = N1) (hs : Stable N')
  (hq : ∀ w, Gr W w → ∀ lo1 hi1 u1, N1 lo1 hi1 u1 w → Region.wanted o (yielded ops (a.put (some t1) u1).tmps) = true ∧ nq P o (a.put (some t1) u1) w N')
  (h : Walk1 P ops W late news N deps Q r (k + 1) a (L ++ [(o.dst, N')])) : Walk1 P ops W late news N deps Q (o :: r) k a L := by
 subst hN
 subst h1
 refine walk1_new hn hs (fun w hw' => ?_) h
 rw [hd]; exact fun lo hi u hu => hq w hw' lo hi u hu
theorem walk1_dep1 (v : Value) (N1 : NPred) (k1 : Nat) (t1 : Tmp) (hn : news.contains k = false) (hl : late.contains k = false) (hd : depOf deps k = [(k1, t1)]) (h1 : N k1 = N1)
  (hq : ∀ w, Gr W w → ∀ lo1 hi1 u1, N1 lo1 hi1 u1 w → Region.wanted o (yielded ops (a.put (some t1) u1).tmps) = true ∧ gq P o (a.put (some t1) u1) w v false)
  (h : Walk1 P ops W late news N deps Q r (k + 1) (a.put o.dst v) L) : Walk1 P ops W late news N deps Q (o :: r) k a L := by
 subst h1
 refine walk1_dep v hn hl (fun w hw' => ?_) h
 rw [hd]; exact fun lo hi u hu => hq w hw' lo hi u hu
theorem wp_region_schedd {id : Nat} {Q : Exit → Act → World → Prop} {a : Act} {W : World} {l : List Oper} (m : Nat) (late news : List Nat) (N : Nat → NPred) (deps : List (Nat × List (Nat × Tmp))) (hm : P.follows .mixedOrders = true)
  (hchk : (Region.noSelect l.toArray && chk1 l.toArray (Region.before l.toArray) && chk2 l.toArray (Region.before l.toArray) m late news deps) = true)
  (h : Walk1 P l.toArray W late news N deps (fun a' L => ∀ w', Gr W w' → EndN W w' (fun a'' => Walk2 P l.toArray (Q .normal) (l.drop m) a'' w') L [] a') (l.take m) 0 a []) :
  (Code.region id l.toArray true).wp P Q a W := by
 simp only [Bool.and_eq_true] at hchk
 obtain ⟨⟨hsel, hch⟩, hc2⟩ := hchk
 have hmn : m ≤ l.length := by
  have := (chk2_parts hc2).1
  simpa using this
 have hlen : (l.take m).length = m := by simp; omega
 obtain ⟨A, v, hA0, hstep, hend⟩ := walk1_ext (l.take m) 0 a [] (fun j hj => by
  rw [hlen] at hj
  simp [hj]) h
 rw [hlen] at hstep hend
 refine wp_region_any hm (sched_any hch hc2 hsel (A := A) (v := v) (N := N) hA0 (fun i hi => hstep i (Nat.zero_le _) (by omega)) (fun w' hw' => ?_) _ _ _ _ ?_ (.inl ?_))
 ·simpa using hend w' hw'
 ·have : ∀ k, k ≤ l.toArray.size → cnt (Array.replicate l.toArray.size false) k = k := by
   intro k
   induction k with
   | zero => intro _; rfl
   | succ k ih =>
    intro hk
    have e : lst (Array.replicate l.toArray.size false) k = false := by
     unfold lst; simp only [Array.getD_eq_getD_getElem?]; rw [Array.getElem?_eq_getElem (by simp only [Array.size_replicate]; omega)]; simp
    simp only [cnt, e, ih (by omega)]; simp
  exact this _ (Nat.le_refl _)
 ·have e : ∀ k, lst (Array.replicate l.toArray.size false) k = false := by
   intro k
   unfold lst
   simp only [Array.getD_eq_getD_getElem?, Array.getElem?_replicate]
   split <;> rfl
  have no : ∀ {k : Nat} {p : Prop}, lst (Array.replicate l.toArray.size false) k = true → p := fun {k p} h => by rw [e k] at h; cases h
  exact ⟨by simp, fun i o ho hl => no hl, fun i _ => e i, ⟨rfl, rfl, rfl, Nat.le_refl _, fun _ _ _ => rfl⟩, rfl, rfl,
   fun _ => undef, fun _ => 0, fun _ => 0, fun t ht j hj hl => no hl, fun t ht _ => rfl, fun j hj hl => no hl, fun i j _ _ _ hl _ => no hl⟩
end SchedD
end Go.Proofs.YtlnkofpcidngoaaDoor
/- Layer 05 (packet): bytes.Equal, bytes.Clone; Parse of the program. -/
namespace Go.Proofs.YtlnkofpcidngoaaDoor
open Go.ChangeShapes Go.WideShapes Go.ChangeAt Go.RowKit
theorem tq_storeP {P : Program} {o : Oper} {a : Act} {w : World} {K : Act → World → Prop} (ty : TypeId) (x y : Operand) (ho : o.op = .store ty x y)
  (b off : Nat) (cells : Array Value) (hx : a.eval x = .pointer (some ⟨b, off, none⟩)) (hy : a.eval y = .agg cells)
  (ht : w.there b off cells.size) (hi : (P.info? ty).map (·.size) = some cells.size) (h1 : cells.all (·.oneCell') = true)
  (h : K (a.put o.dst undef) (w.setCells b off cells.toList)) : Sched.tq P o a w K := by
 unfold Sched.tq execOp
 simp only [ho, hx, hy, Instr.storeAt, Instr.sureAddr, Sem.run_bind, Sem.run_pure, Result.andThen_ok, run_storeVar_mid w b off ty cells ht hi h1]
 exact h
theorem rget_is {a : Option Addr} {len cap : Nat} {xs : List Int} {o n : Nat} {v : Int} (hv : getN xs o n = v) (O K : Int) (w : World) (hO : O = o) (hK : K = n) (hr : Rd .u8 w a len xs) (h1 : o + n ≤ len) (h2 : n ≤ 4) (h3 : len ≤ 100000) (h4 : 0 < len) :
  Calls Tryd.prog 54 #[.slice a len cap, .int .i64 O, .int .i64 K] w fun e w' => e = .returned (.int .i64 v) ∧ w = w' := by
 subst hO hK
 exact hv ▸ rget_any a len cap xs o n w hr h1 h2 h3 h4
theorem results_cell_row2 {P : Program} {fn : Func} {p u v : Tmp} {ty : TypeId} (h : fn.results = #[.cell p ty, .tmp u, .tmp v]) (tmps : Array Value) (w : World) (g : Nat) (t : TypeId) (cs : Array Value) (fr : Nat × Nat) (d : TypeDesc)
  (hp : tmps.getD p undef = .pointer (some ⟨g, 0, none⟩)) (hg : w.heap[g]? = some (.cells cs t fr))
  (hu : P.underlying ty = some d) (hd : (match d with | .struct _ | .array _ _ => true | _ => false) = true) (hi : (P.info? ty).map (·.size) = some cs.size) :
  (results fn tmps).run P w = .ok (.tuple #[.agg cs, tmps.getD u undef, tmps.getD v undef]) w := by
 have hp' : tmps[p]?.getD undef = .pointer (some ⟨g, 0, none⟩) := by simpa using hp
 simp [results, h, hp', asAddr, run_loadVar_row w g t ty cs fr d hg hu hd hi]
def NBld (R : Int × List Int) : Sched.NPred := fun _ _ v w => ∃ a n cap, v = .tuple #[.slice a n cap, .int .i64 R.1] ∧ Rd .u8 w a n R.2
theorem NBld.stable (R : Int × List Int) : Sched.Stable (NBld R) := by
 rintro lo hi v w w' ⟨a, n, c, h1, h2⟩ hg
 exact ⟨a, n, c, h1, h2.kept hg⟩
def NBy (xs : List Int) : Sched.NPred := fun _ _ v w => ∃ a n cap, v = .slice a n cap ∧ Rd .u8 w a n xs
theorem NBy.stable (xs : List Int) : Sched.Stable (NBy xs) := by
 rintro lo hi v w w' ⟨a, n, c, h1, h2⟩ hg
 exact ⟨a, n, c, h1, h2.kept hg⟩
def NOwn (B : Nat) (xs : List Int) : Sched.NPred := fun _ _ v w => ∃ a n cap, v = .slice a n cap ∧ OwnI B 5 .u8 w a n cap xs
theorem NOwn.stable (B : Nat) (xs : List Int) : Sched.Stable (NOwn B xs) := by
 rintro lo hi v w w' ⟨a, n, c, h1, h2⟩ hg
 exact ⟨a, n, c, h1, h2.stay hg⟩
theorem rd_from {w : World} {b off len cap : Nat} {xs : List Int} (h : Rd .u8 w (some ⟨b, off, none⟩) len xs) (N : Nat) (hN : N ≤ len) (_hc : N < cap) : Rd .u8 w (some ⟨b, off + N, none⟩) (len - N) (xs.drop N) := by
 obtain ⟨h1, h2, h3, h4⟩ := h
 refine ⟨by simp; omega, fun x hx => h2 x (List.mem_of_mem_drop hx), by omega, ?_⟩
 rcases h4 with h0 | ⟨b', off', e, hb, hc⟩
 ·left; omega
 ·by_cases hz : len - N = 0
  ·exact .inl hz
  ·right
   injection e with e
   injection e with e1 e2
   subst e1 e2
   refine ⟨b, off + N, rfl, hb, fun i hi => ?_⟩
   rw [Nat.add_assoc, hc (N + i) (by omega), List.getElem?_drop]
theorem rd_none {w : World} (a : Option Addr) (xs : List Int) (N : Nat) (h : xs.length ≤ N) : Rd .u8 w a 0 (xs.drop N) := by
 rw [List.drop_eq_nil_of_le h]
 exact ⟨rfl, by simp, by simp [maxLen], .inl rfl⟩
theorem parseF_bad {xs : List Int} (h : xs.length < 28 ∨ 1500 < xs.length) : parseF xs = (zeroH, [], 2) := by rw [parseF, if_pos h]
end Go.Proofs.YtlnkofpcidngoaaDoor
/- Layer 9 (compressor), the reference: Compress, the plain law of a context. -/
namespace Go.Proofs.YtlnkofpcidngoaaDoor
open Go.ChangeShapes Go.WideShapes Go.ChangeAt Go.RowKit
theorem sameB_iff {a b : Hdr} : sameB a b = true ↔ a.kind = b.kind ∧ a.frm = b.frm ∧ a.to = b.to ∧ a.fport = b.fport ∧ a.tport = b.tport ∧ a.source = b.source := by
 simp [sameB]
theorem sameB_symm {a b : Hdr} (h : sameB a b = true) : sameB b a = true := by
 rw [sameB_iff] at h ⊢
 obtain ⟨h1, h2, h3, h4, h5, h6⟩ := h
 exact ⟨h1.symm, h2.symm, h3.symm, h4.symm, h5.symm, h6.symm⟩
theorem sameB_trans {a b c : Hdr} (h : sameB a b = true) (k : sameB b c = true) : sameB a c = true := by
 rw [sameB_iff] at h k ⊢
 obtain ⟨h1, h2, h3, h4, h5, h6⟩ := h
 obtain ⟨k1, k2, k3, k4, k5, k6⟩ := k
 exact ⟨h1.trans k1, h2.trans k2, h3.trans k3, h4.trans k4, h5.trans k5, h6.trans k6⟩
theorem sameB_refl (a : Hdr) : sameB a a = true := by rw [sameB_iff]; exact ⟨rfl, rfl, rfl, rfl, rfl, rfl⟩
structure CI (mode W : Int) (h : Hdr) (had : Bool) (P : Snd) : Prop where
 act : P.act = true
 full : 0 ≤ P.full ∧ P.full ≤ W
 refr : 0 ≤ P.refr ∧ P.refr ≤ W
 both : P.full ≤ 0 ∨ P.refr ≤ 0
 since : 0 ≤ P.since ∧ P.since ≤ 32
 long : 0 ≤ P.long ∧ P.long ≤ 3
 dyn : dynB P.str P.fol = true
 kind : h.kind = 1 → P.str = 0 ∧ P.fol = 0
 refs : ∀ x ∈ P.refs, validH x = true ∧ sameB x h = true
 len : P.refs.length = P.n
 n : P.n ≤ 32 ∧ (P.n : Int) ≤ most mode W
 ser : 0 ≤ P.ser ∧ P.ser ≤ 32
 new : had = false → mode = 3 → P.full = W ∧ P.refr = 0 ∧ P.n = 0
theorem most_le {mode W : Int} (hs : shapedB mode W = true) : most mode W ≤ 32 := by
 have := shaped_yes hs
 unfold most
 split <;> omega
theorem CI.of_act {mode W : Int} {h : Hdr} {s : Snd} (hs : shapedB mode W = true) (hc : ctxB mode W s = true) (ha : s.act = true) (hk : sameB (headS s) h = true) (hl : s.refs.length = s.n) : CI mode W h true s ∧ s.ser ≤ s.n ∧ 1 ≤ s.n := by
 unfold ctxB at hc
 rw [if_pos ha] at hc
 obtain ⟨⟨h1, h2⟩, h3, h4, h5, h6, h7, h8, h9, h10, h11⟩ := act_yes hc
 have hm := most_le hs
 refine ⟨⟨ha, h4, h5, h6, h7, h8, h9, fun hk1 => ?_, fun x hx => ⟨(h11 x hx).1, sameB_trans (h11 x hx).2 hk⟩, hl, ⟨by omega, by omega⟩, ⟨by omega, by omega⟩, fun e => by cases e⟩, by omega, by omega⟩
 have e := (sameB_iff.1 hk).1
 simp only [plainB, Bool.or_eq_true, decide_eq_true_eq, Bool.and_eq_true] at h10
 rcases h10 with h10 | h10
 ·omega
 ·exact h10
theorem CI.of_new {mode W : Int} {h : Hdr} {s : Snd} (hs : shapedB mode W = true) (hc : ctxB mode W s = true) (ha : s.act = false) (hl : s.refs.length = s.n) : s.n = 0 ∧ s.ser = 0 ∧ s.full = 0 ∧ s.refr = 0 ∧ s.since = 0 ∧ s.refs = [] ∧ CI mode W h false ⟨true, W, s.refr, s.ser, s.since, s.long, s.str, s.fol, s.a, s.n, s.c, s.refs⟩ := by
 unfold ctxB at hc
 rw [ha] at hc
 obtain ⟨h1, h2, h3, h4, h5, h6, h7, h8⟩ := empty_yes (by simpa using hc)
 obtain ⟨q1, q2, q3, q4⟩ := shaped_yes hs
 have hr : s.refs = [] := List.eq_nil_of_length_eq_zero h8
 have hn : s.n = 0 := by omega
 have hmo : 0 ≤ most mode W := by unfold most; split <;> omega
 refine ⟨hn, h3, h1, h2, h4, hr, ⟨rfl, ⟨by show 0 ≤ W; omega, Int.le_refl _⟩, ⟨by show 0 ≤ s.refr; omega, by show s.refr ≤ W; omega⟩, .inr (by show s.refr ≤ 0; omega), ⟨by show 0 ≤ s.since; omega, by show s.since ≤ 32; omega⟩, ⟨by show 0 ≤ s.long; omega, by show s.long ≤ 3; omega⟩, ?_, fun _ => ⟨h6, h7⟩, ?_, hl, ⟨by show s.n ≤ 32; omega, by show (s.n : Int) ≤ _; omega⟩, ⟨by show 0 ≤ s.ser; omega, by show s.ser ≤ 32; omega⟩, fun _ _ => ⟨rfl, h2, hn⟩⟩⟩
 ·show dynB s.str s.fol = true
  rw [h6, h7]; rfl
 ·intro x hx
  have hx' : x ∈ s.refs := hx
  rw [hr] at hx'
  cases hx'
theorem strS_rng (s t : Int) : 0 ≤ strS s t ∧ strS s t ≤ 65535 := by
 unfold strS
 split
 ·rename_i h; exact ⟨h.2.2.1, h.2.2.2⟩
 ·omega
theorem learn_dyn (a b : Hdr) : dynB (learnS a b) (learnF a b) = true := by
 have h1 : 0 ≤ learnS a b ∧ learnS a b ≤ 65535 := by
  unfold learnS
  split
  ·exact strS_rng _ _
  ·omega
 have h2 : learnF a b = 0 ∨ learnF a b = 1 := by
  unfold learnF
  split
  ·exact .inr rfl
  ·exact .inl rfl
 simp only [dynB, Bool.and_eq_true, decide_eq_true_eq, Bool.or_eq_true]
 exact ⟨h1.1, h1.2, h2⟩
theorem learn_plain {a b : Hdr} (h : b.kind = 1) : learnS a b = 0 ∧ learnF a b = 0 := by
 have hl : lrnB a b = false := by
  unfold lrnB
  cases hs : sameB a b
  ·simp
  ·have e := (sameB_iff.1 hs).1
   have : (a.kind == 2) = false := by rw [e, h]; rfl
   simp [this]
 constructor
 ·unfold learnS; rw [hl]; rfl
 ·unfold learnF; rw [hl]; rfl
theorem beg_dyn (had : Bool) (last h : Hdr) : dynB (begD had last h).1 (begD had last h).2 = true ∧ (h.kind = 1 → (begD had last h).1 = 0 ∧ (begD had last h).2 = 0) := by
 unfold begD
 cases had
 ·exact ⟨rfl, fun _ => ⟨rfl, rfl⟩⟩
 ·exact ⟨learn_dyn last h, fun hk => learn_plain hk⟩
theorem beg_dyn2 {mode W : Int} {h : Hdr} {had : Bool} {P : Snd} (hP : CI mode W h had P) : dynB P.str P.fol = true ∧ (h.kind = 1 → P.str = 0 ∧ P.fol = 0) := ⟨hP.dyn, hP.kind⟩
theorem CI.begin {mode W : Int} {h : Hdr} {had : Bool} {P : Snd} (hP : CI mode W h had P) (last : Hdr) : CI mode W h had (begS P last had h) :=
 ⟨hP.act, hP.full, hP.refr, hP.both, hP.since, hP.long, (beg_dyn had last h).1, (beg_dyn had last h).2, hP.refs, hP.len, hP.n, ⟨by show 0 ≤ (P.n : Int); omega, by show (P.n : Int) ≤ 32; have := hP.n; omega⟩, hP.new⟩
theorem CI.upd {mode W : Int} {h : Hdr} {had : Bool} {P : Snd} (hP : CI mode W h had P) (f r s t l : Int) (hf : 0 ≤ f ∧ f ≤ W) (hr : 0 ≤ r ∧ r ≤ W) (hb : f ≤ 0 ∨ r ≤ 0) (hs : 0 ≤ s ∧ s ≤ 32) (ht : 0 ≤ t ∧ t ≤ 32) (hl : 0 ≤ l ∧ l ≤ 3) (hn : had = false → mode = 3 → f = W ∧ r = 0) :
  CI mode W h had ⟨P.act, f, r, s, t, l, P.str, P.fol, P.a, P.n, P.c, P.refs⟩ :=
 ⟨hP.act, hf, hr, hb, ht, hl, hP.dyn, hP.kind, hP.refs, hP.len, hP.n, hs, fun e1 e2 => ⟨(hn e1 e2).1, (hn e1 e2).2, (hP.new e1 e2).2.2⟩⟩
theorem CI.cut {mode W : Int} {h : Hdr} {had : Bool} {P : Snd} (hsh : shapedB mode W = true) (hP : CI mode W h had P) : CI mode W h had ⟨P.act, W, 0, P.ser, P.since, P.long, P.str, P.fol, none, 0, 0, []⟩ := by
 obtain ⟨q1, q2, q3, q4⟩ := shaped_yes hsh
 have hmo : 0 ≤ most mode W := by unfold most; split <;> omega
 exact ⟨hP.act, ⟨by show 0 ≤ W; omega, Int.le_refl _⟩, ⟨by show (0 : Int) ≤ 0; omega, by show 0 ≤ W; omega⟩, .inr (Int.le_refl _), hP.since, hP.long, hP.dyn, hP.kind, (fun x hx => by cases hx), rfl, ⟨by show 0 ≤ 32; omega, by show ((0 : Nat) : Int) ≤ _; omega⟩, hP.ser, fun _ _ => ⟨rfl, rfl, rfl⟩⟩
theorem CI.fin {mode W : Int} {h : Hdr} {had : Bool} {P : Snd} (_hs : shapedB mode W = true) (hv : validH h = true) (hP : CI mode W h had P) (R : Snd) (k : Nat) (hk : k ≤ P.n) (hs1 : P.ser ≤ P.n)
  (e1 : R.act = P.act) (e2 : R.full = P.full) (e3 : R.refr = P.refr) (e4 : R.ser = if (k : Int) ≤ P.ser then P.ser - k else 0) (e5 : R.since = P.since) (e6 : R.long = P.long) (e7 : R.str = P.str) (e8 : R.fol = P.fol) (e9 : R.refs = (P.refs ++ [h]).drop k) (hm : ((P.n + 1 - k : Nat) : Int) ≤ most mode W) :
  ctxB mode W R = true ∧ R.act = true ∧ sameB (headS R) h = true := by
 have hlen : R.refs.length = P.n + 1 - k := by rw [e9]; simp [hP.len]
 have hmem : ∀ x ∈ R.refs, validH x = true ∧ sameB x h = true := by
  intro x hx
  rw [e9] at hx
  rcases List.mem_append.1 (List.mem_of_mem_drop hx) with hx | hx
  ·exact hP.refs x hx
  ·simp only [List.mem_singleton] at hx
   subst hx
   exact ⟨hv, sameB_refl _⟩
 have hhead : headS R ∈ R.refs := by
  unfold headS
  cases hr : R.refs with
  | nil => rw [hr] at hlen; simp at hlen; omega
  | cons x l => simp
 have hh := hmem _ hhead
 have ha : R.act = true := by rw [e1]; exact hP.act
 refine ⟨?_, ha, hh.2⟩
 unfold ctxB
 rw [if_pos ha]
 have f1 := hP.full
 have f2 := hP.refr
 have f3 := hP.both
 have f4 := hP.since
 have f5 := hP.long
 have f6 := hP.dyn
 have f7 := hP.ser
 simp only [actB, rngB, inB, Bool.and_eq_true, decide_eq_true_eq, Bool.not_eq_true', Bool.and_eq_false_iff, decide_eq_false_iff_not, List.all_eq_true]
 refine ⟨⟨by omega, by rw [hlen]; exact hm, ⟨?_, ?_⟩, by omega, by omega, by omega⟩, by omega, by omega, by rw [e7, e8]; exact f6, ?_, fun x hx => ?_⟩
 ·rw [e4]; split <;> omega
 ·rw [e4, hlen]; split <;> omega
 ·have hkk := (sameB_iff.1 hh.2).1
  rcases (valid_all hv).1 with h1 | h1
  ·obtain ⟨p1, p2⟩ := hP.kind h1
   simp only [plainB, e7, e8, p1, p2, decide_true, Bool.and_self, Bool.or_true]
  ·simp only [plainB, hkk, h1, decide_true, Bool.true_or]
 ·simp only [okRef, Bool.and_eq_true]
  exact ⟨(hmem x hx).1, sameB_trans (hmem x hx).2 (sameB_symm hh.2)⟩
theorem likeNo {mode W : Int} {L : List Snd} (hv : validC mode W L = true) {k i : Nat} {t s : Snd} (hk : L[k]? = some t) (hi : L[i]? = some s) (hne : k ≠ i) : likeB t s = false := by
 obtain ⟨_, _, h3⟩ := valid_parts hv
 have key : ∀ {a b : Nat} {x y : Snd}, L[a]? = some x → L[b]? = some y → a < b → likeB y x = false := by
  intro a b x y ha hb hab
  have h4 := h3 b (lt_someG hb)
  rw [okAt_at hb, Bool.and_eq_true] at h4
  have h5 := h4.2
  rw [Bool.not_eq_true', List.any_eq_false] at h5
  have hm : x ∈ L.take b := by
   apply List.mem_of_getElem? (i := a)
   rw [List.getElem?_take, if_pos hab]; exact ha
  exact Bool.eq_false_iff.2 (h5 x hm)
 have symm : ∀ x y : Snd, likeB x y = false → likeB y x = false := by
  intro x y hxy
  cases hyx : likeB y x
  ·rfl
  ·simp only [likeB, Bool.and_eq_true] at hyx
   have : likeB x y = true := by
    simp only [likeB, Bool.and_eq_true]
    exact ⟨hyx.2.1, hyx.1, sameB_symm hyx.2.2⟩
   rw [this] at hxy; cases hxy
 rcases Nat.lt_or_gt_of_ne hne with h | h
 ·exact symm _ _ (key hk hi h)
 ·exact key hi hk h
theorem found_other {mode W : Int} {L : List Snd} {h : Hdr} {i : Nat} (hv : validC mode W L = true) (hf : Found L h i) {k : Nat} {t : Snd} (hk : L[k]? = some t) (hne : k ≠ i) (ha : t.act = true) : sameB (headS t) h = false := by
 obtain ⟨s, hs, ⟨h1, h2⟩ | ⟨h1, h2, _⟩⟩ := hf
 ·cases hc : sameB (headS t) h
  ·rfl
  ·have := likeNo hv hk hs hne
   simp only [likeB, ha, h1, Bool.true_and] at this
   rw [sameB_trans hc (sameB_symm h2)] at this
   cases this
 ·exact h2 k t (lt_someG hk) hk ha
theorem valid_set {mode W : Int} {L : List Snd} {h : Hdr} {i : Nat} {R : Snd} (hv : validC mode W L = true) (hf : Found L h i) (hR : ctxB mode W R = true) (_ha : R.act = true) (hh : sameB (headS R) h = true) : validC mode W (L.set i R) = true := by
 obtain ⟨g1, g2, g3⟩ := valid_parts hv
 have hil : i < L.length := by obtain ⟨s, hs, _⟩ := hf; exact lt_someG hs
 refine valid_yes g1 (by simpa using g2) fun j hj => ?_
 have hj' : j < L.length := by simpa using hj
 obtain ⟨t, ht⟩ : ∃ t, L[j]? = some t := ⟨L[j], List.getElem?_eq_getElem hj'⟩
 have hoj := g3 j hj'
 rw [okAt_at ht, Bool.and_eq_true, Bool.not_eq_true', List.any_eq_false] at hoj
 have noR : ∀ k x, L[k]? = some x → k ≠ i → likeB x R = false ∧ likeB R x = false := by
  intro k x hx hne
  constructor
  ·cases hl : likeB x R
   ·rfl
   ·simp only [likeB, Bool.and_eq_true] at hl
    have := found_other hv hf hx hne hl.1
    rw [sameB_trans hl.2.2 hh] at this
    cases this
  ·cases hl : likeB R x
   ·rfl
   ·simp only [likeB, Bool.and_eq_true] at hl
    have := found_other hv hf hx hne hl.2.1
    rw [sameB_trans (sameB_symm hl.2.2) hh] at this
    cases this
 have mems : ∀ x ∈ (L.set i R).take j, ∃ k, k < j ∧ ((k = i ∧ x = R) ∨ (k ≠ i ∧ L[k]? = some x)) := by
  intro x hx
  obtain ⟨k, hk⟩ := List.getElem?_of_mem hx
  rw [List.getElem?_take] at hk
  split at hk
  ·rename_i hkj
   by_cases he : k = i
   ·subst he
    rw [List.getElem?_set_self hil] at hk
    injection hk with hk
    exact ⟨k, hkj, .inl ⟨rfl, hk.symm⟩⟩
   ·rw [List.getElem?_set_ne (fun e => he e.symm)] at hk
    exact ⟨k, hkj, .inr ⟨he, hk⟩⟩
  ·cases hk
 by_cases hji : j = i
 ·subst hji
  rw [okAt_at (List.getElem?_set_self hil), Bool.and_eq_true, Bool.not_eq_true', List.any_eq_false]
  refine ⟨hR, fun x hx => ?_⟩
  obtain ⟨k, hkj, ⟨h1, _⟩ | ⟨h1, h2⟩⟩ := mems x hx
  ·omega
  ·rw [(noR k x h2 h1).2]; simp
 ·rw [okAt_at (by rw [List.getElem?_set_ne (fun e => hji e.symm)]; exact ht), Bool.and_eq_true, Bool.not_eq_true', List.any_eq_false]
  refine ⟨hoj.1, fun x hx => ?_⟩
  obtain ⟨k, hkj, ⟨h1, h2⟩ | ⟨h1, h2⟩⟩ := mems x hx
  ·rw [h2, (noR j t ht hji).1]; simp
  ·exact hoj.2 x (by
    apply List.mem_of_getElem? (i := k)
    rw [List.getElem?_take, if_pos hkj]; exact h2)
theorem parseF_ok {xs : List Int} (h : (parseF xs).2.2 = 0) : validH (parseF xs).1 = true ∧ (parseF xs).2.1.length ≤ 1500 := by
 unfold parseF at h ⊢
 split at h
 ·cases h
 ·rename_i hl
  rw [if_neg hl]
  split at h
  ·rename_i hb
   rw [if_pos hb]
   refine ⟨?_, by simp only [List.length_drop]; omega⟩
   cases hv : validH (parseH xs)
   ·exfalso
    have : (buildF (parseH xs) (xs.drop (parseN xs))).2 = [] := by unfold buildF; rw [hv]; rfl
    rw [this] at hb
    rw [← hb] at hl
    simp at hl
   ·rfl
  ·cases h
end Go.Proofs.YtlnkofpcidngoaaDoor
/- Layer 9 (compressor), the reference: raw; what Compress leaves. -/
namespace Go.Proofs.YtlnkofpcidngoaaDoor
open Go.ChangeShapes Go.WideShapes Go.ChangeAt Go.RowKit
def RawPost (w : World) (e : Ending) (w' : World) : Prop := ∃ a n cap ys, e = .returned (.slice a n cap) ∧ 1 ≤ n ∧ n ≤ 1570 ∧ OwnI w.heap.size 5 .u8 w' a n cap ys ∧ Gr w w'
set_option maxRecDepth 20000 in
set_option maxHeartbeats 2000000 in
theorem raw_any (b : Option Addr) (bn bc : Nat) (xs : List Int) (w : World) (hb : Rd .u8 w b bn xs) (hn : bn ≤ 1500) : Calls Tryd.prog 34 #[.slice b bn bc] w (RawPost w) := by
 have HX := zqd (enc8_yes ⟨0, 6, 0, 0, 0, 0, 0, kindH 0, 0, 0, 0, b, bn, bc⟩ xs w ⟨rfl, hn, .inr (.inr ⟨rfl, rfl, rfl, rfl, rfl, rfl, rfl, rfl, rfl, rfl, rfl⟩)⟩ hb)
 clear hb
 go_enter Tryd.func34, Tryd.ntmps34
 go_wp2_with fail
 refine HX.out.mono ?_
 rintro e w2 ⟨a, m, cap, ys, rfl, h1, h2, ho, hg⟩
 have HO := zqd ho
 have HG := zqd hg
 clear ho hg
 go_wp2_with fail
 go_ret
 exact ⟨a, m, cap, ys, rfl, h1, h2, HO.out, HG.out⟩
theorem owni_other {B lo : Nat} {e : TypeId} {k : IntKind} {w w' : World} {a : Option Addr} {n cap : Nat} {xs : List Int} (h : OwnI lo e k w a n cap xs) {g : Nat} (hg : w.grownBy w' (Option.some g)) (hl : g < B) (hB : B ≤ lo) : OwnI lo e k w' a n cap xs :=
 h.kept hg (by
  cases hv : (Value.slice a n cap).ownBlock with
  | none => exact .inl rfl
  | some q => right; intro e; injection e with e; have := (h.below q hv).1; omega)
def NRaw : Sched.NPred := fun lo _ v w => ∃ a n c ys, v = .slice a n c ∧ 1 ≤ n ∧ n ≤ 1570 ∧ OwnI lo 5 .u8 w a n c ys
theorem NRaw.stable : Sched.Stable NRaw := by
 rintro lo hi v w w' ⟨a, n, c, ys, rfl, h1, h2, ho⟩ hg
 exact ⟨a, n, c, ys, rfl, h1, h2, ho.stay hg⟩
def AboveC (B : Nat) (a : Option Addr) (M : List Snd) : Prop := (∀ b off, a = some ⟨b, off, none⟩ → B ≤ b) ∧ ∀ t ∈ M, ∀ b off, t.a = some ⟨b, off, none⟩ → B ≤ b
theorem OwnC.aboveC {B B' : Nat} {w : World} {a : Option Addr} {n c : Nat} {M : List Snd} (h : OwnC B w a n c M) (hB : B' ≤ B) : AboveC B' a M := by
 refine ⟨fun b off e => ?_, fun t ht b off e => ?_⟩
 ·have := (own_blockG h.1 e).2.2.1; omega
 ·have := (own_blockG (h.2.1 t ht).1 e).2.2.1; omega
def CmpPost (mode W : Int) (L : List Snd) (F : Hdr × List Int × Int) (w : World) (e : Ending) (w' : World) : Prop :=
 ∃ a' c' M b bn bc bs, e = .returned (.tuple #[CVal mode W a' 16 c', .slice b bn bc, .int .i64 0]) ∧ RdC w' a' 16 c' M ∧ validC mode W M = true ∧ 1 ≤ bn ∧ bn ≤ 1570 ∧ Rd .u8 w' b bn bs ∧ Gr w w' ∧ AboveC w.heap.size a' M ∧ (F.2.2 = 0 → mode = 3 → (∀ s ∈ L, s.act = false) → ∃ R, M[0]? = some R ∧ R.act = true ∧ R.full = W ∧ R.refr = 0 ∧ R.ser = 0 ∧ R.refs = [F.1])
theorem same_act {L M : List Snd} (h : SameL L M) : (∀ s ∈ L, s.act = false) → ∀ t ∈ M, t.act = false := by
 intro hz t ht
 obtain ⟨k, hk⟩ := List.getElem?_of_mem ht
 obtain ⟨s, hs, he⟩ := h.symm.get hk
 have := hz s (List.mem_of_getElem? hs)
 have e2 := congrArg Snd.act he
 simpa [plainS, this] using e2.symm
theorem all_act {mode W : Int} {L M : List Snd} (hv : validC mode W M = true) (hall : ∀ (k : Nat) (t : Snd), k < M.length → M[k]? = some t → t.act = true) (hact : (∀ s ∈ L, s.act = false) → ∀ t ∈ M, t.act = false) : ¬ ∀ s ∈ L, s.act = false := by
 intro hz
 have hl := (valid_parts hv).2.1
 have hl0 : 0 < M.length := by omega
 have h0 : M[0]? = some M[0] := List.getElem?_eq_getElem hl0
 have h1 := hall 0 _ (by omega) h0
 have h2 := hact hz _ (List.getElem_mem hl0)
 rw [h1] at h2
 cases h2
def LstRel (g13 g16 : Nat) (S0 : Snd) (w7 wc : World) : Prop := ∃ last, CBlk g13 46 (SCells S0) wc ∧ CBlk g16 49 (HCells last) wc ∧ Gr w7 wc
def SgnRel (g13 g16 : Nat) (S0 : Snd) (last : Hdr) (w7 wc : World) : Prop := CBlk g13 46 (SCells S0) wc ∧ CBlk g16 49 (HCells last) wc ∧ Gr w7 wc
def CmRel (E : Snd → Prop) (mode W : Int) (h : Hdr) (A : Bool) (g13 g16 : Nat) (last : Hdr) (w7 wc : World) : Prop := ∃ P, CI mode W h A P ∧ E P ∧ CBlk g13 46 (SCells P) wc ∧ CBlk g16 49 (HCells last) wc ∧ Gr w7 wc
def BegRel (E : Snd → Prop) (mode W : Int) (h : Hdr) (A : Bool) (g13 g16 : Nat) (last : Hdr) (w7 : World) (v : Value) (wc : World) : Prop := ∃ beg : Bool, v = .bool beg ∧ ∃ P, CI mode W h A P ∧ E P ∧ (beg = false → P.ser ≤ P.n ∧ A = true) ∧ CBlk g13 46 (SCells P) wc ∧ CBlk g16 49 (HCells last) wc ∧ Gr w7 wc
def SameRef (S0 P : Snd) : Prop := P.a = S0.a ∧ P.n = S0.n ∧ P.c = S0.c ∧ P.refs = S0.refs
def NoRef (P : Snd) : Prop := P.a = none ∧ P.n = 0 ∧ P.c = 0 ∧ P.refs = []
def RefE (mode : Int) (S0 P : Snd) : Prop := (SameRef S0 P ∨ NoRef P) ∧ (mode = 3 → P.n ≤ 31)
def FinE (mode : Int) (S0 P : Snd) : Prop := RefE mode S0 P ∧ P.ser ≤ P.n
theorem ref_rd {mode : Int} {S0 P : Snd} {w : World} (h : RefE mode S0 P) (hr : RdH w S0.a S0.n S0.c S0.refs) : RdH w P.a P.n P.c P.refs := by
 rcases h.1 with ⟨e1, e2, e3, e4⟩ | ⟨e1, e2, e3, e4⟩
 ·rw [e1, e2, e3, e4]; exact hr
 ·rw [e1, e2, e3, e4]; exact (OwnHd.nil 0 w).rd (fun x hx => by cases hx)
def FmtRel (mode W : Int) (h : Hdr) (A : Bool) (S0 : Snd) (g13 g16 : Nat) (last : Hdr) (w7 : World) (v : Value) (wc : World) : Prop := ∃ F : Int, v = .int .i64 F ∧ (F = 1 ∨ F = 2 ∨ F = 3 ∨ F = 4 ∨ F = 5) ∧ ∃ P, CI mode W h A P ∧ FinE mode S0 P ∧ ((F = 5 → 0 < P.full) ∧ (F = 4 → 0 < P.refr)) ∧ CBlk g13 46 (SCells P) wc ∧ CBlk g16 49 (HCells last) wc ∧ Gr w7 wc
def BoolRel (E : Bool → Prop) (wd : World) (v : Value) (wc : World) : Prop := ∃ C : Bool, v = .bool C ∧ E C ∧ Gr wd wc
theorem run_neqD (a b c d : Int) (w : World) : (binOp .neq 43 (DVal a b) (DVal c d)).run Tryd.prog w = .ok (.bool (!(decide (a = c) && decide (b = d)))) w := by
 go_simp
 by_cases h1 : a = c
 ·rw [if_pos h1, decide_eq_true h1, Bool.not_true, Bool.false_or]
  by_cases h2 : b = d
  ·rw [if_pos h2, decide_eq_true h2]; rfl
  ·rw [if_neg h2, decide_eq_false h2]; rfl
 ·rw [if_neg h1, decide_eq_false h1]; rfl
end Go.Proofs.YtlnkofpcidngoaaDoor
