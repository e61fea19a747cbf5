/- Several texts in one. -/
import Derived.Test.YtlnkofpcidngoaaDoorB0
import Derived.Test.YtlnkofpcidngoaaDoorB19
import Derived.Test.YtlnkofpcidngoaaDoorB16
namespace Go.Proofs.YtlnkofpcidngoaaDoor
open Go.ChangeShapes Go.WideShapes Go.ChangeAt Go.RowKit
def FrRel (L : List Snd) (h : Hdr) (j : Nat) (f : Value) : Prop :=
 (∀ k t, k < j → L[k]? = some t → t.act = true → sameB (headS t) h = false) ∧
 ((f = .int .i64 (-1) ∧ ∀ k t, k < j → L[k]? = some t → t.act = true) ∨ ∃ (q : Nat) (s : Snd), q < j ∧ f = .int .i64 q ∧ L[q]? = some s ∧ s.act = false ∧ ∀ k t, k < q → L[k]? = some t → t.act = true)
def Found (L : List Snd) (h : Hdr) (j : Nat) : Prop := ∃ s, L[j]? = some s ∧ ((s.act = true ∧ sameB (headS s) h = true) ∨ (s.act = false ∧ (∀ k t, k < L.length → L[k]? = some t → t.act = true → sameB (headS t) h = false) ∧ ∀ k t, k < j → L[k]? = some t → t.act = true))
def FindPost (L : List Snd) (h : Hdr) (w : World) (e : Ending) (w' : World) : Prop := Gr w w' ∧ ((∃ j : Nat, e = .returned (.tuple #[.int .i64 j, .bool true]) ∧ Found L h j) ∨ (e = .returned (.tuple #[.int .i64 (-1), .bool false]) ∧ ∀ k t, k < L.length → L[k]? = some t → t.act = true))
set_option maxHeartbeats 2000000 in
set_option maxRecDepth 100000 in
theorem find_any (mode width : Int) (a : Option Addr) (n c : Nat) (L : List Snd) (h : Hdr) (w : World) (hr : RdC w a n c L) (hL : ∀ t ∈ L, HasRef t) (hn : n ≤ 1000) : Calls Tryd.prog 35 #[CVal mode width a n c, HVal h] w (FindPost L h w) := by
 have HR := zqd hr
 have HN := zqd hr.1
 have HL := zqd hL
 clear hr hL
 go_enter Tryd.func35, Tryd.ntmps35
 go_upto_region 1 with (fail)
 obtain ⟨w1, hw1⟩ : ∃ y, y = (w.alloc (.cells #[.int .i64 mode, .int .i64 width, .slice a n c] 24)).alloc (.cells (HCells h).toArray 49) := ⟨_, rfl⟩
 have hb1 : CBlk w.heap.size 24 [.int .i64 mode, .int .i64 width, .slice a n c] w1 := by rw [hw1]; exact (CBlk.new _ _ _).kept (Gr.alloc _ _)
 have hh1 : CBlk (w.heap.size + 1) 49 (HCells h) w1 := by rw [hw1]; exact heap_two _ _ _
 have hg1 : Gr w w1 := by rw [hw1]; exact (Gr.alloc _ _).trans (Gr.alloc _ _)
 simp only [HCells] at hw1
 first | rw [← hw1] | (go_show; fail)
 have HB1 := zqd hb1
 have HH1 := zqd hh1
 have HG1 := zqd hg1
 clear hw1 hb1 hh1 hg1
 go_wp2_with fail
 go_loopw [6, 7] (fun f i wr => ∃ j : Nat, j ≤ n ∧ i = .int .i64 j ∧ FrRel L h j f ∧ Gr w1 wr) (fun _ i _ => n - (intOf i).toNat)
 case atStart => exact ⟨0, by omega, rfl, ⟨fun k t hk => by omega, .inl ⟨rfl, fun k t hk => by omega⟩⟩, Gr.refl _⟩
 case round =>
   obtain ⟨j, hj, rfl, hfr, hg⟩ := hrel
   have HG := zqd hg
   obtain ⟨hf1, hf2⟩ := hfr
   have HF1 := zqd hf1
   have HF2 := zqd hf2
   have x2 := (HB1.out.kept hg).at 2 rfl
   clear hg hf1 hf2
   by_cases hlt : j < n
   · obtain ⟨s, hs, hrs⟩ := HR.out.get hlt
     obtain ⟨b, off, ea, -, hrow⟩ := HR.out.row (by omega)
     subst ea
     have hrg := hrow j s hs
     have HS := zqd hs
     obtain ⟨A, hA⟩ : ∃ A, s.act = A := ⟨_, rfl⟩
     have HA := zqd hA
     have s0 : wr.cell? ⟨b, off + j * 9, none⟩ = some (.bool A) := by rw [← hA]; exact (range_gr hrg (HG1.out.trans HG.out)) 0 _ rfl
     have HRG := zqd hrg
     have HRS := zqd hrs
     clear hs hrs hrow hrg hA
     cases A
     · rcases HF2.out with ⟨rfl, hall⟩ | ⟨q, s', hq, rfl, hq1, hq2, hq3⟩
       · have HALL := zqd hall
         clear hall
         go_wp2_with fail
         go_roundw
         case rel =>
           refine ⟨j + 1, by omega, by go_num, ⟨fun k t hk ht ha => ?_, .inr ⟨j, s, by omega, rfl, HS.out, HA.out, HALL.out⟩⟩, HG.out⟩
           by_cases hkj : k < j
           · exact HF1.out k t hkj ht ha
           · obtain rfl : k = j := by omega
             rw [HS.out] at ht; injection ht with ht; subst ht
             rw [HA.out] at ha; cases ha
         case measure => (simp [intOf] <;> omega)
       · have HQ1 := zqd hq1
         have HQ2 := zqd hq2
         have HQ3 := zqd hq3
         have hqb : decide ((q : Int) < 0) = false := decide_eq_false (by omega)
         clear hq1 hq2 hq3
         go_wp2_with fail
         go_roundw
         case rel =>
           refine ⟨j + 1, by omega, by go_num, ⟨fun k t hk ht ha => ?_, .inr ⟨q, s', by omega, rfl, HQ1.out, HQ2.out, HQ3.out⟩⟩, HG.out⟩
           by_cases hkj : k < j
           · exact HF1.out k t hkj ht ha
           · obtain rfl : k = j := by omega
             rw [HS.out] at ht; injection ht with ht; subst ht
             rw [HA.out] at ha; cases ha
         case measure => (simp [intOf] <;> omega)
     · have hrs := HRS.out
       have hn1 : 0 < s.n := by rw [← hrs.1]; exact HL.out s (List.mem_of_getElem? HS.out) HA.out
       obtain ⟨f, hf, -⟩ := hrs.get hn1
       obtain ⟨b1, o1, e1, -, r1⟩ := hrs.row hn1
       have k1 := r1 0 f hf
       rw [Nat.zero_mul, Nat.add_zero] at k1
       have HK1 := zqd (fun u (hu : Gr wr u) => range_gr k1 (HG1.out.trans (HG.out.trans hu)))
       have HHB := zqd (fun u (hu : Gr wr u) => (HH1.out.kept (HG.out.trans hu)).rng 0 (HCells h) (fun j v hv => by rw [Nat.zero_add]; exact hv))
       obtain ⟨U, hU⟩ : ∃ U, sameB f h = U := ⟨_, rfl⟩
       have HU := zqd hU
       have HUS := zqd (show sameB (headS s) h = U by rw [head_at hf, hU])
       have s8 : ∀ u, Gr wr u → u.cell? ⟨b, off + j * 9 + 8, none⟩ = some (.slice (some ⟨b1, o1, none⟩) s.n s.c) := fun u hu => by rw [← e1]; exact (range_gr HRG.out (HG1.out.trans (HG.out.trans hu))) 8 _ rfl
       have X2 := zqd (show ∀ u, Gr wr u → u.cell? ⟨w.heap.size, 2, none⟩ = some (.slice (some ⟨b, off, none⟩) n c) from fun u hu => (HB1.out.kept (HG.out.trans hu)).at 2 rfl)
       have hcap := HR.out.2.1
       clear hf r1 k1 hU e1 hrs
       go_upto_region 6 with (fail)
       clear x2 s0
       have x2 := X2.out
       refine Sched.wp_region_sched 9 [] [] (by kernel_rfl) (by kernel_rfl) ?_
       simp only [List.take_succ_cons, List.take_zero, List.drop_succ_cons, List.drop_zero]
       repeat (first | (refine Sched.walk1_no rfl rfl (fun K hK => ?_); simp only [Act.put, zqa, zqb, zqc]; refine hK _ ?_; clear hK K) | (refine Sched.walk1_gr rfl rfl rfl (fun K hK => ?_); apply Exists.intro; refine ⟨fun w1 hw1 => ?_, ?_⟩; (focus (go_simp; (try go_ints); (try (simp only [IntWalk.iteOmega]; go_simp)); first | done | fail | (with_reducible rfl) | (with_reducible exact ⟨rfl, rfl⟩))); simp only [Act.put, zqa, zqb, zqc]; refine hK _ ?_; clear hK K) | (refine Sched.walk1_pure rfl rfl rfl (fun K hK => ?_); apply Exists.intro; refine ⟨fun w1 => ?_, ?_⟩; (focus (go_simp; (try go_ints); (try (simp only [IntWalk.iteOmega]; go_simp)); first | done | (with_reducible rfl) | (with_reducible exact ⟨rfl, rfl⟩))); simp only [Act.put, zqa, zqb, zqc]; refine hK _ ?_; clear hK K) | (refine Sched.walk1_box rfl rfl ?_; apply Exists.intro; refine ⟨fun w1 hw1 => ?_, ?_⟩; (focus (go_simp; exact ⟨Gr.alloc _ _, rfl, by simp, heap_alloc_new _ _⟩))))
       refine Sched.walk1_gr rfl rfl rfl (fun K hK => ?_)
       refine ⟨HVal f, fun w1 hw1 => rng_gq (HK1.out w1 hw1) 49 _ rfl rfl Tryd.underlying49 rfl (by kernel_rfl), ?_⟩
       simp only [Act.put, zqa, zqb, zqc]
       refine hK _ ?_
       clear hK K
       refine Sched.walk1_gr rfl rfl rfl (fun K hK => ?_)
       refine ⟨HVal h, fun w1 hw1 => rng_gq (HHB.out w1 hw1) 49 _ rfl rfl Tryd.underlying49 rfl (by kernel_rfl), ?_⟩
       simp only [Act.put, zqa, zqb, zqc]
       refine hK _ ?_
       clear hK K
       (with_reducible refine Sched.walk1_nil ?_)
       intro wq hwq
       dsimp only [Sched.EndN, List.nil_append, List.cons_append, Act.put]
       (try simp only [zqa, zqb, zqc])
       repeat (first | (refine Sched.walk2_no rfl (fun K hK => ?_); simp only [Act.put, zqa, zqb, zqc]; refine hK _ ?_; clear hK K) | (refine Sched.walk2_go rfl (fun K hK => ?_); go_simp; (try go_ints); (try (simp only [IntWalk.iteOmega]; go_simp)); first | (refine hK _ _ ?_; clear hK K) | (go_at_call 50; (refine (rsame_is HU.out wq).mono ?_); rintro e w7 ⟨rfl, hg7⟩; have HG7 := zqd (HG.out.trans (hwq.trans hg7)); clear hg7; refine ⟨_, rfl, ?_⟩; refine hK _ _ ?_; clear hK K)))
       refine Sched.walk2_nil ?_
       clear x2 s8 hwq
       cases U
       · go_wp2_with fail
         go_roundw
         case rel =>
           refine ⟨j + 1, by omega, by go_num, ⟨fun k t hk ht ha => ?_, ?_⟩, HG7.out⟩
           · by_cases hkj : k < j
             · exact HF1.out k t hkj ht ha
             · obtain rfl : k = j := by omega
               rw [HS.out] at ht; injection ht with ht; subst ht
               exact HUS.out
           · rcases HF2.out with ⟨e, hall⟩ | ⟨q, s', hq, e, hq1, hq2, hq3⟩
             · refine .inl ⟨e, fun k t hk ht => ?_⟩
               by_cases hkj : k < j
               · exact hall k t hkj ht
               · obtain rfl : k = j := by omega
                 rw [HS.out] at ht; injection ht with ht; subst ht
                 exact HA.out
             · exact .inr ⟨q, s', by omega, e, hq1, hq2, hq3⟩
         case measure => (simp [intOf] <;> omega)
       · go_wp2_with fail
         go_ret2
         exact ⟨HG1.out.trans HG7.out, .inl ⟨j, rfl, s, HS.out, .inl ⟨HA.out, HUS.out⟩⟩⟩
   · obtain rfl : j = n := by omega
     rcases HF2.out with ⟨rfl, hall⟩ | ⟨q, s', hq, rfl, hq1, hq2, hq3⟩
     · have HALL := zqd hall
       clear hall
       go_wp2_with fail
       go_ret2
       exact ⟨HG1.out.trans HG.out, .inr ⟨rfl, by rw [HN.out]; exact HALL.out⟩⟩
     · have HQ1 := zqd hq1
       have HQ2 := zqd hq2
       have HQ3 := zqd hq3
       clear hq1 hq2 hq3
       go_wp2_with fail
       go_ret2
       exact ⟨HG1.out.trans HG.out, .inl ⟨q, rfl, s', HQ1.out, .inr ⟨HQ2.out, by rw [HN.out]; exact HF1.out, HQ3.out⟩⟩⟩
theorem rlearn_is {a b : Hdr} {S F : Int} (h1 : learnS a b = S) (h2 : learnF a b = F) (w : World) : Calls Tryd.prog 38 #[HVal a, HVal b] w fun e w' => e = .returned (DVal S F) ∧ Gr w w' := by
 subst h1; subst h2; exact rlearn_any a b w
theorem rpredict_is {s f n : Int} {a R : Hdr} (h : predH s f a n = R) (w : World) : Calls Tryd.prog 62 #[DVal s f, HVal a, .int .i64 n] w fun e w' => e = .returned (HVal R) ∧ Gr w w' := h ▸ rpredict_any s f a n w
theorem eqH_refl (a : Hdr) : eqH a a = true := by simp [eqH]
theorem cblk_smid {P : Program} {ops : Array Oper} {rest : List Oper} {o : Oper} {a : Act} {w : World} {Q : Exit → Act → World → Prop} (hgd : o.guard = none) (ty : TypeId) (x y : Operand) (ho : o.op = .store ty x y) (g off : Nat) (ds : List Value) {t : TypeId} {cs cs' : List Value} (hb : CBlk g t cs w) (hl : off + ds.length ≤ cs.length) (hs : setM cs off ds = cs')
   (hx : a.eval x = .pointer (some ⟨g, off, none⟩)) (hy : a.eval y = .agg ds.toArray) (hi : (P.info? ty).map (·.size) = some ds.toArray.size) (h1 : ds.all (·.oneCell') = true)
   (h : ∀ w9, CBlk g t cs' w9 → w.setCells g off ds = w9 → wpList P ops Q rest (a.put o.dst undef) w9) : wpList P ops Q (o :: rest) a w :=
 wpList_store_mid hgd ty x y ho g off ds.toArray hx hy (hb.there (by simpa using hl)) hi (all_oneCell_toArray (List.all_eq_true.1 h1)) (h _ (by
   have := heap_setCells ds off w cs hb
   unfold CBlk
   rw [this, hs]) rfl)
def begD (had : Bool) (last h : Hdr) : Int × Int := if had then (learnS last h, learnF last h) else (0, 0)
def begS (s : Snd) (last : Hdr) (had : Bool) (h : Hdr) : Snd := ⟨s.act, s.full, s.refr, s.n, s.since, s.long, (begD had last h).1, (begD had last h).2, s.a, s.n, s.c, s.refs⟩
def zeroS' : Snd := ⟨false, 0, 0, 0, 0, 0, 0, 0, none, 0, 0, []⟩
set_option maxHeartbeats 2000000 in
set_option maxRecDepth 100000 in
theorem begin_any (s : Snd) (last : Hdr) (had : Bool) (h : Hdr) (w : World) (_hn : s.n ≤ 1000) : Calls Tryd.prog 39 #[SVal s, HVal last, .bool had, HVal h] w fun e w' => e = .returned (SVal (begS s last had h)) ∧ Gr w w' := by
 go_enter Tryd.func39, Tryd.ntmps39
 go_upto_region 1 with (fail)
 obtain ⟨w0, hw0⟩ : ∃ y, y = ((w.alloc (.cells (SCells s).toArray 46)).alloc (.cells (HCells last).toArray 49)).alloc (.cells (HCells h).toArray 49) := ⟨_, rfl⟩
 obtain ⟨w1, hw1⟩ : ∃ y, y = w0.alloc (.cells (SCells zeroS').toArray 46) := ⟨_, rfl⟩
 have h3 := blocks3 w (.cells (SCells s).toArray 46) (.cells (HCells last).toArray 49) (.cells (HCells h).toArray 49)
 rw [← hw0] at h3
 have hg01 : Gr w0 w1 := by rw [hw1]; exact Gr.alloc _ _
 have hsz : w0.heap.size = w.heap.size + 1 + 1 + 1 := by rw [hw0]; simp
 have hs1 : CBlk w.heap.size 46 (SCells s) w1 := CBlk.kept h3.1 hg01
 have hl1 : CBlk (w.heap.size + 1) 49 (HCells last) w1 := CBlk.kept h3.2.1 hg01
 have hh1 : CBlk (w.heap.size + 1 + 1) 49 (HCells h) w1 := CBlk.kept h3.2.2 hg01
 have hz1 : CBlk (w.heap.size + 1 + 1 + 1) 46 (SCells zeroS') w1 := by rw [← hsz, hw1]; exact CBlk.new _ _ _
 have hg1 : Gr w w1 := by rw [hw0] at hg01; exact ((Gr.alloc _ _).trans ((Gr.alloc _ _).trans (Gr.alloc _ _))).trans hg01
 rw [hw0] at hw1
 simp only [SCells, HCells, zeroS'] at hw1
 first | rw [← hw1] | (go_show; fail)
 have HS1 := zqd hs1
 have HL1 := zqd hl1
 have HH1 := zqd hh1
 have HZ1 := zqd hz1
 have HG1 := zqd hg1
 have x8 : w1.cell? ⟨w.heap.size, 8, none⟩ = some (.slice s.a s.n s.c) := hs1.at 8 rfl
 have x3 : w1.cell? ⟨w.heap.size, 3, none⟩ = some (.int .i64 s.ser) := hs1.at 3 rfl
 have f3 := hs1.fz 3
 clear hw0 hw1 h3 hg01 hsz hs1 hl1 hh1 hz1 hg1
 have HS1' := zqd (show CBlk w.heap.size 46 (SCells ⟨s.act, s.full, s.refr, s.n, s.since, s.long, s.str, s.fol, s.a, s.n, s.c, s.refs⟩) (w1.setCell ⟨w.heap.size, 3, none⟩ (.int .i64 s.n)) from HS1.out.set 3 _ rfl)
 have hlt := HZ1.out.lt
 go_upto_region 2 with (refine cblk_smid (cs' := SCells ⟨s.act, s.full, s.refr, s.n, s.since, s.long, 0, 0, s.a, s.n, s.c, s.refs⟩) rfl 43 _ _ rfl w.heap.size 6 [.int .i64 0, .int .i64 0] HS1'.out (by simp) rfl rfl rfl (by kernel_rfl) rfl ?_; intro w2 hb2 he2; have HS2 := zqd hb2; have HE2 := zqd he2; clear hb2 he2)
 have hgr : w1.grownBy w2 (some w.heap.size) := by rw [← HE2.out]; exact grown_trans' (grown_setAt w1 _ _ _) (grown_setCells _ _ _ _)
 have HL2 := zqd (HL1.out.but hgr (by simp))
 have HH2 := zqd (HH1.out.but hgr (by simp; omega))
 have HZ2 := zqd (HZ1.out.but hgr (by simp; omega))
 have HG2 := zqd (show Gr w w2 by rw [← HE2.out]; exact gr_setCells (gr_setCell HG1.out (Nat.le_refl _) _ _) (Nat.le_refl _) _ _)
 clear x8 x3 f3 hgr HS1' HL1 HH1 HZ1 HE2
 cases had
 · have HRES := zqd (show begS s last false h = ⟨s.act, s.full, s.refr, s.n, s.since, s.long, 0, 0, s.a, s.n, s.c, s.refs⟩ from rfl)
   go_wp2_with (first | (refine cblk_load rfl 46 _ rfl w.heap.size rfl HS2.out Tryd.underlying46 rfl (by kernel_rfl) ?_) | (refine cblk_store rfl 46 _ _ rfl (w.heap.size + 1 + 1 + 1) (SCells ⟨s.act, s.full, s.refr, s.n, s.since, s.long, 0, 0, s.a, s.n, s.c, s.refs⟩) HZ2.out rfl rfl rfl (by kernel_rfl) rfl ?_; intro w9 hb9 he9; have HB9 := zqd hb9; have HGE := zqd (show Gr w w9 by rw [← he9]; exact gr_setCells HG2.out (by omega) _ _); clear hb9 he9))
   exact bodyPost_ret (results_c0 Tryd.results39 _ _ (w.heap.size + 1 + 1 + 1) _ _ rfl HB9.out Tryd.underlying46 rfl (by kernel_rfl)) rfl ⟨by rw [HRES.out], HGE.out⟩
 · obtain ⟨S, hS⟩ : ∃ S, learnS last h = S := ⟨_, rfl⟩
   obtain ⟨F, hF⟩ : ∃ F, learnF last h = F := ⟨_, rfl⟩
   have HSS := zqd hS
   have HFF := zqd hF
   have HRES := zqd (show begS s last true h = ⟨s.act, s.full, s.refr, s.n, s.since, s.long, S, F, s.a, s.n, s.c, s.refs⟩ by rw [begS, begD, if_pos rfl, hS, hF])
   clear hS hF
   go_wp2_with (first | (refine cblk_load rfl 49 _ rfl (w.heap.size + 1) rfl HL2.out Tryd.underlying49 rfl (by kernel_rfl) ?_) | (refine cblk_load rfl 49 _ rfl (w.heap.size + 1 + 1) rfl HH2.out Tryd.underlying49 rfl (by kernel_rfl) ?_))
   refine (rlearn_is HSS.out HFF.out w2).mono ?_
   rintro e w3 ⟨rfl, hg3⟩
   have HS3 := zqd (HS2.out.kept hg3)
   have HZ3 := zqd (HZ2.out.kept hg3)
   have HG3 := zqd (HG2.out.trans hg3)
   clear hg3
   go_upto_region 4 with (refine cblk_smid (cs' := SCells ⟨s.act, s.full, s.refr, s.n, s.since, s.long, S, F, s.a, s.n, s.c, s.refs⟩) rfl 43 _ _ rfl w.heap.size 6 [.int .i64 S, .int .i64 F] HS3.out (by simp) rfl rfl rfl (by kernel_rfl) rfl ?_; intro w4 hb4 he4; have HS4 := zqd hb4; have HE4 := zqd he4; clear hb4 he4)
   have HZ4 := zqd (show CBlk (w.heap.size + 1 + 1 + 1) 46 (SCells zeroS') w4 by rw [← HE4.out]; exact HZ3.out.puts _ _ (by omega))
   have HG4 := zqd (show Gr w w4 by rw [← HE4.out]; exact gr_setCells HG3.out (Nat.le_refl _) _ _)
   go_wp2_with (first | (refine cblk_load rfl 46 _ rfl w.heap.size rfl HS4.out Tryd.underlying46 rfl (by kernel_rfl) ?_) | (refine cblk_store rfl 46 _ _ rfl (w.heap.size + 1 + 1 + 1) (SCells ⟨s.act, s.full, s.refr, s.n, s.since, s.long, S, F, s.a, s.n, s.c, s.refs⟩) HZ4.out rfl rfl rfl (by kernel_rfl) rfl ?_; intro w9 hb9 he9; have HB9 := zqd hb9; have HGE := zqd (show Gr w w9 by rw [← he9]; exact gr_setCells HG4.out (by omega) _ _); clear hb9 he9))
   exact bodyPost_ret (results_c0 Tryd.results39 _ _ (w.heap.size + 1 + 1 + 1) _ _ rfl HB9.out Tryd.underlying46 rfl (by kernel_rfl)) rfl ⟨by rw [HRES.out], HGE.out⟩
end Go.Proofs.YtlnkofpcidngoaaDoor
