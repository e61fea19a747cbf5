/- Several texts in one. -/
import Derived.Test.YtlnkofpcidngoaaDoorA0
import Derived.Test.YtlnkofpcidngoaaDoorA9
import Derived.Test.YtlnkofpcidngoaaDoorA1
import Derived.Test.YtlnkofpcidngoaaDoorA6
/- Layer 9 (compressor): the program's Valid. -/
namespace Go.Proofs.YtlnkofpcidngoaaDoor
open Go.ChangeShapes Go.WideShapes Go.ChangeAt Go.RowKit
def HasRef (s : Snd) : Prop := s.act = true → 1 ≤ s.refs.length
set_option maxHeartbeats 2000000 in
set_option maxRecDepth 100000 in
theorem alike_any (s t : Snd) (g : Nat) (w : World) (hb : CBlk g 46 (SCells s) w) (hs : RdH w s.a s.n s.c s.refs) (ht : RdH w t.a t.n t.c t.refs) (h1 : HasRef s) (h2 : HasRef t) :
  Calls Tryd.prog 70 #[SVal t, .pointer (some ⟨g, 0, none⟩)] w fun e w' => e = .returned (.bool (likeB s t)) ∧ Gr w w' := by
 have HB := zqd hb
 have HS := zqd hs
 have HT := zqd ht
 obtain ⟨A, hA⟩ : ∃ A, s.act = A := ⟨_, rfl⟩
 obtain ⟨B, hB⟩ : ∃ B, t.act = B := ⟨_, rfl⟩
 have HA := zqd hA
 have HBB := zqd hB
 have H1 := zqd h1
 have H2 := zqd h2
 obtain ⟨R, hR⟩ : ∃ R, likeB s t = R := ⟨_, rfl⟩
 rw [hR]
 have HR := zqd hR
 clear hb hs ht hA hB hR h1 h2
 go_enter Tryd.func70, Tryd.ntmps70
 go_upto_region 1 with (fail)
 obtain ⟨w1, hw1⟩ : ∃ y, y = w.alloc (.cells (SCells t).toArray 46) := ⟨_, rfl⟩
 have HT1 := zqd (show CBlk w.heap.size 46 (SCells t) w1 by rw [hw1]; exact CBlk.new _ _ _)
 have hg1 : Gr w w1 := by rw [hw1]; exact Gr.alloc _ _
 simp only [SCells] at hw1
 first | rw [← hw1] | (go_show; fail)
 have HS1 := zqd (HB.out.kept hg1)
 have HG1 := zqd hg1
 clear hw1 hg1
 have s0 : ∀ u, Gr w1 u → u.cell? ⟨g, 0, none⟩ = some (.bool A) := fun u hu => by rw [← HA.out]; exact (HS1.out.kept hu).at 0 rfl
 have t0 : ∀ u, Gr w1 u → u.cell? ⟨w.heap.size, 0, none⟩ = some (.bool B) := fun u hu => by rw [← HBB.out]; exact (HT1.out.kept hu).at 0 rfl
 cases A
 ·have HF := zqd (show false = R by rw [← HR.out, likeB, HA.out]; rfl)
  refine Sched.wp_region_sched 17 [] [] (by kernel_rfl) (by kernel_rfl) ?_
  simp only [List.take_succ_cons, List.take_zero, List.drop_succ_cons, List.drop_zero]
  repeat (first | ((first | ((with_reducible refine Sched.walk1_no ?_ ?_ (fun K hK => ?_)); (focus rfl); (focus rfl)) | ((with_reducible refine Sched.walk1_gr ?_ ?_ ?_ (fun K hK => ?_)); (focus rfl); (focus rfl); (focus rfl); apply Exists.intro; refine ⟨fun w1 hw1 => ?_, ?_⟩; (focus (go_simp; (try go_ints); (try (simp only [IntWalk.iteOmega]; go_simp)); first | done | (with_reducible rfl) | (with_reducible exact ⟨rfl, rfl⟩))))); simp only [Act.put, zqa, zqb, zqc]; refine hK _ ?_; clear hK K))
  (with_reducible refine Sched.walk1_nil ?_)
  intro wq hwq
  repeat (first | (refine Sched.walk2_no rfl (fun K hK => ?_); simp only [Act.put, zqa, zqb, zqc]; refine hK _ ?_; clear hK K) | (refine Sched.walk2_go rfl (fun K hK => ?_); go_simp; (try go_ints); (try (simp only [IntWalk.iteOmega]; go_simp)); (refine hK _ _ ?_; clear hK K)))
  refine Sched.walk2_nil ?_
  have HGQ := zqd (HG1.out.trans hwq)
  clear s0 t0 hwq
  go_wp2_with fail
  go_ret
  exact ⟨ret_bool HF.out, HGQ.out⟩
 cases B
 ·have HF := zqd (show false = R by rw [← HR.out, likeB, HBB.out]; simp)
  refine Sched.wp_region_sched 17 [] [] (by kernel_rfl) (by kernel_rfl) ?_
  simp only [List.take_succ_cons, List.take_zero, List.drop_succ_cons, List.drop_zero]
  repeat (first | ((first | ((with_reducible refine Sched.walk1_no ?_ ?_ (fun K hK => ?_)); (focus rfl); (focus rfl)) | ((with_reducible refine Sched.walk1_gr ?_ ?_ ?_ (fun K hK => ?_)); (focus rfl); (focus rfl); (focus rfl); apply Exists.intro; refine ⟨fun w1 hw1 => ?_, ?_⟩; (focus (go_simp; (try go_ints); (try (simp only [IntWalk.iteOmega]; go_simp)); first | done | (with_reducible rfl) | (with_reducible exact ⟨rfl, rfl⟩))))); simp only [Act.put, zqa, zqb, zqc]; refine hK _ ?_; clear hK K))
  (with_reducible refine Sched.walk1_nil ?_)
  intro wq hwq
  repeat (first | (refine Sched.walk2_no rfl (fun K hK => ?_); simp only [Act.put, zqa, zqb, zqc]; refine hK _ ?_; clear hK K) | (refine Sched.walk2_go rfl (fun K hK => ?_); go_simp; (try go_ints); (try (simp only [IntWalk.iteOmega]; go_simp)); (refine hK _ _ ?_; clear hK K)))
  refine Sched.walk2_nil ?_
  have HGQ := zqd (HG1.out.trans hwq)
  clear s0 t0 hwq
  go_wp2_with fail
  go_ret
  exact ⟨ret_bool HF.out, HGQ.out⟩
 have hn1 : 0 < s.n := by rw [← HS.out.1]; exact H1.out HA.out
 have hn2 : 0 < t.n := by rw [← HT.out.1]; exact H2.out HBB.out
 obtain ⟨f, hf, -⟩ := HS.out.get hn1
 obtain ⟨q, hq, -⟩ := HT.out.get hn2
 obtain ⟨b1, o1, e1, -, r1⟩ := HS.out.row hn1
 obtain ⟨b2, o2, e2, -, r2⟩ := HT.out.row hn2
 have k1 := r1 0 f hf
 have k2 := r2 0 q hq
 rw [Nat.zero_mul, Nat.add_zero] at k1 k2
 have HK1 := zqd (fun u (hu : Gr w1 u) => range_gr k1 (HG1.out.trans hu))
 have HK2 := zqd (fun u (hu : Gr w1 u) => range_gr k2 (HG1.out.trans hu))
 obtain ⟨U, hU⟩ : ∃ U, sameB f q = U := ⟨_, rfl⟩
 have HU := zqd hU
 have HF := zqd (show U = R by rw [← HR.out, likeB, HA.out, HBB.out, head_at hf, head_at hq, hU]; rfl)
 have s8 : ∀ u, Gr w1 u → u.cell? ⟨g, 8, none⟩ = some (.slice (some ⟨b1, o1, none⟩) s.n s.c) := fun u hu => by rw [← e1]; exact (HS1.out.kept hu).at 8 rfl
 have t8 : ∀ u, Gr w1 u → u.cell? ⟨w.heap.size, 8, none⟩ = some (.slice (some ⟨b2, o2, none⟩) t.n t.c) := fun u hu => by rw [← e2]; exact (HT1.out.kept hu).at 8 rfl
 clear hf hq r1 r2 k1 k2 hU e1 e2
 refine Sched.wp_region_sched 17 [] [] (by kernel_rfl) (by kernel_rfl) ?_
 simp only [List.take_succ_cons, List.take_zero, List.drop_succ_cons, List.drop_zero]
 repeat (first | ((first | (refine Sched.walk1_no rfl rfl (fun K hK => ?_)) | (refine Sched.walk1_gr rfl rfl rfl (fun K hK => ?_); apply Exists.intro; refine ⟨fun w1 hw1 => ?_, ?_⟩; (focus (go_simp; (try go_ints); (try (simp only [IntWalk.iteOmega]; go_simp)); first | done | (with_reducible rfl) | (with_reducible exact ⟨rfl, rfl⟩))))); simp only [Act.put, zqa, zqb, zqc]; refine hK _ ?_; clear hK K))
 refine Sched.walk1_gr rfl rfl rfl (fun K hK => ?_)
 refine ⟨HVal f, fun w1 hw1 => rng_gq (HK1.out w1 hw1) 49 _ rfl rfl Tryd.underlying49 rfl (by kernel_rfl), ?_⟩
 simp only [Act.put, zqa, zqb, zqc]
 refine hK _ ?_
 clear hK K
 repeat (first | ((first | (refine Sched.walk1_no rfl rfl (fun K hK => ?_)) | (refine Sched.walk1_gr rfl rfl rfl (fun K hK => ?_); apply Exists.intro; refine ⟨fun w1 hw1 => ?_, ?_⟩; (focus (go_simp; (try go_ints); (try (simp only [IntWalk.iteOmega]; go_simp)); first | done | (with_reducible rfl) | (with_reducible exact ⟨rfl, rfl⟩))))); simp only [Act.put, zqa, zqb, zqc]; refine hK _ ?_; clear hK K))
 refine Sched.walk1_gr rfl rfl rfl (fun K hK => ?_)
 refine ⟨HVal q, fun w1 hw1 => rng_gq (HK2.out w1 hw1) 49 _ rfl rfl Tryd.underlying49 rfl (by kernel_rfl), ?_⟩
 simp only [Act.put, zqa, zqb, zqc]
 refine hK _ ?_
 clear hK K
 repeat (first | ((first | (refine Sched.walk1_no rfl rfl (fun K hK => ?_)) | (refine Sched.walk1_gr rfl rfl rfl (fun K hK => ?_); apply Exists.intro; refine ⟨fun w1 hw1 => ?_, ?_⟩; (focus (go_simp; (try go_ints); (try (simp only [IntWalk.iteOmega]; go_simp)); first | done | (go_at_call 71; (with_reducible exact same_is HU.out w1)) | (with_reducible rfl) | (with_reducible exact ⟨rfl, rfl⟩))))); simp only [Act.put, zqa, zqb, zqc]; refine hK _ ?_; clear hK K))
 refine Sched.walk1_nil ?_
 intro wq hwq
 repeat (first | (refine Sched.walk2_no rfl (fun K hK => ?_); simp only [Act.put, zqa, zqb, zqc]; refine hK _ ?_; clear hK K) | (refine Sched.walk2_go rfl (fun K hK => ?_); go_simp; (try go_ints); (try (simp only [IntWalk.iteOmega]; go_simp)); (refine hK _ _ ?_; clear hK K)))
 refine Sched.walk2_nil ?_
 have HGQ := zqd (HG1.out.trans hwq)
 clear s0 t0 s8 t8 hwq
 cases U
 ·go_wp2_with fail
  go_ret
  exact ⟨ret_bool HF.out, HGQ.out⟩
 ·go_wp2_with fail
  go_ret
  exact ⟨ret_bool HF.out, HGQ.out⟩
set_option maxRecDepth 20000 in
set_option maxHeartbeats 2000000 in
theorem indexS_any (a : Option Addr) (n c : Nat) (L : List Snd) (s : Snd) (g : Nat) (w : World) (hr : RdC w a n c L) (hL : ∀ t ∈ L, HasRef t) (hb : CBlk g 46 (SCells s) w) (hs : RdH w s.a s.n s.c s.refs) (h1 : HasRef s) (hm : n ≤ 1000000) :
  Calls Tryd.prog 98 #[.slice a n c, .func (Fn.func 70) #[] #[.pointer (some ⟨g, 0, none⟩)]] w fun e w' => (∃ i : Int, e = .returned (.int .i64 i) ∧ (decide (0 ≤ i) = L.any (likeB s))) ∧ Gr w w' := by
 have HC := zqd (fun (t : Snd) (u : World) (hu : Gr w u) (ht : RdH u t.a t.n t.c t.refs) (h2 : HasRef t) => alike_any s t g u (hb.kept hu) (hs.kept hu) ht h1 h2)
 obtain ⟨p, hp⟩ : ∃ p, likeB s = p := ⟨_, rfl⟩
 rw [hp] at HC ⊢
 have HR := zqd hr
 have HL := zqd hL
 clear hr hb hp hs h1 hL
 go_enter Tryd.func98, Tryd.ntmps98
 go_wp2_with fail
 go_loopw [8] (fun i wr => ∃ j : Nat, j ≤ n ∧ i = .int .i64 j ∧ (L.take j).any p = false ∧ Gr w wr) (fun i _ => n - (intOf i).toNat)
 case atStart => exact ⟨0, by omega, rfl, rfl, Gr.refl _⟩
 case round =>
  obtain ⟨j, hj, rfl, hno, hg⟩ := hrel
  have HG := zqd hg
  have HNO := zqd hno
  clear hg hno
  by_cases hlt : j < n
  ·obtain ⟨x, hx, hrx⟩ := (HR.out.kept HG.out).get hlt
   obtain ⟨b, off, ea, -, hrow⟩ := (HR.out.kept HG.out).row (by omega)
   subst ea
   have HRG := zqd (hrow j x hx)
   have HX := zqd hx
   have HO := zqd hrx
   clear hrow hx hrx
   go_wp2_with (refine rng_load rfl 46 _ rfl b (off + j * 9) rfl (SCells x) HRG.out Tryd.underlying46 rfl (by kernel_rfl) ?_)
   refine (HC.out x wr HG.out HO.out (HL.out x (List.mem_of_getElem? HX.out))).mono ?_
   rintro e w2 ⟨rfl, hg2⟩
   have HG2 := zqd (HG.out.trans hg2)
   obtain ⟨V, hV⟩ : ∃ V, p x = V := ⟨_, rfl⟩
   have HV := zqd hV
   rw [hV]
   clear hV hg2
   cases V
   ·go_wp2_with fail
    go_roundw
    case rel => exact ⟨j + 1, by omega, by go_num, by rw [any_step HX.out, HNO.out, HV.out]; rfl, HG2.out⟩
    case measure => (simp [intOf] <;> omega)
   ·go_wp2_with fail
    go_ret
    exact ⟨⟨_, rfl, by rw [any_all HX.out HV.out]; simp⟩, HG2.out⟩
  ·obtain rfl : j = n := by omega
   have hno := HNO.out
   rw [List.take_of_length_le (by rw [HR.out.1]; omega)] at hno
   have HNO2 := zqd hno
   clear hno
   go_wp2_with fail
   go_ret
   exact ⟨⟨_, rfl, by rw [HNO2.out]; rfl⟩, HG.out⟩
set_option maxRecDepth 20000 in
set_option maxHeartbeats 2000000 in
theorem containsS_any (a : Option Addr) (n c : Nat) (L : List Snd) (s : Snd) (g : Nat) (w : World) (hr : RdC w a n c L) (hL : ∀ t ∈ L, HasRef t) (hb : CBlk g 46 (SCells s) w) (hs : RdH w s.a s.n s.c s.refs) (h1 : HasRef s) (hm : n ≤ 1000000) :
  Calls Tryd.prog 72 #[.slice a n c, .func (Fn.func 70) #[] #[.pointer (some ⟨g, 0, none⟩)]] w fun e w' => e = .returned (.bool (L.any (likeB s))) ∧ Gr w w' := by
 obtain ⟨V, hV⟩ : ∃ V, L.any (likeB s) = V := ⟨_, rfl⟩
 have H := zqd (indexS_any a n c L s g w hr hL hb hs h1 hm)
 rw [hV] at H ⊢
 clear hr hb hV hL hs h1
 go_enter Tryd.func72, Tryd.ntmps72
 go_wp2_with fail
 refine H.out.mono ?_
 rintro e w1 ⟨⟨i, rfl, hi⟩, hg1⟩
 have HI := zqd hi
 have HG1 := zqd hg1
 clear hi hg1
 go_wp2_with fail
 go_ret
 exact ⟨ret_bool HI.out, HG1.out⟩
/-! ### plain -/
theorem ctx_has {mode width : Int} {s : Snd} (h : ctxB mode width s = true) : HasRef s := by
 intro ha
 unfold ctxB at h
 rw [if_pos ha, actB, Bool.and_eq_true, rngB, Bool.and_eq_true, decide_eq_true_eq] at h
 exact h.1.1
theorem okAt_at {mode width : Int} {L : List Snd} {i : Nat} {s : Snd} (h : L[i]? = some s) : okAt mode width L i = (ctxB mode width s && !((L.take i).any (likeB s))) := by
 unfold okAt; rw [h]
theorem ok_take {mode width : Int} {L : List Snd} {j : Nat} (h : ∀ i, i < j → okAt mode width L i = true) (hj : j ≤ L.length) : ∀ t ∈ L.take j, HasRef t := by
 intro t ht
 obtain ⟨i, hi⟩ := List.getElem?_of_mem ht
 have hl := lt_someG hi
 rw [List.length_take] at hl
 rw [List.getElem?_take_of_lt (by omega)] at hi
 have := h i (by omega)
 rw [okAt_at hi, Bool.and_eq_true] at this
 exact ctx_has this.1
theorem valid_no {mode width : Int} {L : List Snd} {i : Nat} (hi : i < L.length) (h : okAt mode width L i = false) : validC mode width L = false := by
 unfold validC
 rw [show (List.range L.length).all (okAt mode width L) = false from ?_]
 ·simp
 ·rw [List.all_eq_false]; exact ⟨i, by simp [hi], by rw [h]; simp⟩
theorem valid_yes {mode width : Int} {L : List Snd} (h1 : shapedB mode width = true) (h2 : L.length = 16) (h : ∀ i, i < L.length → okAt mode width L i = true) : validC mode width L = true := by
 unfold validC
 rw [h1, decide_eq_true h2, Bool.true_and, Bool.true_and, List.all_eq_true]
 intro i hi
 exact h i (by simpa using hi)
theorem shaped_yes {mode width : Int} (h : shapedB mode width = true) : 1 ≤ mode ∧ mode ≤ 3 ∧ 1 ≤ width ∧ width ≤ 8 := by simpa [shapedB] using h
theorem valid_parts {mode width : Int} {L : List Snd} (h : validC mode width L = true) : shapedB mode width = true ∧ L.length = 16 ∧ ∀ i, i < L.length → okAt mode width L i = true := by
 unfold validC at h
 simp only [Bool.and_eq_true, decide_eq_true_eq, List.all_eq_true, List.mem_range] at h
 exact h
def VRel (mode width : Int) (L : List Snd) (w : World) (i : Value) (wr : World) : Prop := ∃ j : Nat, j ≤ 16 ∧ i = .int .i64 j ∧ (∀ k, k < j → okAt mode width L k = true) ∧ Gr w wr
set_option maxHeartbeats 2000000 in
set_option maxRecDepth 100000 in
theorem cvalid_any (mode width : Int) (a : Option Addr) (n c : Nat) (L : List Snd) (w : World) (hr : RdC w a n c L) (hnm : n ≤ 9223372036854775807) : Calls Tryd.prog 44 #[CVal mode width a n c] w fun e w' => e = .returned (.bool (validC mode width L)) ∧ Gr w w' := by
 have HR := zqd hr
 have HN := zqd hr.1
 obtain ⟨R, hR⟩ : ∃ R, validC mode width L = R := ⟨_, rfl⟩
 rw [hR]
 have HRR := zqd hR
 clear hr hR
 obtain ⟨S, hS⟩ : ∃ S, shapedB mode width = S := ⟨_, rfl⟩
 have HS := zqd hS
 clear hS
 go_enter Tryd.func44, Tryd.ntmps44
 go_upto_region 1 with (fail)
 obtain ⟨w1, hw1⟩ : ∃ y, y = w.alloc (.cells #[.int .i64 mode, .int .i64 width, .slice a n c] 24) := ⟨_, rfl⟩
 have HB1 := zqd (show CBlk w.heap.size 24 [.int .i64 mode, .int .i64 width, .slice a n c] w1 by rw [hw1]; exact CBlk.new _ _ _)
 have HG1 := zqd (show Gr w w1 by rw [hw1]; exact Gr.alloc _ _)
 first | rw [← hw1] | (go_show; fail)
 clear hw1
 have x0 := HB1.out.at 0 rfl
 have x1 := HB1.out.at 1 rfl
 have x2 := HB1.out.at 2 rfl
 cases S
 ·have HF := zqd (show false = R by rw [← HRR.out, validC, HS.out]; rfl)
  go_wp2_with (first | (go_at_call 68; ((with_reducible refine (shaped_is HS.out w1).mono ?_)); rintro e w' ⟨rfl, rfl⟩))
  go_ret
  exact ⟨ret_bool HF.out, HG1.out⟩
 by_cases h16 : n = 16
 rotate_left
 ·have HF := zqd (show false = R by rw [← HRR.out, validC, HN.out, decide_eq_false h16]; simp)
  go_wp2_with (first | (go_at_call 68; ((with_reducible refine (shaped_is HS.out w1).mono ?_)); rintro e w' ⟨rfl, rfl⟩))
  go_ret
  exact ⟨ret_bool HF.out, HG1.out⟩
 subst h16
 obtain ⟨m1, m2, q1, q2⟩ := shaped_yes HS.out
 obtain ⟨b, off, ea, -, hrow⟩ := HR.out.row (by omega)
 have HROW := zqd hrow
 have hc16 : 16 ≤ c := HR.out.2.1
 have HR' := zqd (show RdC w (some ⟨b, off, none⟩) 16 c L by rw [← ea]; exact HR.out)
 subst ea
 clear hrow
 go_wp2_with (first | (go_at_call 68; ((with_reducible refine (shaped_is HS.out w1).mono ?_)); rintro e w' ⟨rfl, rfl⟩))
 go_loopw [21] (fun i wr => VRel mode width L w1 i wr) (fun i _ => 16 - (intOf i).toNat)
 case atStart => exact ⟨0, by omega, rfl, (fun k hk => by omega), Gr.refl _⟩
 case round =>
  obtain ⟨j, hj, rfl, hok, hg⟩ := hrel
  have HG := zqd hg
  have HOK := zqd hok
  clear hg hok
  by_cases hlt : j < 16
  ·obtain ⟨s, hs, hrs⟩ := (HR'.out.kept (HG1.out.trans HG.out)).get hlt
   have HRG := zqd (range_gr (HROW.out j s hs) (HG1.out.trans HG.out))
   have HX := zqd hs
   have HXS := zqd hrs
   obtain ⟨V, hV⟩ : ∃ V, ctxB mode width s = V := ⟨_, rfl⟩
   have HV := zqd hV
   clear hs hrs hV x0 x1 x2
   go_upto_region 6 with (refine rng_load rfl 46 _ rfl b (off + j * 9) rfl (SCells s) HRG.out Tryd.underlying46 rfl (by kernel_rfl) ?_)
   obtain ⟨w2, hw2⟩ : ∃ y, y = wr.alloc (.cells (SCells s).toArray 46) := ⟨_, rfl⟩
   have HS2 := zqd (show CBlk wr.heap.size 46 (SCells s) w2 by rw [hw2]; exact CBlk.new _ _ _)
   have hg2 : Gr wr w2 := by rw [hw2]; exact Gr.alloc _ _
   simp only [SCells] at hw2
   first | rw [← hw2] | (go_show; fail)
   have HG2 := zqd (HG.out.trans hg2)
   have HB2 := zqd (HB1.out.kept (HG.out.trans hg2))
   have HXS2 := zqd (HXS.out.kept hg2)
   clear hw2 hg2 HRG
   have x0 := HB2.out.at 0 rfl
   have x1 := HB2.out.at 1 rfl
   have x2 := HB2.out.at 2 rfl
   go_wp2_with (refine cblk_load rfl 46 _ rfl wr.heap.size rfl HS2.out Tryd.underlying46 rfl (by kernel_rfl) ?_)
   refine (context_is HV.out w2 HXS2.out q1 q2).mono ?_
   rintro e w3 ⟨rfl, hg3⟩
   have HG3 := zqd (HG2.out.trans hg3)
   have HS3 := zqd (HS2.out.kept hg3)
   have HXS3 := zqd (HXS2.out.kept hg3)
   have HB3 := zqd (HB2.out.kept hg3)
   clear hg3 x0 x1 x2 HG2 HS2 HXS2 HB2
   cases V
   ·have HF := zqd (show false = R by rw [← HRR.out, valid_no (i := j) (by rw [HN.out]; exact hlt) (by rw [okAt_at HX.out, HV.out]; rfl)])
    go_wp2_with fail
    go_ret
    exact ⟨ret_bool HF.out, HG1.out.trans HG3.out⟩
   ·have x2 := HB3.out.at 2 rfl
    go_wp2_with fail
    refine (containsS_any _ j c (L.take j) s wr.heap.size w3 ((HR'.out.kept (HG1.out.trans HG3.out)).take j (by omega)) (ok_take HOK.out (by rw [HN.out]; omega)) HS3.out HXS3.out (ctx_has HV.out) (by omega)).mono ?_
    obtain ⟨Z, hZ⟩ : ∃ Z, (L.take j).any (likeB s) = Z := ⟨_, rfl⟩
    have HZ := zqd hZ
    rw [hZ]
    rintro e w4 ⟨rfl, hg4⟩
    have HG4 := zqd (HG3.out.trans hg4)
    clear hg4 x2 hZ
    cases Z
    ·go_wp2_with fail
     go_roundw
     case rel =>
      refine ⟨j + 1, by omega, by go_num, fun k hk => ?_, HG4.out⟩
      by_cases hkj : k < j
      ·exact HOK.out k hkj
      ·obtain rfl : k = j := by omega
       rw [okAt_at HX.out, HV.out, HZ.out]; rfl
     case measure => (simp [intOf] <;> omega)
    ·have HF := zqd (show false = R by rw [← HRR.out, valid_no (i := j) (by rw [HN.out]; exact hlt) (by rw [okAt_at HX.out, HV.out, HZ.out]; rfl)])
     go_wp2_with fail
     go_ret
     exact ⟨ret_bool HF.out, HG1.out.trans HG4.out⟩
  ·obtain rfl : j = 16 := by omega
   have HF := zqd (show true = R by rw [← HRR.out, valid_yes HS.out HN.out (by rw [HN.out]; exact HOK.out)])
   go_wp2_with fail
   go_ret
   exact ⟨ret_bool HF.out, HG1.out.trans HG.out⟩
end Go.Proofs.YtlnkofpcidngoaaDoor
/- Facts on this program's types. -/
namespace Go.Proofs.YtlnkofpcidngoaaDoor
open Go.ChangeShapes Go.WideShapes Go.ChangeAt Go.RowKit
theorem info_u8 : (Tryd.prog.info? 5).map (fun i => (i.zero, i.size, i.bytes)) = some (some (.int .u8 0), 1, 1) := by kernel_rfl
theorem app_u8 (B : Nat) (w : World) (a : Option Addr) (n cap : Nat) (xs : List Int) (hown : OwnI B 5 .u8 w a n cap xs)
  (b : Option Addr) (m c : Nat) (ys : List Int) (hr : Rd .u8 w b m ys) (hlen : n + m ≤ 140737488355328) (hbase : B ≤ w.heap.size) :
  ∃ a' cap' w', (Builtin.append_ #[39, 39] 39 #[.slice a n cap, .slice b m c]).run Tryd.prog w = .ok (.slice a' (n + m) cap') w' ∧ OwnI B 5 .u8 w' a' (n + m) cap' (xs ++ ys) ∧
   w.grownBy w' (Value.slice a n cap).ownBlock ∧ Follows w (.slice a n cap) (.slice a' (n + m) cap') := by
 obtain ⟨i0, hi, hz0, hz1, hz2⟩ := info_parts info_u8
 exact run_appI B _ _ _ i0 (.int .u8 0) .u8 1 Tryd.underlying39 hi hz0 hz1 hz2 rfl w a n cap xs hown b m c ys hr (by omega) (by simp [maxLen]; omega) hbase
theorem app_u8_nil (B : Nat) (w : World) (b : Option Addr) (m c : Nat) (ys : List Int) (hr : Rd .u8 w b m ys) (hlen : m ≤ 140737488355328) (hbase : B ≤ w.heap.size) :
  ∃ a' cap' w', (Builtin.append_ #[39, 39] 39 #[.slice none 0 0, .slice b m c]).run Tryd.prog w = .ok (.slice a' m cap') w' ∧ OwnI B 5 .u8 w' a' m cap' ys ∧
   w.grownBy w' none ∧ Follows w (.slice none 0 0) (.slice a' m cap') := by
 have h := app_u8 B w none 0 0 [] (OwnI.nil _ _ _ _) b m c ys hr (by omega) hbase
 simp only [Nat.zero_add, List.nil_append] at h
 exact h
end Go.Proofs.YtlnkofpcidngoaaDoor
/- ref01.Put: appends a number in some bytes. -/
namespace Go.Proofs.YtlnkofpcidngoaaDoor
open Go.ChangeShapes Go.WideShapes Go.ChangeAt Go.RowKit
def putR (x : Int) : Nat → List Int
 | 0 => []
 | r + 1 => x / 2 ^ (8 * r) % 256 :: putR x r
theorem putR_len (x : Int) : ∀ r, (putR x r).length = r
 | 0 => rfl
 | r + 1 => by simp [putR, putR_len x r]
def AppPost (B : Nat) (e : TypeId) (k : IntKind) (w : World) (a : Option Addr) (n cap : Nat) (m : Nat) (zs : List Int) (en : Ending) (w' : World) : Prop :=
 ∃ a' cap' n', n' = n + m ∧ en = .returned (.slice a' n' cap') ∧ OwnI B e k w' a' n' cap' zs ∧ w.grownBy w' (Value.slice a n cap).ownBlock ∧ Follows w (.slice a n cap) (.slice a' n' cap')
set_option maxRecDepth 20000 in
set_option maxHeartbeats 2000000 in
theorem put_any (B : Nat) (a : Option Addr) (n cap : Nat) (xs : List Int) (K : Int) (k : Nat) (x : Int) (w : World) (hK : K = k) (hown : OwnI B 5 .u8 w a n cap xs) (hn : n ≤ 140737488355000) (hk : k ≤ 7) (hB : B ≤ w.heap.size) :
  Calls Tryd.prog 51 #[.slice a n cap, .int .i64 K, .int .i64 x] w (AppPost B 5 .u8 w a n cap k (xs ++ putR x k)) := by
 subst hK
 go_enter Tryd.func51, Tryd.ntmps51
 go_wp2_with fail
 go_loopw [0, 7] (fun s i wr => ∃ (a' : Option Addr) (n' cap' r : Nat) (ys : List Int), r ≤ k ∧ n' + r = n + k ∧ s = .slice a' n' cap' ∧ i = .int .i64 ((r : Int) - 1) ∧ OwnI B 5 .u8 wr a' n' cap' ys ∧ ys ++ putR x r = xs ++ putR x k ∧ w.grownBy wr (Value.slice a n cap).ownBlock ∧ Follows w (.slice a n cap) (.slice a' n' cap')) (fun _ i _ => (intOf i + 1).toNat)
 case atStart => exact ⟨a, n, cap, k, xs, by omega, rfl, rfl, rfl, hown, rfl, grownBy_refl _ _, Follows.refl _ _⟩
 case round =>
  obtain ⟨a', n', cap', r, ys, hr, hnr, rfl, rfl, hown', hys, hg, hf⟩ := hrel
  have HY := zqd hys
  have HN := zqd hnr
  have hn' : n' ≤ 140737488355010 := by omega
  clear hys hnr hown
  by_cases h : 1 ≤ r
  ·obtain ⟨q, rfl⟩ : ∃ q, r = q + 1 := ⟨r - 1, by omega⟩
   have hq : ((q + 1 : Nat) : Int) - 1 = (q : Int) := by omega
   rw [hq]
   have hrd := rd_new (k := .u8) (w := wr) [x / 2 ^ (8 * q) % 256] 5 (0, 0) 1 rfl (by simp [maxLen]) (by intro y hy; simp at hy; subst hy; exact WalkArith.wf_u8 (by omega))
   obtain ⟨a2, c2, w2, hrun, ho2, hg2, hf2⟩ := app_u8 B (wr.alloc (.cells ([x / 2 ^ (8 * q) % 256].map (Value.int .u8)).toArray 5)) a' n' cap' ys (hown'.stay (World.grownBy_alloc _ _ _)) (some ⟨wr.heap.size, 0, none⟩) 1 1 _ hrd (by omega) (by have := hg.size; simp; omega)
   simp only [List.map_cons, List.map_nil] at hrun hg2 hf2
   have HR := zqd hrun
   have ho2' := ho2
   have hB2 := hg.size
   clear hrun hrd
   go_wp2_with (at_builtin; refine wpList_app rfl _ _ _ rfl rfl rfl HR.out ?_)
   have hrg := round_grown hg hf hg2 hf2
   exact ⟨⟨a2, n' + 1, c2, q, _, by omega, by have := HN.out; omega, rfl, rfl, ho2, by rw [← HY.out]; simp [putR], hrg.1, hrg.2⟩, by simp [intOf]⟩
  ·obtain rfl : r = 0 := by omega
   go_wp2
   go_ret
   exact ⟨a', cap', n', by have := HN.out; omega, rfl, by have := HY.out; simp [putR] at this; rw [← this]; exact hown', hg, hf⟩
end Go.Proofs.YtlnkofpcidngoaaDoor
/- Layer 05 (packet): put. -/
namespace Go.Proofs.YtlnkofpcidngoaaDoor
open Go.ChangeShapes Go.WideShapes Go.ChangeAt Go.RowKit
end Go.Proofs.YtlnkofpcidngoaaDoor
/- Contracts of layer 4 (checksum) and its reference. -/
namespace Go.Proofs.YtlnkofpcidngoaaDoor
open Go.ChangeShapes Go.WideShapes Go.ChangeAt Go.RowKit
/-! ### plain -/
def foldS (x : Int) : Int := if x ≤ 0 then 0 else (x - 1) % 65535 + 1
def words : List Int → Int
 | a :: b :: r => 256 * a + b + words r
 | [a] => 256 * a
 | [] => 0
def addS (sum : Int) (bs : List Int) : Int := foldS (foldS sum + words bs)
theorem foldS_rng (x : Int) : 0 ≤ foldS x ∧ foldS x ≤ 65535 := by unfold foldS; split <;> omega
theorem foldS_small {x : Int} (h0 : 0 ≤ x) (h1 : x ≤ 65535) : foldS x = x := by unfold foldS; split <;> omega
theorem foldS_step {x : Int} (h : 65535 < x) : foldS (x % 65536 + x / 65536) = foldS x := by unfold foldS; split <;> split <;> omega
theorem foldS_neg {x : Int} (h : x < 0) : foldS x = 0 := by unfold foldS; split <;> omega
theorem foldS_foldS (x : Int) : foldS (foldS x) = foldS x := foldS_small (foldS_rng x).1 (foldS_rng x).2
theorem foldS_add {x y : Int} (h0 : 0 ≤ x) (h1 : 0 ≤ y) : foldS (foldS x + y) = foldS (x + y) := by
 unfold foldS; split <;> split <;> split <;> omega
def bytesOk (l : List Int) : Prop := ∀ x ∈ l, 0 ≤ x ∧ x ≤ 255
theorem words_rng : ∀ (l : List Int), bytesOk l → 0 ≤ words l ∧ 2 * words l ≤ 65535 * (l.length + 1)
 | a :: b :: r, h => by
  have ha := h a (by simp); have hb := h b (by simp)
  have ih := words_rng r (fun x hx => h x (by simp [hx]))
  simp only [words, List.length_cons]; push_cast; omega
 | [a], h => by
  have ha := h a (by simp)
  simp only [words, List.length_cons, List.length_nil]; omega
 | [], _ => by simp [words]
theorem words_drop1 (l : List Int) (i : Nat) (h : i + 1 < l.length) : words (l.drop i) = 256 * l[i]?.getD 0 + l[i + 1]?.getD 0 + words (l.drop (i + 2)) := by
 rw [List.drop_eq_getElem_cons (show i < l.length by omega), List.drop_eq_getElem_cons h]
 simp [words, show i < l.length by omega, h]
theorem words_drop2 (l : List Int) (i : Nat) (h : i < l.length) (h2 : ¬ i + 1 < l.length) : words (l.drop i) = 256 * l[i]?.getD 0 ∧ words (l.drop (i + 2)) = 0 := by
 rw [List.drop_eq_getElem_cons h, List.drop_eq_nil_of_le (show l.length ≤ i + 1 by omega), List.drop_eq_nil_of_le (show l.length ≤ i + 2 by omega)]
 simp [words, h]
theorem words_end (l : List Int) (i : Nat) (h : l.length ≤ i) : words (l.drop i) = 0 := by
 rw [List.drop_eq_nil_of_le h]; rfl
theorem getD_byte {l : List Int} (h : bytesOk l) (i : Nat) : 0 ≤ l[i]?.getD 0 ∧ l[i]?.getD 0 ≤ 255 := by
 rcases Nat.lt_or_ge i l.length with hi | hi
 ·simp only [List.getElem?_eq_getElem hi, Option.getD_some]; exact h _ (List.getElem_mem hi)
 ·simp [List.getElem?_eq_none hi]
theorem Rd.bytes {w : World} {a : Option Addr} {len : Nat} {xs : List Int} (h : Rd .u8 w a len xs) : bytesOk xs := fun x hx => bounds_u8 (h.2.1 x hx)
/-! ### Fold -/
/-! ### Add -/
/-! ### the reference -/
set_option maxRecDepth 20000 in
set_option maxHeartbeats 2000000 in
theorem rfold_any (x : Int) (w : World) (hx : x ≤ 9223372036854775807) :
  Calls Tryd.prog 105 #[.int .i64 x] w fun e w' => e = .returned (.int .i64 (foldS x)) ∧ w = w' := by
 by_cases h : x < 0
 ·go_enter Tryd.func105, Tryd.ntmps105
  go_wp2
  go_ret
  exact ⟨ret_i64 (foldS_neg h).symm, rfl⟩
 ·go_enter Tryd.func105, Tryd.ntmps105
  go_wp2
  go_loop [0] (fun s => ∃ y : Int, 0 ≤ y ∧ y ≤ x ∧ foldS y = foldS x ∧ s = .int .i64 y) (fun s => (intOf s).toNat)
  case atStart => exact ⟨x, by omega, by omega, rfl, rfl⟩
  case round =>
   obtain ⟨y, hy0, hy1, hy2, rfl⟩ := hrel
   have HY := zqd hy2
   clear hy2
   by_cases hlt : 65535 < y
   ·go_wp2
    go_round
    case rel => exact ⟨y % 65536 + y / 65536, by omega, by omega, by rw [foldS_step hlt, HY.out], rfl⟩
    case measure => simp [intOf]; omega
   ·go_wp2
    go_ret
    exact ⟨ret_i64 (by rw [← HY.out, foldS_small (by omega) (by omega)]), rfl⟩
set_option maxRecDepth 20000 in
set_option maxHeartbeats 2000000 in
theorem radd_any (sum : Int) (a : Option Addr) (len cap : Nat) (bs : List Int) (w : World) (hr : Rd .u8 w a len bs) (hL : len ≤ 140737488355328) (hs : sum ≤ 9223372036854775807) :
  Calls Tryd.prog 100 #[.int .i64 sum, .slice a len cap] w fun e w' => e = .returned (.int .i64 (addS sum bs)) ∧ w = w' := by
 have hb := hr.bytes
 obtain ⟨hlen, _, _, hcell⟩ := hr
 have HL := zqd hlen
 have hf := foldS_rng sum
 have hw := words_rng bs hb
 rw [hlen] at hw
 have hall := fun i => getD_byte hb i
 rcases hcell with h0 | ⟨b, off, rfl, hlt, hc⟩
 ·subst h0
  have : bs = [] := List.eq_nil_of_length_eq_zero hlen
  subst this
  clear hall hb hw hlen
  go_enter Tryd.func100, Tryd.ntmps100
  go_wp2_with ((go_at_call 105; refine (rfold_any _ _ (by omega)).mono ?_; rintro e w' ⟨rfl, rfl⟩))
  go_loop [5, 6, 7] (fun t i _ => t = .int .i64 (foldS sum) ∧ i = .int .i64 0) (fun _ i _ => 0)
  case atStart => exact ⟨rfl, rfl⟩
  case round =>
   obtain ⟨rfl, rfl⟩ := hrel
   go_wp2_with ((go_at_call 105; refine (rfold_any _ _ (by omega)).mono ?_; rintro e w' ⟨rfl, rfl⟩))
   go_ret
   exact ⟨ret_i64 (by simp [addS, words, foldS_foldS]), rfl⟩
 ·clear hlen
  have HC := zqd hc
  have HA := zqd hall
  have HB := zqd hb
  clear hc hall hb
  go_enter Tryd.func100, Tryd.ntmps100
  go_wp2_with ((go_at_call 105; refine (rfold_any _ _ (by omega)).mono ?_; rintro e w' ⟨rfl, rfl⟩))
  go_loop [5, 6, 7] (fun t i _ => ∃ (T : Int) (k : Nat), k ≤ len + 1 ∧ 0 ≤ T ∧ T ≤ 65535 ∧ foldS (T + words (bs.drop k)) = addS sum bs ∧ foldS T = T ∧ t = .int .i64 T ∧ i = .int .i64 k) (fun _ i _ => len + 1 - (intOf i).toNat)
  case atStart => exact ⟨_, 0, by omega, hf.1, hf.2, rfl, foldS_foldS _, rfl, rfl⟩
  case round =>
   obtain ⟨T, k, hk, hT, hT2, hTk, hTT, rfl, rfl⟩ := hrel
   have hd0 := (words_rng (bs.drop (k + 2)) (fun x hx => HB.out x (List.mem_of_mem_drop hx))).1
   have HD := zqd hd0
   have HT := zqd hTk
   have HTT := zqd hTT
   clear hTk hTT hd0
   by_cases h1 : k + 1 < len
   ·have c0 := HC.out k (by omega)
    have c1 := HC.out (k + 1) h1
    have b0 := HA.out k
    have b1 := HA.out (k + 1)
    go_wp2_with ((go_at_call 105; refine (rfold_any _ _ (by omega)).mono ?_; rintro e w' ⟨rfl, rfl⟩))
    have hd := words_drop1 bs k (by rw [HL.out]; exact h1)
    have ht := HT.out
    have hr := foldS_rng (T + (256 * bs[k]?.getD 0 + bs[k + 1]?.getD 0))
    exact ⟨⟨_, k + 2, by omega, hr.1, hr.2, by rw [← ht, hd, foldS_add (by omega) HD.out]; congr 1; omega, foldS_foldS _, rfl, by go_num⟩, by simp [intOf]; omega⟩
   ·by_cases h2 : k < len
    ·have c0 := HC.out k (by omega)
     have b0 := HA.out k
     go_wp2_with ((go_at_call 105; refine (rfold_any _ _ (by omega)).mono ?_; rintro e w' ⟨rfl, rfl⟩))
     have hd := words_drop2 bs k (by rw [HL.out]; exact h2) (by rw [HL.out]; exact h1)
     have ht := HT.out
     have hr := foldS_rng (T + 256 * bs[k]?.getD 0)
     exact ⟨⟨_, k + 2, by omega, hr.1, hr.2, by rw [← ht, hd.1, hd.2, Int.add_zero, foldS_foldS], foldS_foldS _, rfl, by go_num⟩, by simp [intOf]; omega⟩
    ·go_wp2_with ((go_at_call 105; refine (rfold_any _ _ (by omega)).mono ?_; rintro e w' ⟨rfl, rfl⟩))
     go_ret
     exact ⟨ret_i64 (by rw [← HT.out, words_end _ _ (by rw [HL.out]; omega), Int.add_zero, HTT.out]), rfl⟩
set_option maxRecDepth 20000 in
set_option maxHeartbeats 2000000 in
theorem rsum_any (a : Option Addr) (len cap : Nat) (bs : List Int) (w : World) (hr : Rd .u8 w a len bs) (hL : len ≤ 140737488355328) :
  Calls Tryd.prog 84 #[.slice a len cap] w fun e w' => e = .returned (.int .i64 (65535 - addS 0 bs)) ∧ w = w' := by
 have h1 := foldS_rng (foldS 0 + words bs)
 have h2 : 0 ≤ addS 0 bs ∧ addS 0 bs ≤ 65535 := h1
 clear h1
 have HR := zqd hr
 clear hr
 go_enter Tryd.func84, Tryd.ntmps84
 go_wp2_with ((go_at_call 100; refine (radd_any _ _ _ _ _ _ HR.out hL (by omega)).mono ?_; rintro e w' ⟨rfl, rfl⟩))
 go_ret
 exact ⟨rfl, rfl⟩
end Go.Proofs.YtlnkofpcidngoaaDoor
/- Layer 05 (packet): reading a number. -/
namespace Go.Proofs.YtlnkofpcidngoaaDoor
open Go.ChangeShapes Go.WideShapes Go.ChangeAt Go.RowKit
def getN (xs : List Int) (o : Nat) : Nat → Int
 | 0 => 0
 | j + 1 => 256 * getN xs o j + xs[o + j]?.getD 0
theorem getN_rng {xs : List Int} (hb : bytesOk xs) (o : Nat) : ∀ j, 0 ≤ getN xs o j ∧ getN xs o j < 256 ^ j
 | 0 => by simp [getN]
 | j + 1 => by
  obtain ⟨h1, h2⟩ := getN_rng hb o j
  have h3 := getD_byte hb (o + j)
  simp only [getN, Int.pow_succ]
  omega
set_option maxRecDepth 20000 in
set_option maxHeartbeats 2000000 in
theorem rget_any (a : Option Addr) (len cap : Nat) (xs : List Int) (o n : Nat) (w : World) (hr : Rd .u8 w a len xs) (h1 : o + n ≤ len) (h2 : n ≤ 4) (h3 : len ≤ 100000) (h4 : 0 < len) :
  Calls Tryd.prog 54 #[.slice a len cap, .int .i64 o, .int .i64 n] w fun e w' => e = .returned (.int .i64 (getN xs o n)) ∧ w = w' := by
 obtain ⟨b, off, rfl, hb, hc⟩ := hr.some h4
 have HC := zqd hc
 have HB := zqd hr.bytes
 clear hr hc
 go_enter Tryd.func54, Tryd.ntmps54
 go_wp2_with fail
 go_loopw [7, 8] (fun v i wr => ∃ j : Nat, j ≤ n ∧ v = .int .i64 (getN xs o j) ∧ i = .int .i64 j ∧ w = wr) (fun _ i _ => n - (intOf i).toNat)
 case atStart => exact ⟨0, by omega, rfl, rfl, rfl⟩
 case round =>
  obtain ⟨j, hj, rfl, rfl, rfl⟩ := hrel
  obtain ⟨g1, g2⟩ := getN_rng HB.out o j
  have hp : (256 : Int) ^ j ≤ 4294967296 := by
   have hj4 : j = 0 ∨ j = 1 ∨ j = 2 ∨ j = 3 ∨ j = 4 := by omega
   rcases hj4 with rfl | rfl | rfl | rfl | rfl <;> decide
  have g3 : getN xs o j < 4294967296 := by omega
  clear g2 hp
  by_cases hlt : j < n
  ·have c1 := HC.out (o + j) (by omega)
   obtain ⟨y, hy⟩ : ∃ y, xs[o + j]?.getD 0 = y := ⟨_, rfl⟩
   have hyb := getD_byte HB.out (o + j)
   rw [hy] at c1 hyb
   obtain ⟨y1, y2⟩ := hyb
   obtain ⟨G, hG⟩ : ∃ G, getN xs o j = G := ⟨_, rfl⟩
   have hn : 256 * G + y = getN xs o (j + 1) := by rw [getN, hG, hy]
   have HN := zqd hn
   rw [hG] at g1 g3 ⊢
   clear hn hy hG
   go_wp2_with fail
   go_roundw
   case rel => exact ⟨j + 1, by omega, by rw [← HN.out], by go_num, by first | rfl | trivial⟩
   case measure => (simp [intOf] <;> omega)
  ·obtain rfl : j = n := by omega
   go_wp2_with fail
   go_ret
   exact ⟨rfl, by first | rfl | trivial⟩
theorem OwnI.cut {B : Nat} {e : TypeId} {k : IntKind} {w : World} {g n cap : Nat} {xs : List Int} (h : OwnI B e k w (.some ⟨g, 0, none⟩) n cap xs) (m : Nat) (hm : m ≤ n) : OwnI B e k w (.some ⟨g, 0, none⟩) m cap (xs.take m) := by
 have hl := h.len
 refine ⟨?_, fun y hy => h.wf y (List.mem_of_mem_take hy)⟩
 refine ⟨by simp; omega, .inr ?_⟩
 rcases h.row.2 with ⟨hv, h0⟩ | ⟨g', cap', cur, hv, hb, hg, hn, hx, hs, ht⟩
 ·simp at hv
 ·injection hv with e1 e2 e3
  injection e1 with e1
  injection e1 with e1
  subst e1
  subst e3
  refine ⟨_, _, cur, rfl, hb, hg, by omega, hx, hs, ?_⟩
  rw [List.map_take, ← ht, List.take_take, show min m (n * 1) = m * 1 by omega]
end Go.Proofs.YtlnkofpcidngoaaDoor
/- Layer 05 (packet), plain: what Head, Build, Parse and Udp compute, and what follows of it. -/
namespace Go.Proofs.YtlnkofpcidngoaaDoor
open Go.ChangeShapes Go.WideShapes Go.ChangeAt Go.RowKit
def headL (h : Hdr) : List Int := [69, h.tos, 0, 0] ++ (putR h.id 2 ++ ([64 * h.fixed, 0, h.ttl, 17, 0, 0] ++ (putR h.frm 4 ++ (putR h.to 4 ++ (putR h.fport 2 ++ (putR h.tport 2 ++ ([0, 0] ++ (putR h.check 2 ++ (if h.kind = 2 then [128, 128 * h.marker + h.type] ++ (putR h.seq 2 ++ (putR h.time 4 ++ putR h.source 4)) else [])))))))))
def tailL (h : Hdr) : List Int := if h.kind = 2 then [128, 128 * h.marker + h.type] ++ (putR h.seq 2 ++ (putR h.time 4 ++ putR h.source 4)) else []
def put2 (xs : List Int) : List Int := setM (setM xs 2 (putR xs.length 2)) 24 (putR ((xs.length : Int) - 20) 2)
def bldL (xs : List Int) : List Int := setM (put2 xs) 10 (putR (65535 - addS 0 ((put2 xs).take 20)) 2)
def buildF (h : Hdr) (ys : List Int) : Int × List Int :=
 if validH h then (if 1500 < (headL h ++ ys).length then (2, []) else (0, bldL (headL h ++ ys))) else (1, [])
def rtpB (xs : List Int) : Bool := decide (40 ≤ xs.length) && decide (xs[28]?.getD 0 = 128)
def parse0 (xs : List Int) : Hdr := ⟨1, xs[1]?.getD 0, getN xs 4 2, xs[6]?.getD 0 / 64 % 2, xs[8]?.getD 0, getN xs 12 4, getN xs 16 4, getN xs 20 2, getN xs 22 2, getN xs 26 2, 0, 0, 0, 0, 0⟩
def parse1 (xs : List Int) : Hdr := ⟨2, xs[1]?.getD 0, getN xs 4 2, xs[6]?.getD 0 / 64 % 2, xs[8]?.getD 0, getN xs 12 4, getN xs 16 4, getN xs 20 2, getN xs 22 2, getN xs 26 2, xs[29]?.getD 0 / 128, xs[29]?.getD 0 % 128, getN xs 30 2, getN xs 32 4, getN xs 36 4⟩
def parseH (xs : List Int) : Hdr := if rtpB xs then parse1 xs else parse0 xs
def parseN (xs : List Int) : Nat := if rtpB xs then 40 else 28
def parseF (xs : List Int) : Hdr × List Int × Int :=
 if xs.length < 28 ∨ 1500 < xs.length then (zeroH, [], 2)
 else if (buildF (parseH xs) (xs.drop (parseN xs))).2 = xs then (parseH xs, xs.drop (parseN xs), 0) else (zeroH, [], 4)
/-! ### forms -/
def ex (h : Hdr) (n s : Int) (r : List Int) : List Int :=
 69 :: h.tos :: n / 256 % 256 :: n % 256 :: h.id / 256 % 256 :: h.id % 256 :: 64 * h.fixed :: 0 :: h.ttl :: 17 :: s / 256 % 256 :: s % 256 ::
 h.frm / 16777216 % 256 :: h.frm / 65536 % 256 :: h.frm / 256 % 256 :: h.frm % 256 :: h.to / 16777216 % 256 :: h.to / 65536 % 256 :: h.to / 256 % 256 :: h.to % 256 ::
 h.fport / 256 % 256 :: h.fport % 256 :: h.tport / 256 % 256 :: h.tport % 256 :: (n - 20) / 256 % 256 :: (n - 20) % 256 :: h.check / 256 % 256 :: h.check % 256 :: r
def ex0 (h : Hdr) (r : List Int) : List Int :=
 69 :: h.tos :: 0 :: 0 :: h.id / 256 % 256 :: h.id % 256 :: 64 * h.fixed :: 0 :: h.ttl :: 17 :: 0 :: 0 ::
 h.frm / 16777216 % 256 :: h.frm / 65536 % 256 :: h.frm / 256 % 256 :: h.frm % 256 :: h.to / 16777216 % 256 :: h.to / 65536 % 256 :: h.to / 256 % 256 :: h.to % 256 ::
 h.fport / 256 % 256 :: h.fport % 256 :: h.tport / 256 % 256 :: h.tport % 256 :: 0 :: 0 :: h.check / 256 % 256 :: h.check % 256 :: r
def ext (h : Hdr) : List Int := [128, 128 * h.marker + h.type, h.seq / 256 % 256, h.seq % 256, h.time / 16777216 % 256, h.time / 65536 % 256, h.time / 256 % 256, h.time % 256,
 h.source / 16777216 % 256, h.source / 65536 % 256, h.source / 256 % 256, h.source % 256]
theorem putR2 (x : Int) : putR x 2 = [x / 256 % 256, x % 256] := by simp [putR]
theorem putR4 (x : Int) : putR x 4 = [x / 16777216 % 256, x / 65536 % 256, x / 256 % 256, x % 256] := by simp [putR]
theorem tailL_ex (h : Hdr) : tailL h = if h.kind = 2 then ext h else [] := by simp only [tailL, putR2, putR4]; rfl
theorem headL_ex (h : Hdr) (ys : List Int) : headL h ++ ys = ex0 h (tailL h ++ ys) := by
 simp only [headL, putR2, putR4, ex0, tailL, List.cons_append, List.nil_append]
theorem tailL_len (h : Hdr) : (tailL h).length = if h.kind = 2 then 12 else 0 := by
 rw [tailL_ex]; split <;> rfl
theorem headL_len (h : Hdr) : (headL h).length = if h.kind = 2 then 40 else 28 := by
 have := congrArg List.length (headL_ex h [])
 simp only [List.append_nil, ex0, List.length_cons, tailL_len] at this
 rw [this]; split <;> rfl
def sumOf (h : Hdr) (n : Int) : Int := 65535 - addS 0 ((ex h n 0 []).take 20)
theorem put2_ex (h : Hdr) (r : List Int) : put2 (ex0 h r) = ex h (28 + r.length) 0 r := by
 have e : ((ex0 h r).length : Int) = 28 + r.length := by simp [ex0]; omega
 simp only [put2, e, putR2]
 rfl
theorem bldL_ex (h : Hdr) (r : List Int) : bldL (ex0 h r) = ex h (28 + r.length) (sumOf h (28 + r.length)) r := by
 have e : (ex h (28 + r.length) 0 r).take 20 = (ex h (28 + r.length) 0 []).take 20 := rfl
 simp only [bldL, put2_ex, e, putR2, sumOf]
 rfl
theorem valid_all {h : Hdr} (hv : validH h = true) : (h.kind = 1 ∨ h.kind = 2) ∧ (0 ≤ h.tos ∧ h.tos ≤ 255) ∧ (0 ≤ h.ttl ∧ h.ttl ≤ 255) ∧ (0 ≤ h.id ∧ h.id ≤ 65535) ∧ (0 ≤ h.fport ∧ h.fport ≤ 65535) ∧ (0 ≤ h.tport ∧ h.tport ≤ 65535) ∧ (0 ≤ h.check ∧ h.check ≤ 65535) ∧
  (0 ≤ h.fixed ∧ h.fixed ≤ 1) ∧ (0 ≤ h.frm ∧ h.frm ≤ 4294967295) ∧ (0 ≤ h.to ∧ h.to ≤ 4294967295) ∧
  (h.kind = 1 → h.marker = 0 ∧ h.type = 0 ∧ h.seq = 0 ∧ h.time = 0 ∧ h.source = 0) ∧
  (h.kind = 2 → (0 ≤ h.marker ∧ h.marker ≤ 1) ∧ (0 ≤ h.type ∧ h.type ≤ 127) ∧ (0 ≤ h.seq ∧ h.seq ≤ 65535) ∧ (0 ≤ h.time ∧ h.time ≤ 4294967295) ∧ (0 ≤ h.source ∧ h.source ≤ 4294967295)) := by
 simp only [validH, commonB, Bool.and_eq_true] at hv
 obtain ⟨hk, ⟨⟨⟨⟨⟨⟨⟨⟨h1, h2⟩, h3⟩, h4⟩, h5⟩, h6⟩, h7⟩, h8⟩, h9⟩, hr⟩ := hv
 refine ⟨by simpa [kindB] using hk, inB_yes h1, inB_yes h2, inB_yes h3, inB_yes h4, inB_yes h5, inB_yes h6, inB_yes h7, inB_yes h8, inB_yes h9, fun k => ?_, fun k => ?_⟩
 ·rw [restB, k] at hr
  simpa [and_assoc] using hr
 ·rw [restB, k] at hr
  simp only [show ((2 : Int) == 1) = false from rfl, Bool.false_eq_true, if_false, Bool.and_eq_true] at hr
  obtain ⟨⟨⟨⟨r1, r2⟩, r3⟩, r4⟩, r5⟩ := hr
  exact ⟨inB_yes r1, inB_yes r2, inB_yes r3, inB_yes r4, inB_yes r5⟩
theorem buildF_yes {h : Hdr} (hv : validH h = true) {ys : List Int} (hl : (headL h ++ ys).length ≤ 1500) : buildF h ys = (0, bldL (headL h ++ ys)) := by
 rw [buildF, if_pos hv, if_neg (by omega)]
theorem buildF_ex {h : Hdr} (ys : List Int) : bldL (headL h ++ ys) = ex h (28 + (tailL h ++ ys).length) (sumOf h (28 + (tailL h ++ ys).length)) (tailL h ++ ys) := by
 rw [headL_ex, bldL_ex]
theorem ex_len (h : Hdr) (n s : Int) (r : List Int) : (ex h n s r).length = 28 + r.length := by simp only [ex, List.length_cons]; omega
theorem bldL_len (h : Hdr) (ys : List Int) : (bldL (headL h ++ ys)).length = (headL h ++ ys).length := by
 rw [buildF_ex, ex_len, headL_ex]; simp only [ex0, List.length_cons]; omega
/-! ### a built packet is parsed -/
theorem getN2 (xs : List Int) (o : Nat) : getN xs o 2 = 256 * (xs[o]?.getD 0) + xs[o + 1]?.getD 0 := by simp [getN]
theorem getN4 (xs : List Int) (o : Nat) : getN xs o 4 = 256 * (256 * (256 * (xs[o]?.getD 0) + xs[o + 1]?.getD 0) + xs[o + 2]?.getD 0) + xs[o + 3]?.getD 0 := by simp [getN]
theorem w16 {x : Int} (h : 0 ≤ x ∧ x ≤ 65535) : 256 * (x / 256 % 256) + x % 256 = x := by omega
theorem w32 {x : Int} (h : 0 ≤ x ∧ x ≤ 4294967295) : 256 * (256 * (256 * (x / 16777216 % 256) + x / 65536 % 256) + x / 256 % 256) + x % 256 = x := by omega
def parse0x (h : Hdr) : Hdr := ⟨1, h.tos, h.id, h.fixed, h.ttl, h.frm, h.to, h.fport, h.tport, h.check, 0, 0, 0, 0, 0⟩
theorem parse0_ex {h : Hdr} (hv : validH h = true) (n s : Int) (r : List Int) : parse0 (ex h n s r) = parse0x h := by
 obtain ⟨_, ht, htt, hi, hfp, htp, hc, hf, hfr, hto, _⟩ := valid_all hv
 have e : parse0 (ex h n s r) = ⟨1, h.tos, 256 * (h.id / 256 % 256) + h.id % 256, 64 * h.fixed / 64 % 2, h.ttl, 256 * (256 * (256 * (h.frm / 16777216 % 256) + h.frm / 65536 % 256) + h.frm / 256 % 256) + h.frm % 256,
   256 * (256 * (256 * (h.to / 16777216 % 256) + h.to / 65536 % 256) + h.to / 256 % 256) + h.to % 256, 256 * (h.fport / 256 % 256) + h.fport % 256, 256 * (h.tport / 256 % 256) + h.tport % 256, 256 * (h.check / 256 % 256) + h.check % 256, 0, 0, 0, 0, 0⟩ := by
  simp only [parse0, getN2, getN4]; rfl
 rw [e, w16 hi, w32 hfr, w32 hto, w16 hfp, w16 htp, w16 hc, show 64 * h.fixed / 64 % 2 = h.fixed by omega]; rfl
theorem parse1_of (xs : List Int) : parse1 xs = ⟨2, (parse0 xs).tos, (parse0 xs).id, (parse0 xs).fixed, (parse0 xs).ttl, (parse0 xs).frm, (parse0 xs).to, (parse0 xs).fport, (parse0 xs).tport, (parse0 xs).check, xs[29]?.getD 0 / 128, xs[29]?.getD 0 % 128, getN xs 30 2, getN xs 32 4, getN xs 36 4⟩ := rfl
def rtpH (h : Hdr) (r : List Int) : Hdr := ⟨2, h.tos, h.id, h.fixed, h.ttl, h.frm, h.to, h.fport, h.tport, h.check, r[1]?.getD 0 / 128, r[1]?.getD 0 % 128, getN r 2 2, getN r 4 4, getN r 8 4⟩
theorem parse1_ex {h : Hdr} (hv : validH h = true) (n s : Int) (r : List Int) : parse1 (ex h n s r) = rtpH h r := by
 rw [parse1_of, parse0_ex hv]
 simp only [rtpH, parse0x, getN2, getN4]
 rfl
theorem rtpB_ex (h : Hdr) (n s : Int) (r : List Int) : rtpB (ex h n s r) = (decide (12 ≤ r.length) && decide (r[0]?.getD 0 = 128)) := by
 unfold rtpB
 rw [ex_len]
 rw [show decide (40 ≤ 28 + r.length) = decide (12 ≤ r.length) from decide_eq_decide.2 (by omega)]
 rfl
theorem rtpH_ext {h : Hdr} (hv : validH h = true) (hk : h.kind = 2) (ys : List Int) : rtpH h (ext h ++ ys) = h := by
 obtain ⟨_, ht, htt, hi, hfp, htp, hc, hf, hfr, hto, _, h2⟩ := valid_all hv
 obtain ⟨hm, hty, hs, hti, hso⟩ := h2 hk
 have e : rtpH h (ext h ++ ys) = ⟨2, h.tos, h.id, h.fixed, h.ttl, h.frm, h.to, h.fport, h.tport, h.check, (128 * h.marker + h.type) / 128, (128 * h.marker + h.type) % 128, 256 * (h.seq / 256 % 256) + h.seq % 256,
   256 * (256 * (256 * (h.time / 16777216 % 256) + h.time / 65536 % 256) + h.time / 256 % 256) + h.time % 256, 256 * (256 * (256 * (h.source / 16777216 % 256) + h.source / 65536 % 256) + h.source / 256 % 256) + h.source % 256⟩ := by
  simp only [rtpH, getN2, getN4]; rfl
 rw [e, w16 hs, w32 hti, w32 hso, show (128 * h.marker + h.type) / 128 = h.marker by omega, show (128 * h.marker + h.type) % 128 = h.type by omega, ← hk]
theorem parse0x_one {h : Hdr} (hv : validH h = true) (hk : h.kind = 1) : parse0x h = h := by
 obtain ⟨_, _, _, _, _, _, _, _, _, _, h1, _⟩ := valid_all hv
 obtain ⟨e1, e2, e3, e4, e5⟩ := h1 hk
 cases h; simp_all [parse0x]
theorem b16 {a b : Int} (ha : 0 ≤ a ∧ a ≤ 255) (hb : 0 ≤ b ∧ b ≤ 255) : (256 * a + b) / 256 % 256 = a ∧ (256 * a + b) % 256 = b := by omega
theorem b32 {a b c d : Int} (ha : 0 ≤ a ∧ a ≤ 255) (hb : 0 ≤ b ∧ b ≤ 255) (hc : 0 ≤ c ∧ c ≤ 255) (hd : 0 ≤ d ∧ d ≤ 255) :
  (256 * (256 * (256 * a + b) + c) + d) / 16777216 % 256 = a ∧ (256 * (256 * (256 * a + b) + c) + d) / 65536 % 256 = b ∧ (256 * (256 * (256 * a + b) + c) + d) / 256 % 256 = c ∧ (256 * (256 * (256 * a + b) + c) + d) % 256 = d := by omega
theorem list12 {l : List Int} (h : 12 ≤ l.length) : ∃ a0 a1 a2 a3 a4 a5 a6 a7 a8 a9 a10 a11 r, l = a0 :: a1 :: a2 :: a3 :: a4 :: a5 :: a6 :: a7 :: a8 :: a9 :: a10 :: a11 :: r := by
 match l, h with
 | a0 :: a1 :: a2 :: a3 :: a4 :: a5 :: a6 :: a7 :: a8 :: a9 :: a10 :: a11 :: r, _ => exact ⟨_, _, _, _, _, _, _, _, _, _, _, _, _, rfl⟩
 | [], h => simp at h
 | [_], h => simp at h
 | [_, _], h => simp at h
 | [_, _, _], h => simp at h
 | [_, _, _, _], h => simp at h
 | [_, _, _, _, _], h => simp at h
 | [_, _, _, _, _, _], h => simp at h
 | [_, _, _, _, _, _, _], h => simp at h
 | [_, _, _, _, _, _, _, _], h => simp at h
 | [_, _, _, _, _, _, _, _, _], h => simp at h
 | [_, _, _, _, _, _, _, _, _, _], h => simp at h
 | [_, _, _, _, _, _, _, _, _, _, _], h => simp at h
theorem rtp_back (h : Hdr) {r : List Int} (hb : bytesOk r) (hl : 12 ≤ r.length) (h0 : r[0]?.getD 0 = 128) : headL (rtpH h r) ++ r.drop 12 = ex0 h r := by
 obtain ⟨a0, a1, a2, a3, a4, a5, a6, a7, a8, a9, a10, a11, s, rfl⟩ := list12 hl
 have hm := hb
 simp only [bytesOk, List.mem_cons, forall_eq_or_imp] at hm
 obtain ⟨_, m1, m2, m3, m4, m5, m6, m7, m8, m9, m10, m11, _⟩ := hm
 have e : a0 = 128 := h0
 subst e
 rw [headL_ex, tailL_ex, if_pos (show (rtpH h _).kind = 2 from rfl)]
 have d : ext (rtpH h (128 :: a1 :: a2 :: a3 :: a4 :: a5 :: a6 :: a7 :: a8 :: a9 :: a10 :: a11 :: s)) = [128, a1, a2, a3, a4, a5, a6, a7, a8, a9, a10, a11] := by
  obtain ⟨p1, p2⟩ := b16 m2 m3
  obtain ⟨q1, q2, q3, q4⟩ := b32 m4 m5 m6 m7
  obtain ⟨s1, s2, s3, s4⟩ := b32 m8 m9 m10 m11
  have f : rtpH h (128 :: a1 :: a2 :: a3 :: a4 :: a5 :: a6 :: a7 :: a8 :: a9 :: a10 :: a11 :: s) = ⟨2, h.tos, h.id, h.fixed, h.ttl, h.frm, h.to, h.fport, h.tport, h.check, a1 / 128, a1 % 128, 256 * a2 + a3, 256 * (256 * (256 * a4 + a5) + a6) + a7, 256 * (256 * (256 * a8 + a9) + a10) + a11⟩ := by
   simp only [rtpH, getN2, getN4]; rfl
  rw [f]
  simp only [ext, p1, p2, q1, q2, q3, q4, s1, s2, s3, s4, show 128 * (a1 / 128) + a1 % 128 = a1 by omega]
 rw [d]
 rfl
theorem rtpH_valid {h : Hdr} (hv : validH h = true) {r : List Int} (hb : bytesOk r) : validH (rtpH h r) = true := by
 simp only [validH, Bool.and_eq_true] at hv ⊢
 refine ⟨rfl, hv.2.1, ?_⟩
 have h1 := getD_byte hb 1
 have h2 := getN_rng hb 2 2
 have h4 := getN_rng hb 4 4
 have h8 := getN_rng hb 8 4
 have p2 : (256 : Int) ^ 2 = 65536 := rfl
 have p4 : (256 : Int) ^ 4 = 4294967296 := rfl
 rw [p2] at h2
 rw [p4] at h4 h8
 have inB_mk : ∀ {n m : Int}, 0 ≤ n → n ≤ m → inB n m = true := fun a b => by simp [inB, a, b]
 simp only [restB, rtpH, show ((2 : Int) == 1) = false from rfl, Bool.false_eq_true, if_false, Bool.and_eq_true]
 exact ⟨⟨⟨⟨inB_mk (by omega) (by omega), inB_mk (by omega) (by omega)⟩, inB_mk h2.1 (by omega)⟩, inB_mk h4.1 (by omega)⟩, inB_mk h8.1 (by omega)⟩
theorem build_parse {h : Hdr} (hv : validH h = true) {ys : List Int} (hb : bytesOk ys) (hl : (headL h ++ ys).length ≤ 1500) :
  parseF (bldL (headL h ++ ys)) = (parseH (bldL (headL h ++ ys)), (bldL (headL h ++ ys)).drop (parseN (bldL (headL h ++ ys))), 0) ∧
  buildF (parseH (bldL (headL h ++ ys))) ((bldL (headL h ++ ys)).drop (parseN (bldL (headL h ++ ys)))) = (0, bldL (headL h ++ ys)) ∧ validH (parseH (bldL (headL h ++ ys))) = true ∧
  ((h.kind = 1 ∧ 12 ≤ ys.length ∧ ys[0]?.getD 0 = 128) ∨ parseH (bldL (headL h ++ ys)) = h ∧ (bldL (headL h ++ ys)).drop (parseN (bldL (headL h ++ ys))) = ys) := by
 have hlen := bldL_len h ys
 have hl28 : 28 ≤ (headL h ++ ys).length := by rw [List.length_append, headL_len]; split <;> omega
 have key : buildF (parseH (bldL (headL h ++ ys))) ((bldL (headL h ++ ys)).drop (parseN (bldL (headL h ++ ys)))) = (0, bldL (headL h ++ ys)) ∧ validH (parseH (bldL (headL h ++ ys))) = true ∧
  ((h.kind = 1 ∧ 12 ≤ ys.length ∧ ys[0]?.getD 0 = 128) ∨ parseH (bldL (headL h ++ ys)) = h ∧ (bldL (headL h ++ ys)).drop (parseN (bldL (headL h ++ ys))) = ys) := by
  rcases (valid_all hv).1 with hk | hk
  ·have ht : tailL h = [] := by rw [tailL_ex, if_neg (by omega)]
   have e := buildF_ex (h := h) ys
   rw [ht, List.nil_append] at e
   by_cases hr : 12 ≤ ys.length ∧ ys[0]?.getD 0 = 128
   ·have hB : rtpB (bldL (headL h ++ ys)) = true := by rw [e, rtpB_ex]; simp [hr.1, hr.2]
    have hP : parseH (bldL (headL h ++ ys)) = rtpH h ys := by rw [parseH, if_pos hB, e, parse1_ex hv]
    have hN : (bldL (headL h ++ ys)).drop (parseN (bldL (headL h ++ ys))) = ys.drop 12 := by
     rw [parseN, if_pos hB, e]
     show (ex h _ _ ys).drop (28 + 12) = _
     rw [← List.drop_drop]; rfl
    have hx : headL (rtpH h ys) ++ ys.drop 12 = headL h ++ ys := by rw [rtp_back h hb hr.1 hr.2, headL_ex, ht]; rfl
    rw [hP, hN]
    refine ⟨?_, rtpH_valid hv hb, .inl ⟨hk, hr⟩⟩
    rw [buildF_yes (rtpH_valid hv hb) (by rw [hx]; exact hl), hx]
   ·have hB : rtpB (bldL (headL h ++ ys)) = false := by
     rw [e, rtpB_ex, ← Bool.decide_and]
     exact decide_eq_false hr
    have hP : parseH (bldL (headL h ++ ys)) = h := by rw [parseH, hB, e]; exact (parse0_ex hv _ _ _).trans (parse0x_one hv hk)
    have hN : (bldL (headL h ++ ys)).drop (parseN (bldL (headL h ++ ys))) = ys := by rw [parseN, hB, e]; rfl
    rw [hP, hN]
    exact ⟨buildF_yes hv hl, hv, .inr ⟨rfl, rfl⟩⟩
  ·have ht : tailL h = ext h := by rw [tailL_ex, if_pos hk]
   have e := buildF_ex (h := h) ys
   rw [ht] at e
   have hB : rtpB (bldL (headL h ++ ys)) = true := by
    rw [e, rtpB_ex]
    simp [ext]
   have hP : parseH (bldL (headL h ++ ys)) = h := by rw [parseH, if_pos hB, e, parse1_ex hv, rtpH_ext hv hk]
   have hN : (bldL (headL h ++ ys)).drop (parseN (bldL (headL h ++ ys))) = ys := by rw [parseN, if_pos hB, e]; rfl
   rw [hP, hN]
   exact ⟨buildF_yes hv hl, hv, .inr ⟨rfl, rfl⟩⟩
 refine ⟨?_, key⟩
 rw [parseF, if_neg (by omega), key.1, if_pos rfl]
/-! ### a changed bit -/
end Go.Proofs.YtlnkofpcidngoaaDoor
