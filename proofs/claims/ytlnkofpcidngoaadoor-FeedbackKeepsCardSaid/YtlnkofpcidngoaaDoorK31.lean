/- Several texts in one. -/
import Derived.Test.YtlnkofpcidngoaaDoorK0
import Derived.Test.YtlnkofpcidngoaaDoorK30
import Derived.Test.YtlnkofpcidngoaaDoorK1
import Derived.Test.YtlnkofpcidngoaaDoorK12
import Derived.Test.YtlnkofpcidngoaaDoorK2
import Derived.Test.YtlnkofpcidngoaaDoorK13
import Derived.Test.YtlnkofpcidngoaaDoorK11
namespace Go.Proofs.YtlnkofpcidngoaaDoor
open Go.ChangeShapes Go.WideShapes Go.ChangeAt Go.RowKit
theorem fit_one {x k v r : Int} (hk : knownB x = true) (h3 : 3 ≤ k) (h4 : k ≤ x) : (decE x r k (lowS k v) == 0 && decV x r k (lowS k v) == v) = fitOne x k v r := by
 have hx := known_rng hk
 have hv := low_val (k := k) (v := v) (by omega) (by omega)
 cases h5 : valB x r
 · simp [decE, fitOne, hk, h5]
 · simp [decE, decV, fitOne, hk, h5, hv, h3, h4]
set_option maxRecDepth 20000 in
set_option maxHeartbeats 2000000 in
theorem rfits_any (x : Int) (a : Option Addr) (len cap : Nat) (rs : List Int) (k v : Int) (w : World) (hr : Rd .i64 w a len rs) :
   Calls Tryd.prog 63 #[.int .i64 x, .slice a len cap, .int .i64 k, .int .i64 v] w fun e w' => e = .returned (.bool (fitsS x rs k v)) ∧ Gr w w' := by
 by_cases h1 : knownB x = true
 · have hx := known_rng h1
   by_cases h3 : k < 3
   · have h6 : fitHead x k v = false := fhead_no (fun h => by omega)
     have hn := fits_nohead (rs := rs) h6
     have HN := zqd hn
     clear hn h6
     go_enter Tryd.func63, Tryd.ntmps63
     go_wp2_with ((go_at_call 86; refine (rwide_any _ _).mono ?_; rintro e w' ⟨rfl, rfl⟩))
     go_ret
     exact ⟨ret_bool HN.out.symm, Gr.refl _⟩
   · by_cases h4 : x < k
     · have h6 : fitHead x k v = false := fhead_no (fun h => by omega)
       have hn := fits_nohead (rs := rs) h6
       have HN := zqd hn
       clear hn h6
       go_enter Tryd.func63, Tryd.ntmps63
       go_wp2_with ((go_at_call 86; refine (rwide_any _ _).mono ?_; rintro e w' ⟨rfl, rfl⟩))
       go_ret
       exact ⟨ret_bool HN.out.symm, Gr.refl _⟩
     · have hwx := wrap_pow (show x.toNat ≤ 62 by omega)
       by_cases b1 : v < 0
       · have h6 : fitHead x k v = false := fhead_no (fun h => by have := h.2.2; rw [val_neg b1] at this; simp at this)
         have hn := fits_nohead (rs := rs) h6
         have HN := zqd hn
         clear hn h6
         go_enter Tryd.func63, Tryd.ntmps63
         go_wp2_with ((go_at_call 86; refine (rwide_any _ _).mono ?_; rintro e w' ⟨rfl, rfl⟩))
         go_ret
         exact ⟨ret_bool HN.out.symm, Gr.refl _⟩
       · by_cases b2 : 2 ^ x.toNat ≤ v
         · have h6 : fitHead x k v = false := fhead_no (fun h => by have := h.2.2; rw [val_far b2] at this; simp at this)
           have hn := fits_nohead (rs := rs) h6
           have HN := zqd hn
           clear hn h6
           go_enter Tryd.func63, Tryd.ntmps63
           go_wp2_with ((go_at_call 86; refine (rwide_any _ _).mono ?_; rintro e w' ⟨rfl, rfl⟩))
           go_ret
           exact ⟨ret_bool HN.out.symm, Gr.refl _⟩
         · have hl := fits_len (rs := rs) (head_parts.2 ⟨h1, ⟨show 3 ≤ k by omega, show k ≤ x by omega⟩, val_yes b1 b2⟩)
           have hm : len ≤ 9223372036854775807 := by have := hr.2.2.1; simp only [maxLen] at this; omega
           have HL := zqd hl
           have HR := zqd hr
           have h3' : 3 ≤ k := by omega
           have h4' : k ≤ x := by omega
           clear hl
           by_cases h0 : len = 0
           · subst h0
             have : rs = [] := List.eq_nil_of_length_eq_zero hr.1
             have HE := zqd this
             clear this hr
             go_enter Tryd.func63, Tryd.ntmps63
             go_wp2_with ((go_at_call 86; refine (rwide_any _ _).mono ?_; rintro e w' ⟨rfl, rfl⟩))
             go_loop [9, 10, 11] (fun i _ _ => i = .int .i64 0) (fun _ _ _ => 0)
             case atStart => exact rfl
             case round =>
               subst hrel
               go_wp2_with fail
               go_ret
               exact ⟨ret_bool (by rw [HL.out, HE.out]; rfl), Gr.refl _⟩
           · obtain ⟨b, off, rfl, hb, hc⟩ := hr.some (by omega)
             have HC := zqd hc
             clear hr hc
             go_enter Tryd.func63, Tryd.ntmps63
             go_wp2_with ((go_at_call 86; refine (rwide_any _ _).mono ?_; rintro e w' ⟨rfl, rfl⟩))
             go_loopw [9, 10, 11] (fun i _ _ wr => ∃ j : Nat, j ≤ len ∧ i = .int .i64 j ∧ rs.all (fitOne x k v) = (rs.drop j).all (fitOne x k v) ∧ Gr w wr) (fun i _ _ _ => len - (intOf i).toNat)
             case atStart => exact ⟨0, by omega, rfl, by simp, Gr.refl _⟩
             case round =>
               obtain ⟨j, hj, rfl, hall, hgr⟩ := hrel
               have HA := zqd hall
               have HG := zqd hgr
               clear hall
               by_cases hlt : j < len
               · have cj : ∀ w1, Gr wr w1 → w1.cell? ⟨b, off + j, none⟩ = some (.int .i64 (rs[j]?.getD 0)) := fun w1 h => (HG.out.trans h).cell (HC.out j hlt)
                 have hd := all_drop (p := fitOne x k v) rs j (by rw [HR.out.1]; exact hlt)
                 have HD := zqd hd
                 clear hd
                 obtain ⟨r, hrr⟩ : ∃ r, rs[j]?.getD 0 = r := ⟨_, rfl⟩
                 have HRR := zqd hrr
                 rw [hrr] at cj
                 have hone := fit_one (v := v) (r := r) h1 h3' h4'
                 have HONE := zqd hone
                 clear hrr hone hgr
                 go_wp2_with fail
                 refine Sched.wp_region_sched 15 [] [] (by kernel_rfl) (by kernel_rfl) ?_
                 simp only [List.take_succ_cons, List.take_zero, List.drop_succ_cons, List.drop_zero]
                 repeat (first | (refine Sched.walk1_no rfl rfl (fun K hK => ?_); simp only [Act.put, zqa, zqb, zqc]; refine hK _ ?_; clear hK K) | (refine Sched.walk1_gr rfl rfl rfl (fun K hK => ?_); apply Exists.intro; refine ⟨fun w1 hw1 => ?_, ?_⟩; (focus (go_simp; (try go_ints); (try (simp only [IntWalk.iteOmega]; go_simp)); first | done | ((go_at_call 43; exact gr_same (rlow _ _ _))) | ((go_at_call 87; exact gr_same (rdecode_any _ _ _ _ _))) | (with_reducible rfl) | (with_reducible exact ⟨rfl, rfl⟩))); simp only [Act.put, zqa, zqb, zqc]; refine hK _ ?_; clear hK K) | (refine Sched.walk1_pure rfl rfl rfl (fun K hK => ?_); apply Exists.intro; refine ⟨fun w1 => ?_, ?_⟩; (focus (go_simp; (try go_ints); (try (simp only [IntWalk.iteOmega]; go_simp)); first | done | (with_reducible rfl) | (with_reducible exact ⟨rfl, rfl⟩))); simp only [Act.put, zqa, zqb, zqc]; refine hK _ ?_; clear hK K) | (refine Sched.walk1_box rfl rfl ?_; apply Exists.intro; refine ⟨fun w1 hw1 => ?_, ?_⟩; (focus (go_simp; exact ⟨Gr.alloc _ _, rfl, by simp, heap_alloc_new _ _⟩))))
                 refine Sched.walk1_nil ?_
                 intro wq hwq
                 dsimp only [Sched.EndN, List.nil_append, List.cons_append, Act.put]
                 (try simp only [zqa, zqb, zqc])
                 repeat (first | (refine Sched.walk2_no rfl (fun K hK => ?_); simp only [Act.put, zqa, zqb, zqc]; refine hK _ ?_; clear hK K) | (refine Sched.walk2_go rfl (fun K hK => ?_); go_simp; (try go_ints); (try (simp only [IntWalk.iteOmega]; go_simp)); first | (refine hK _ _ ?_; clear hK K) | fail))
                 refine Sched.walk2_nil ?_
                 have HGQ := zqd hwq
                 clear hwq cj
                 obtain ⟨E, hE⟩ : ∃ E, decE x r k (lowS k v) = E := ⟨_, rfl⟩
                 obtain ⟨D, hD⟩ : ∃ D, decV x r k (lowS k v) = D := ⟨_, rfl⟩
                 have HE := zqd hE
                 have HDD := zqd hD
                 rw [hE, hD]
                 clear hE hD
                 cases h6 : (E == 0)
                 · have h6' : (E != 0) = true := by rw [bne, h6]; rfl
                   have H6 := zqd h6
                   go_wp2_with fail
                   go_ret
                   exact ⟨ret_bool (by rw [HL.out, HA.out, HD.out, HRR.out, ← HONE.out, HE.out, H6.out]; rfl), HG.out.trans HGQ.out⟩
                 · have h6' : (E != 0) = false := by rw [bne, h6]; rfl
                   have H6 := zqd h6
                   cases h7 : (D == v)
                   · have h7' : (D != v) = true := by rw [bne, h7]; rfl
                     have H7 := zqd h7
                     go_wp2_with fail
                     go_ret
                     exact ⟨ret_bool (by rw [HL.out, HA.out, HD.out, HRR.out, ← HONE.out, HE.out, HDD.out, H6.out, H7.out]; rfl), HG.out.trans HGQ.out⟩
                   · have h7' : (D != v) = false := by rw [bne, h7]; rfl
                     have H7 := zqd h7
                     go_wp2_with fail
                     go_roundw
                     case rel => exact ⟨j + 1, by omega, by go_num, by rw [HA.out, HD.out, HRR.out, ← HONE.out, HE.out, HDD.out, H6.out, H7.out]; rfl, HG.out.trans HGQ.out⟩
                     case measure => simp [intOf]; omega
               · clear hgr
                 go_wp2_with fail
                 go_ret
                 exact ⟨ret_bool (by rw [HL.out, HA.out, List.drop_eq_nil_of_le (by rw [HR.out.1]; omega)]; rfl), HG.out⟩
 · have h1' : knownB x = false := by simpa using h1
   clear h1
   have h6 : fitHead x k v = false := fhead_no (fun h => by rw [h1'] at h; simp at h)
   have hn := fits_nohead (rs := rs) h6
   have HN := zqd hn
   clear hn h6
   go_enter Tryd.func63, Tryd.ntmps63
   go_wp2_with ((go_at_call 86; refine (rwide_any _ _).mono ?_; rintro e w' ⟨rfl, rfl⟩))
   go_ret
   exact ⟨ret_bool HN.out.symm, Gr.refl _⟩
theorem num_i64 (h : Hdr) : i64 (numH h) := by
 unfold numH
 split
 · have := lowS_rng 16 h.seq; constructor <;> omega
 · have := lowS_rng 16 h.id; constructor <;> omega
def NumsRel (B n : Nat) (v i : Value) (W wr : World) : Prop := ∃ (j : Nat) (a : Option Addr) (c : Nat) (xs : List Int), j ≤ n ∧ i = .int .i64 j ∧ v = .slice a j c ∧ OwnI B 3 .i64 wr a j c xs ∧ Gr W wr
theorem NumsRel.app {B : Nat} {W wr : World} {a : Option Addr} {j c : Nat} {xs : List Int} (ho : OwnI B 3 .i64 wr a j c xs) (hg : Gr W wr) (hB : B ≤ wr.heap.size) (hW : W.heap.size ≤ B) (N : Int) (hN : i64 N) (hj : j ≤ 1000) :
   ∃ a' c' w', (Builtin.append_ #[27, 27] 27 #[.slice a j c, .slice (some ⟨wr.heap.size, 0, none⟩) 1 1]).run Tryd.prog (wr.alloc (.cells #[.int .i64 N] 3)) = .ok (.slice a' (j + 1) c') w' ∧ OwnI B 3 .i64 w' a' (j + 1) c' (xs ++ [N]) ∧ Gr W w' ∧ (wr.alloc (.cells #[.int .i64 N] 3)).grownBy w' (Value.slice a j c).ownBlock := by
 have hal : Gr wr (wr.alloc (.cells #[.int .i64 N] 3)) := Gr.alloc _ _
 have hrd := rd_new (k := .i64) (w := wr) [N] 3 (0, 0) 1 rfl (by simp [maxLen]) (by intro z hz; simp only [List.mem_singleton] at hz; subst hz; exact WalkArith.wf_i64 hN)
 obtain ⟨a', c', w', h1, h2, h3, -⟩ := app_i64 B _ a j c xs (ho.stay hal) _ 1 1 _ hrd (by omega) (Nat.le_trans hB hal.size)
 exact ⟨a', c', w', h1, h2, grown_own (hg.trans hal) (ho.stay hal) hW h3, h3⟩
set_option maxHeartbeats 2000000 in
set_option maxRecDepth 100000 in
theorem rfits9_any (s : Snd) (h : Hdr) (k : Int) (w : World) (hr : RdH w s.a s.n s.c s.refs) (hn : s.n ≤ 1000) : Calls Tryd.prog 61 #[SVal s, HVal h, .int .i64 k] w fun e w' => ∃ b, e = .returned (.bool b) ∧ Gr w w' := by
 have HR := zqd hr
 clear hr
 go_enter Tryd.func61, Tryd.ntmps61
 go_upto_region 1 with (fail)
 obtain ⟨w1, hw1⟩ : ∃ y, y = (w.alloc (.cells (SCells s).toArray 46)).alloc (.cells (HCells h).toArray 49) := ⟨_, rfl⟩
 have hb1 : CBlk w.heap.size 46 (SCells s) w1 := by rw [hw1]; exact (CBlk.new _ _ _).kept (Gr.alloc _ _)
 have hh1 : CBlk (w.heap.size + 1) 49 (HCells h) w1 := by rw [hw1]; exact heap_two _ _ _
 have hg1 : Gr w w1 := by rw [hw1]; exact (Gr.alloc _ _).trans (Gr.alloc _ _)
 simp only [SCells, HCells] at hw1
 first | rw [← hw1] | (go_show; fail)
 have HB1 := zqd hb1
 have HH1 := zqd hh1
 have HG1 := zqd hg1
 clear hw1 hb1 hh1 hg1
 go_wp2_with fail
 go_loopw [7, 8] (fun v i wr => NumsRel w1.heap.size s.n v i w1 wr) (fun _ i _ => s.n - (intOf i).toNat)
 case atStart => exact ⟨0, none, 0, [], by omega, rfl, rfl, OwnI.nil _ _ _ _, Gr.refl _⟩
 case round =>
   obtain ⟨j, a, c, xs, hj, rfl, rfl, ho, hg⟩ := hrel
   have HO := zqd ho
   have HG := zqd hg
   have x8 := (HB1.out.kept hg).at 8 rfl
   clear ho hg
   by_cases hlt : j < s.n
   · obtain ⟨f, hf, hfo⟩ := (HR.out.kept (HG1.out.trans HG.out)).get hlt
     obtain ⟨b, off, ea, -, hrow⟩ := (HR.out.kept (HG1.out.trans HG.out)).row (by omega)
     have HRG := zqd (hrow j f hf)
     have hcap := HR.out.2.1
     rw [ea] at x8
     clear hrow hf hfo ea
     go_wp2_with (refine rng_load rfl 49 _ rfl b (off + j * 15) rfl (HCells f) HRG.out Tryd.underlying49 rfl (by kernel_rfl) ?_)
     obtain ⟨N, hN⟩ : ∃ N, numH f = N := ⟨_, rfl⟩
     refine (rnum_is hN wr).mono ?_
     rintro e w2 ⟨rfl, hg2⟩
     obtain ⟨a3, c3, w3, hrun, ho3, hg3, -⟩ := NumsRel.app (HO.out.stay hg2) (HG.out.trans hg2) (HG.out.trans hg2).size (Nat.le_refl _) N (hN ▸ num_i64 f) (by omega)
     have HRUN := zqd hrun
     have HO3 := zqd ho3
     have HG3 := zqd hg3
     clear hrun ho3 hg3 hg2 hN x8 HRG
     go_wp2_with (at_builtin; refine wpList_app rfl _ _ _ rfl rfl rfl HRUN.out ?_)
     go_roundw
     case rel => exact ⟨j + 1, a3, c3, _, by omega, by go_num, rfl, HO3.out, HG3.out⟩
     case measure => (simp [intOf] <;> omega)
   · obtain rfl : j = s.n := by omega
     have HHW := zqd (HH1.out.kept HG.out)
     go_wp2_with (refine cblk_load rfl 49 _ rfl (w.heap.size + 1) rfl HHW.out Tryd.underlying49 rfl (by kernel_rfl) ?_)
     obtain ⟨N, hN⟩ : ∃ N, numH h = N := ⟨_, rfl⟩
     refine (rnum_is hN wr).mono ?_
     rintro e w2 ⟨rfl, hg2⟩
     have HG2 := zqd (HG1.out.trans (HG.out.trans hg2))
     have HO2 := zqd (HO.out.stay hg2)
     clear hg2 hN x8
     go_wp2_with fail
     refine (rfits_any 16 a s.n c xs k N w2 HO2.out.rd).mono ?_
     rintro e w3 ⟨rfl, hg3⟩
     have HG3 := zqd (HG2.out.trans hg3)
     clear hg3
     go_wp2_with fail
     go_ret
     exact ⟨_, rfl, HG3.out⟩
end Go.Proofs.YtlnkofpcidngoaaDoor
