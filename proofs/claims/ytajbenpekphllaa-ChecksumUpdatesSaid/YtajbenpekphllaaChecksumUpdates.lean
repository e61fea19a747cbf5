/- The law ChecksumUpdates: its walk. -/
import Derived.Test.YtajbenpekphllaaChecksumLaws
import Derived.Test.YtajbenpekphllaaUpdate
import Derived.Test.YtajbenpekphllaaSched
namespace Go.Proofs.Ytajbenpekphllaa
open Go.ChangeShapes Go.WideShapes Go.ChangeAt Go.RowKit

theorem fold_update {W f v : Int} (h0 : 0 < W - f) (hf : 0 ≤ f) (hv : 0 ≤ v) : foldS (foldS W + 65535 - f + v) = foldS (W - f + v) ∨ 65535 < f := by
  by_cases h : 65535 < f
  · exact .inr h
  · left; unfold foldS; split <;> split <;> split <;> omega

theorem upd_zero (a : Option Addr) (len cap : Nat) (p q : Int) (w : World) (hlen : len < 2) :
    Calls Try.prog 11 #[.slice a len cap, .int .i64 p, .int .i64 q] w fun e w' => e = .returned (.bool true) ∧ w.grownBy w' none := by
  have h2 : (len : Int) / 2 = 0 := by omega
  go_enter Try.func11, Try.ntmps11
  go_wp2_with fail
  refine (awake4 _).mono ?_
  rintro e w4 ⟨rfl, hg4⟩
  have HG := Lib.hid hg4
  clear hg4
  go_wp2_with fail
  go_ret
  exact ⟨rfl, HG.out⟩

theorem upd_walk (a : Option Addr) (len cap : Nat) (bs : List Int) (p q : Int) (w : World) (hr : Rd .u8 w a len bs) (hL : len ≤ 140737488351232) (hlen : 2 ≤ len) :
    Calls Try.prog 11 #[.slice a len cap, .int .i64 p, .int .i64 q] w fun e w' => e = .returned (.bool true) ∧ w.grownBy w' none := by
  obtain ⟨gb, off, rfl, hgb, hcb⟩ := hr.some (by omega)
  have hbl := hr.len
  have hby := hr.bytes
  have m1 := modF_lo p ((len : Int) / 2)
  have m2 := modF_hi p ((len : Int) / 2) (by omega)
  have v1 := modF_lo q 65536
  have v2 := modF_hi q 65536 (by omega)
  obtain ⟨v, hv⟩ : ∃ v, modF q 65536 = v := ⟨_, rfl⟩
  obtain ⟨I, hI⟩ : ∃ I : Nat, 2 * modF p ((len : Int) / 2) = (I : Int) := ⟨(2 * modF p ((len : Int) / 2)).toNat, by omega⟩
  have hIe : I % 2 = 0 := by omega
  have hI1 : I + 1 < len := by omega
  rw [hv] at v1 v2
  have hn0 : ((len : Int) / 2 == 0) = false := by simp; omega
  obtain ⟨a1, c1, w1, hrun1, ho1, hg1, hf1⟩ := app_u8_nil w.heap.size w (some ⟨gb, off, none⟩) len cap bs hr (by omega) (Nat.le_refl _)
  obtain ⟨g, rfl, hBg, hgl, hcg, hfz⟩ := ho1.some (by omega)
  have HR1 := Lib.hid hrun1
  have cI := hcg I (by omega)
  have cI1 := hcg (I + 1) hI1
  have fI := hfz I
  have fI1 := hfz (I + 1)
  have bI := hcb I (by omega)
  have bI1 := hcb (I + 1) hI1
  have HR := Lib.hid hr
  have HIE := Lib.hid hIe
  have HG1 := Lib.hid hg1
  have HO1 := Lib.hid ho1
  have HBL := Lib.hid hbl
  have HBY := Lib.hid hby
  clear hrun1 hf1 hcg hfz hcb m1 m2 hr hIe hg1 ho1 hbl hby
  go_enter Try.func11, Try.ntmps11
  go_wp2_with (first | ((go_at_call 15; refine (mod_any _ _ _ (by omega)).mono ?_; rintro e w' ⟨rfl, rfl⟩)) | (at_builtin; refine wpList_app rfl _ _ _ rfl rfl rfl HR1.out ?_))
  have ho2 := (HO1.out.set I 0 (by decide)).set (I + 1) 0 (by decide)
  have hg2 := grown_set (grown_set HG1.out (a := ⟨g, I, none⟩) hBg (.int .u8 0)) (a := ⟨g, I + 1, none⟩) hBg (.int .u8 0)
  refine (add_any 0 _ len c1 ((bs.set I 0).set (I + 1) 0) _ ho2.rd (by omega) (by omega)).mono ?_
  rintro e w2 ⟨rfl, hw2⟩
  rw [hw2] at ho2 hg2
  clear hw2 cI cI1 fI fI1
  have HG2 := Lib.hid hg2
  by_cases hz : addS 0 ((bs.set I 0).set (I + 1) 0) = 0
  · rw [hz]
    clear hz ho2 hg2
    go_wp2_with fail
    refine (awake4 _).mono ?_
    rintro e w4 ⟨rfl, hg4⟩
    have HG := Lib.hid hg4
    clear hg4
    go_wp2_with fail
    go_ret
    exact ⟨rfl, HG2.out.trans HG.out⟩
  · have hz' : (addS 0 ((bs.set I 0).set (I + 1) 0) == 0) = false := by simpa using hz
    have HZ := Lib.hid hz
    have HO2 := Lib.hid ho2
    obtain ⟨g', e1, _, _, hcg, hfz⟩ := ho2.some (by omega)
    obtain rfl : g = g' := by injection e1 with e1; injection e1
    have cI := hcg I (by omega)
    have cI1 := hcg (I + 1) hI1
    have fI := hfz I
    have fI1 := hfz (I + 1)
    clear hcg hfz e1 ho2 hz hg2
    go_wp2_with fail
    have hw3 : ∃ x, x = (w2.setCell ⟨g, I, none⟩ (.int .u8 (v / 256))).setCell ⟨g, I + 1, none⟩ (.int .u8 (v % 256)) := ⟨_, rfl⟩
    obtain ⟨w3, hw3⟩ := hw3
    rw [← hw3]
    have ho3 := (HO2.out.set I (v / 256) (WalkArith.wf_u8 (by omega))).set (I + 1) (v % 256) (WalkArith.wf_u8 (by omega))
    have hg3 : Gr w w3 := by rw [hw3]; exact grown_set (grown_set HG2.out (a := ⟨g, I, none⟩) hBg _) (a := ⟨g, I + 1, none⟩) hBg _
    rw [← hw3] at ho3
    have hrd3 := ho3.rd
    have hr3 : ∀ w1, Gr w3 w1 → Rd .u8 w1 (some ⟨gb, off, none⟩) len bs := fun w1 h => HR.out.kept (hg3.trans h)
    have l0 : ∀ w1, Gr w3 w1 → w1.cell? ⟨gb, off + I, none⟩ = some (.int .u8 (bs[I]?.getD 0)) := fun w1 h => (hg3.trans h).cell bI
    have l1 : ∀ w1, Gr w3 w1 → w1.cell? ⟨gb, off + (I + 1), none⟩ = some (.int .u8 (bs[I + 1]?.getD 0)) := fun w1 h => (hg3.trans h).cell bI1
    have y0 := getD_byte HBY.out I
    have y1 := getD_byte HBY.out (I + 1)
    have hS := foldS_rng (foldS 0 + words bs)
    have hS2 : 0 ≤ addS 0 bs ∧ addS 0 bs ≤ 65535 := hS
    -- the law
    have hu := upd_yes (s := 65535 - addS 0 bs) (f := 256 * bs[I]?.getD 0 + bs[I + 1]?.getD 0) (t := v) (by omega)
    have e0 : foldS 0 = 0 := by decide
    have ws1 := words_set bs I 0 0 HIE.out (by rw [HBL.out]; exact hI1)
    have ws2 : words ((((bs.set I 0).set (I + 1) 0).set I (v / 256)).set (I + 1) (v % 256)) = words bs - (256 * bs[I]?.getD 0 + bs[I + 1]?.getD 0) + v := by
      have q1 := words_set ((bs.set I 0).set (I + 1) 0) I (v / 256) (v % 256) HIE.out (by simp [HBL.out]; exact hI1)
      have g1 : ((bs.set I 0).set (I + 1) 0)[I]?.getD 0 = 0 := by
        rw [List.getElem?_set_ne (by omega), List.getElem?_set_self (by rw [HBL.out]; omega)]; rfl
      have g2 : ((bs.set I 0).set (I + 1) 0)[I + 1]?.getD 0 = 0 := by
        rw [List.getElem?_set_self (by simp [HBL.out]; exact hI1)]; rfl
      rw [q1, g1, g2, ws1]; omega
    have wpos : 0 < words bs - (256 * bs[I]?.getD 0 + bs[I + 1]?.getD 0) := by
      have hz2 := HZ.out
      unfold addS at hz2
      rw [e0, ws1] at hz2
      have := (words_rng ((bs.set I 0).set (I + 1) 0) (fun x hx => by
        rcases List.mem_or_eq_of_mem_set hx with hx | rfl
        · rcases List.mem_or_eq_of_mem_set hx with hx | rfl
          · exact HBY.out x hx
          · omega
        · omega)).1
      rw [ws1] at this
      rcases Int.lt_or_eq_of_le this with h | h
      · omega
      · rw [← h] at hz2; simp [foldS] at hz2
    have law : updV (65535 - addS 0 bs) (256 * bs[I]?.getD 0 + bs[I + 1]?.getD 0) v = 65535 - addS 0 ((((bs.set I 0).set (I + 1) 0).set I (v / 256)).set (I + 1) (v % 256)) := by
      rw [← hu.1]
      unfold addS
      rw [e0, ws2]
      have q := fold_update (W := words bs) (f := 256 * bs[I]?.getD 0 + bs[I + 1]?.getD 0) (v := v) wpos (by omega) v1
      rcases q with q | q
      · have r1 : foldS (0 + words bs) = foldS (words bs) := by rw [Int.zero_add]
        rw [r1, Int.zero_add, ← q]
        congr 2; omega
      · omega
    have lawE : updE (65535 - addS 0 bs) (256 * bs[I]?.getD 0 + bs[I + 1]?.getD 0) v = 0 := hu.2.symm
    have HLAW := Lib.hid law
    have HLE := Lib.hid lawE
    have HRD3 := Lib.hid hrd3
    have HG3 := Lib.hid hg3
    clear hw3 ho3 hu e0 ws1 ws2 wpos law lawE hrd3 hS hg3 cI cI1 fI fI1
    have hIl : I < len := by omega
    refine Sched.wp_region_sched 22 [] [] (by kernel_rfl) (by kernel_rfl) ?_
    simp only [List.take_succ_cons, List.take_zero, List.drop_succ_cons, List.drop_zero]
    repeat (first | (refine Sched.walk1_no rfl rfl (fun K hK => ?_); simp only [Act.put, List.setIfInBounds_toArray, List.set_cons_zero, List.set_cons_succ]; refine hK _ ?_; clear hK K) | (refine Sched.walk1_gr rfl rfl rfl (fun K hK => ?_); apply Exists.intro; refine ⟨fun w1 hw1 => ?_, ?_⟩; (focus (go_simp; (try go_ints); (try (simp only [IntWalk.iteOmega]; go_simp)); first | done | ((go_at_call 12; exact gr_same (sum_any _ _ _ bs _ (hr3 _ hw1) (by omega)))) | ((go_at_call 29; exact gr_same (update_any _ _ _ _))) | (with_reducible rfl) | (with_reducible exact ⟨rfl, rfl⟩))); simp only [Act.put, List.setIfInBounds_toArray, List.set_cons_zero, List.set_cons_succ]; refine hK _ ?_; clear hK K) | (refine Sched.walk1_pure rfl rfl rfl (fun K hK => ?_); apply Exists.intro; refine ⟨fun w1 => ?_, ?_⟩; (focus (go_simp; (try go_ints); (try (simp only [IntWalk.iteOmega]; go_simp)); first | done | (with_reducible rfl) | (with_reducible exact ⟨rfl, rfl⟩))); simp only [Act.put, List.setIfInBounds_toArray, List.set_cons_zero, List.set_cons_succ]; refine hK _ ?_; clear hK K) | (refine Sched.walk1_box rfl rfl ?_; apply Exists.intro; refine ⟨fun w1 hw1 => ?_, ?_⟩; (focus (go_simp; exact ⟨Gr.alloc _ _, rfl, by simp, heap_alloc_new _ _⟩))))
    refine Sched.walk1_nil ?_
    intro wq hwq
    rw [HLAW.out, HLE.out]
    dsimp only [Sched.EndN, List.nil_append, List.cons_append, Act.put]
    (try simp only [List.setIfInBounds_toArray, List.set_cons_zero, List.set_cons_succ])
    repeat (first | (refine Sched.walk2_no rfl (fun K hK => ?_); simp only [Act.put, List.setIfInBounds_toArray, List.set_cons_zero, List.set_cons_succ]; refine hK _ ?_; clear hK K) | (refine Sched.walk2_go rfl (fun K hK => ?_); go_simp; (try go_ints); (try (simp only [IntWalk.iteOmega]; go_simp)); first | (refine hK _ _ ?_; clear hK K) | fail))
    refine Sched.walk2_nil ?_
    have hrq := HRD3.out.kept hwq
    clear l0 l1 hr3 bI bI1
    obtain ⟨S, hS⟩ : ∃ S, addS 0 ((((bs.set I 0).set (I + 1) 0).set I (v / 256)).set (I + 1) (v % 256)) = S := ⟨_, rfl⟩
    have HS := Lib.hid hS
    rw [hS]
    have HGQ := Lib.hid hwq
    clear hwq hS
    go_wp2_with fail
    refine (awake4 _).mono ?_
    rintro e w4 ⟨rfl, hg4⟩
    have hrq4 := hrq.kept hg4
    have HG := Lib.hid hg4
    clear hg4 hrq
    go_wp2_with ((go_at_call 12; refine (sum_any _ _ _ _ _ hrq4 (by omega)).mono ?_; rintro e w' ⟨rfl, rfl⟩))
    rw [HS.out]
    go_ret
    exact ⟨by simp, HG3.out.trans (HGQ.out.trans HG.out)⟩

theorem updates_fit (a : Option Addr) (len cap : Nat) (bs : List Int) (p q : Int) (w : World) (hr : Rd .u8 w a len bs) (_hc : len ≤ cap) (hL : len ≤ 140737488351232) (_h0 : i64 p) (_h1 : i64 q) :
    Calls Try.prog 11 #[.slice a len cap, .int .i64 p, .int .i64 q] w fun e w' => e = .returned (.bool true) ∧ Below w.heap.size w w' := by
  by_cases h : len < 2
  · exact (upd_zero a len cap p q w h).mono fun _ _ ⟨he, hg⟩ => ⟨he, Below.of_none hg⟩
  · exact (upd_walk a len cap bs p q w hr hL (by omega)).mono fun _ _ ⟨he, hg⟩ => ⟨he, Below.of_none hg⟩
end Go.Proofs.Ytajbenpekphllaa
