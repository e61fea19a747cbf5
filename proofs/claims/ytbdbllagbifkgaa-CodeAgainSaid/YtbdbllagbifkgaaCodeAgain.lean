/- The law CodeAgain: its walk. -/
import Derived.Test.YtbdbllagbifkgaaCodeShorter
import Derived.Test.YtbdbllagbifkgaaCodeCorr
import Derived.Test.YtbdbllagbifkgaaLinPlain
import Derived.Test.YtbdbllagbifkgaaNews
import Derived.Deep.Cut
namespace Go.Proofs.Ytbdbllagbifkgaa
open Go.ChangeShapes Go.WideShapes Go.ChangeAt Go.RowKit
open Cod

/-- Soft bits with the right signs. -/
def Okk (L C : List Int) : Prop := L.length = C.length ∧ (∀ p ∈ List.zip L C, 1 ≤ p.1 * (1 - 2 * p.2)) ∧ softOk L
theorem Okk.nil : Okk [] [] := ⟨rfl, by simp, by intro x hx; simp at hx⟩
theorem Okk.snoc {L C : List Int} {y x : Int} (h : Okk L C) (h1 : 1 ≤ y * (1 - 2 * x)) (h2 : -127 ≤ y ∧ y ≤ 127) : Okk (L ++ [y]) (C ++ [x]) := by
  obtain ⟨a, b, c⟩ := h
  refine ⟨by simp [a], fun p hp => ?_, fun z hz => ?_⟩
  · rw [List.zip_append a] at hp
    rcases List.mem_append.1 hp with hp | hp
    · exact b p hp
    · simp at hp; subst hp; exact h1
  · rcases List.mem_append.1 hz with hz | hz
    · exact c z hz
    · simp at hz; subst hz; exact h2
def AgainRel (w2 : World) (C : List Int) (N : Nat) (s t i : Value) (wr : World) : Prop :=
  ∃ (a1 : Option Addr) (c1 : Nat) (a2 : Option Addr) (c2 j : Nat) (S T' : List Int), j ≤ N ∧ s = .slice a1 j c1 ∧ t = .slice a2 j c2 ∧ i = .int .i64 j ∧ OwnI w2.heap.size 3 .i64 wr a1 j c1 S ∧ OwnI w2.heap.size 3 .i64 wr a2 j c2 T' ∧ Okk S (C.take j) ∧ Okk T' (C.take j) ∧ Apart (.slice a1 j c1) (.slice a2 j c2) ∧ Gr w2 wr
theorem own_lt {B : Nat} {e : TypeId} {k : IntKind} {w : World} {a : Option Addr} {n cap : Nat} {xs : List Int} (h : OwnI B e k w a n cap xs) : ∀ g, (Value.slice a n cap).ownBlock = some g → g < w.heap.size := fun g hg => (h.below g hg).2
theorem rd_one28 {w : World} (x : Int) (e : TypeId) (fz : Nat × Nat) (h : i64 x) : Rd .i64 (w.alloc (.cells #[.int .i64 x] e fz)) (some ⟨w.heap.size, 0, none⟩) 1 [x] :=
  rd_new [x] e fz 1 rfl (by simp [maxLen]) (by intro y hy; simp at hy; subst hy; exact WalkArith.wf_i64 h)
set_option maxRecDepth 100000 in
set_option maxHeartbeats 2000000 in
theorem again_walk (a : Option Addr) (len cap : Nat) (bs : List Bool) (as1 : Option Addr) (ls cs : Nat) (zs : List Int) (at1 : Option Addr) (lt ct : Nat) (ys : List Int) (w : World) (hr : RdB w a len bs) (hs : Rd .u8 w as1 ls zs) (ht : Rd .u8 w at1 lt ys) (h1 : 1 ≤ len) (h2 : len ≤ 100) :
    Calls Try.prog 7 #[.slice a len cap, .slice as1 ls cs, .slice at1 lt ct] w fun e w' => e = .returned (.bool true) ∧ Gr w w' := by
  have hls : ls ≤ 9223372036854775807 := by have := hs.2.2.1; simp only [maxLen] at this; omega
  have hlt0 : lt ≤ 9223372036854775807 := by have := ht.2.2.1; simp only [maxLen] at this; omega
  have HR := Lib.hid hr
  have HL := Lib.hid hr.1
  have HS := Lib.hid hs
  have HT := Lib.hid ht
  clear hr hs ht
  go_enter Try.func7, Try.ntmps7
  go_wp2_with fail
  refine (bits28 a len cap bs w HR.out (by omega)).mono ?_
  rintro e w1 ⟨g1, rfl, ho1, hg1⟩
  have HG1 := Lib.hid hg1
  have HO1 := Lib.hid ho1
  clear hg1 ho1
  go_wp2_with fail
  refine (encode_yes _ len len (bs.map bi) w1 HO1.out.rd (bi_bits bs) (by omega) (by omega)).mono ?_
  rintro e w2 ⟨a2, c2, rfl, ho2, hg2⟩
  obtain ⟨C, hC⟩ : ∃ C, enc (bs.map bi) = C := ⟨_, rfl⟩
  have hrd2 := ho2.rd
  rw [hC] at hrd2
  have hcb : isBits C := by rw [← hC]; exact encS_bits _ _
  obtain ⟨b2, o2, rfl, -, hc2⟩ := hrd2.some (by omega)
  have HC2 := Lib.hid hc2
  have HCL := Lib.hid hrd2.1
  have HC := Lib.hid hC
  have HCB := Lib.hid hcb
  have HG2 := Lib.hid (HG1.out.trans hg2)
  have HB2 := Lib.hid (HO1.out.rd.kept hg2)
  clear ho2 hg2 hC hcb hrd2 hc2 HO1 HG1
  go_wp2_with fail
  go_loopw [10, 11, 12, 13, 14] (fun s t i _ _ wr => AgainRel w2 C (2 * (len + 2)) s t i wr) (fun _ _ i _ _ _ => 2 * (len + 2) - (intOf i).toNat)
  case atStart => exact ⟨none, 0, none, 0, 0, [], [], by omega, rfl, rfl, rfl, OwnI.nil _ _ _ _, OwnI.nil _ _ _ _, Okk.nil, Okk.nil, Apart.nil _ _, Gr.refl _⟩
  case round =>
    obtain ⟨a1, c1, a2, c2, j, S, T', hj, rfl, rfl, rfl, ho1, ho2, hk1, hk2, hap, hg⟩ := hrel
    have HO1 := Lib.hid ho1
    have HO2 := Lib.hid ho2
    have HK1 := Lib.hid hk1
    have HK2 := Lib.hid hk2
    have HAP := Lib.hid hap
    have HG := Lib.hid hg
    clear ho1 ho2 hk1 hk2 hap hg
    by_cases hlt : j < 2 * (len + 2)
    · have ck := HG.out.cell (HC2.out j hlt)
      have hxb := HCB.out (C[j]?.getD 0) (by have := HCL.out; simp [show j < C.length by omega])
      obtain ⟨x, hxx⟩ : ∃ x, C[j]?.getD 0 = x := ⟨_, rfl⟩
      rw [hxx] at ck hxb
      have HXX := Lib.hid hxx
      clear hxx
      -- the two sizes
      have key : ∀ (al : Option Addr) (ll cl : Nat) (us : List Int), Rd .u8 w al ll us → j < ll → ∃ b o z, al = some ⟨b, o, none⟩ ∧ wr.cell? ⟨b, o + j, none⟩ = some (.int .u8 z) ∧ 0 ≤ z ∧ z ≤ 255 := by
        intro al ll cl us hu hjl
        obtain ⟨b, o, e, -, hc⟩ := hu.some (by omega)
        have hz := bounds_u8 (hu.2.1 (us[j]?.getD 0) (by have := hu.1; rw [List.getElem?_eq_getElem (by omega)]; exact List.getElem_mem _))
        exact ⟨b, o, _, e, (HG2.out.trans HG.out).cell (hc j hjl), hz.1, hz.2⟩
      have KEY := Lib.hid key
      clear key
      by_cases hjs : j < ls
      · obtain ⟨bs1, os1, z, rfl, cz, z1, z2⟩ := KEY.out as1 ls cs zs HS.out hjs
        obtain ⟨g, hgz⟩ : ∃ g, 1 + z % 63 = g := ⟨_, rfl⟩
        have g1 : 1 ≤ g := by omega
        have g2 : g ≤ 63 := by omega
        by_cases hjt : j < lt
        · obtain ⟨bt1, ot1, y, rfl, cy, y1, y2⟩ := KEY.out at1 lt ct ys HT.out hjt
          obtain ⟨h, hhz⟩ : ∃ h, 1 + y % 63 = h := ⟨_, rfl⟩
          have h1' : 1 ≤ h := by omega
          have h2' : h ≤ 63 := by omega
          rcases hxb with rfl | rfl
          · go_upto_region 14 with (fail)
            clear cz cy hgz hhz z1 z2 y1 y2
            have htk := take_one C j (by rw [HCL.out]; exact hlt)
            rw [HXX.out] at htk
            have hrd1 := rd_one28 (w := wr) (g) 3 (0, 0) (by constructor <;> omega)
            obtain ⟨a5, c5, w5, hrun5, ho5, hg5, hf5⟩ := app_i64 w2.heap.size (wr.alloc (.cells #[.int .i64 (g)] 3)) a1 j c1 _ (HO1.out.stay (World.grownBy_alloc _ _ _)) (some ⟨wr.heap.size, 0, none⟩) 1 1 _ hrd1 (by omega) (by have := HG.out.size; simp; omega)
            have hg15 : Gr w2 w5 := grown_own (grownBy_alloc HG.out _) (HO1.out.stay (World.grownBy_alloc _ _ _)) (Nat.le_refl _) hg5
            have ho25 := (HO2.out.stay (World.grownBy_alloc wr (.cells #[.int .i64 (g)] 3) none)).kept hg5 HAP.out.symm.ne
            have hap5 := HAP.out.symm.grow hf5 (own_lt (HO2.out.stay (World.grownBy_alloc wr (.cells #[.int .i64 (g)] 3) none)))
            have hok1 := HK1.out.snoc (y := g) (x := 0) (by omega) (by omega)
            have hok2 := HK2.out.snoc (y := g + h) (x := 0) (by omega) (by omega)
            rw [← htk] at hok1 hok2
            have HR5 := Lib.hid hrun5
            have HO5 := Lib.hid ho5
            have HO25 := Lib.hid ho25
            have HAP5 := Lib.hid hap5
            have HG5 := Lib.hid hg15
            have HOK1 := Lib.hid hok1
            have HOK2 := Lib.hid hok2
            have hcell5 : ∀ u, Gr w5 u → u.cell? ⟨b2, o2 + j, none⟩ = some (.int .i64 0) := fun u h => by rw [← HXX.out]; exact (hg15.trans h).cell (HC2.out j hlt)
            have HCE := Lib.hid hcell5
            clear hrun5 ho5 hg5 hf5 hrd1 htk hg15 ho25 hap5 hok1 hok2 hcell5
            go_wp2_with (at_builtin; refine wpList_app rfl _ _ _ rfl rfl rfl HR5.out ?_)
            clear ck
            have q5 := HCE.out
            refine Sched.wp_region_sched 21 [] [20] (by kernel_rfl) (by kernel_rfl) ?_
            simp only [List.take_succ_cons, List.take_zero, List.drop_succ_cons, List.drop_zero]
            repeat (first | (refine Sched.walk1_no rfl rfl (fun K hK => ?_); simp only [Act.put, List.setIfInBounds_toArray, List.set_cons_zero, List.set_cons_succ]; refine hK _ ?_; clear hK K) | (refine Sched.walk1_gr rfl rfl rfl (fun K hK => ?_); apply Exists.intro; refine ⟨fun w1 hw1 => ?_, ?_⟩; (focus (go_simp; (try go_ints); (try (simp only [IntWalk.iteOmega]; go_simp)); first | done | fail | (with_reducible rfl) | (with_reducible exact ⟨rfl, rfl⟩))); simp only [Act.put, List.setIfInBounds_toArray, List.set_cons_zero, List.set_cons_succ]; refine hK _ ?_; clear hK K) | (refine Sched.walk1_pure rfl rfl rfl (fun K hK => ?_); apply Exists.intro; refine ⟨fun w1 => ?_, ?_⟩; (focus (go_simp; (try go_ints); (try (simp only [IntWalk.iteOmega]; go_simp)); first | done | (with_reducible rfl) | (with_reducible exact ⟨rfl, rfl⟩))); simp only [Act.put, List.setIfInBounds_toArray, List.set_cons_zero, List.set_cons_succ]; refine hK _ ?_; clear hK K) | (refine Sched.walk1_box rfl rfl ?_; apply Exists.intro; refine ⟨fun w1 hw1 => ?_, ?_⟩; (focus (go_simp; exact ⟨Gr.alloc _ _, rfl, by simp, heap_alloc_new _ _⟩))))
            refine Sched.walk1_new (NOne .i64 3 (g + h)) rfl rfl (NRow1.stable _ _) (fun u hu => ?_) ?_
            · go_simp
              exact ⟨Gr.alloc _ _, rfl, by simp, heap_alloc_new _ _⟩
            refine Sched.walk1_nil ?_
            intro wq hwq
            dsimp only [Sched.EndN]
            rintro lo hi v hnew hlo - - -
            obtain ⟨rfl, hrd⟩ := hnew.rd (WalkArith.wf_i64 (by constructor <;> omega))
            obtain ⟨a6, c6, w6, hrun6, ho6, hg6, hf6⟩ := app_i64 w2.heap.size wq a2 j c2 _ (HO25.out.stay hwq) _ 1 1 _ hrd (by omega) (Nat.le_trans HG5.out.size hwq.size)
            have HG6 := Lib.hid (grown_own (HG5.out.trans hwq) (HO25.out.stay hwq) (Nat.le_refl _) hg6)
            have HO16 := Lib.hid ((HO5.out.stay hwq).kept hg6 HAP5.out.symm.ne)
            have HAP6 := Lib.hid (HAP5.out.symm.grow hf6 (own_lt (HO5.out.stay hwq)))
            have HO6 := Lib.hid ho6
            dsimp only [Sched.EndN, List.nil_append, List.cons_append, Act.put]
            (try simp only [List.setIfInBounds_toArray, List.set_cons_zero, List.set_cons_succ])
            refine Sched.walk2_app rfl _ _ _ rfl rfl rfl hrun6 ?_
            clear hrun6 hnew hrd ho6 hg6 hf6 hwq q5
            dsimp only [Sched.EndN, List.nil_append, List.cons_append, Act.put]
            (try simp only [List.setIfInBounds_toArray, List.set_cons_zero, List.set_cons_succ])
            repeat (first | (refine Sched.walk2_no rfl (fun K hK => ?_); simp only [Act.put, List.setIfInBounds_toArray, List.set_cons_zero, List.set_cons_succ]; refine hK _ ?_; clear hK K) | (refine Sched.walk2_go rfl (fun K hK => ?_); go_simp; (try go_ints); (try (simp only [IntWalk.iteOmega]; go_simp)); first | (refine hK _ _ ?_; clear hK K) | fail))
            refine Sched.walk2_nil ?_
            go_wp2_with fail
            go_roundw
            case rel => exact ⟨a5, c5, a6, c6, j + 1, _, _, by omega, rfl, rfl, rfl, HO16.out, HO6.out, HOK1.out, HOK2.out, HAP6.out, HG6.out⟩
            case measure => (simp [intOf] <;> omega)
          · go_upto_region 14 with (fail)
            clear cz cy hgz hhz z1 z2 y1 y2
            have htk := take_one C j (by rw [HCL.out]; exact hlt)
            rw [HXX.out] at htk
            have hrd1 := rd_one28 (w := wr) (g - 2 * g) 3 (0, 0) (by constructor <;> omega)
            obtain ⟨a5, c5, w5, hrun5, ho5, hg5, hf5⟩ := app_i64 w2.heap.size (wr.alloc (.cells #[.int .i64 (g - 2 * g)] 3)) a1 j c1 _ (HO1.out.stay (World.grownBy_alloc _ _ _)) (some ⟨wr.heap.size, 0, none⟩) 1 1 _ hrd1 (by omega) (by have := HG.out.size; simp; omega)
            have hg15 : Gr w2 w5 := grown_own (grownBy_alloc HG.out _) (HO1.out.stay (World.grownBy_alloc _ _ _)) (Nat.le_refl _) hg5
            have ho25 := (HO2.out.stay (World.grownBy_alloc wr (.cells #[.int .i64 (g - 2 * g)] 3) none)).kept hg5 HAP.out.symm.ne
            have hap5 := HAP.out.symm.grow hf5 (own_lt (HO2.out.stay (World.grownBy_alloc wr (.cells #[.int .i64 (g - 2 * g)] 3) none)))
            have hok1 := HK1.out.snoc (y := g - 2 * g) (x := 1) (by omega) (by omega)
            have hok2 := HK2.out.snoc (y := g - 2 * g + h - 2 * h) (x := 1) (by omega) (by omega)
            rw [← htk] at hok1 hok2
            have HR5 := Lib.hid hrun5
            have HO5 := Lib.hid ho5
            have HO25 := Lib.hid ho25
            have HAP5 := Lib.hid hap5
            have HG5 := Lib.hid hg15
            have HOK1 := Lib.hid hok1
            have HOK2 := Lib.hid hok2
            have hcell5 : ∀ u, Gr w5 u → u.cell? ⟨b2, o2 + j, none⟩ = some (.int .i64 1) := fun u h => by rw [← HXX.out]; exact (hg15.trans h).cell (HC2.out j hlt)
            have HCE := Lib.hid hcell5
            clear hrun5 ho5 hg5 hf5 hrd1 htk hg15 ho25 hap5 hok1 hok2 hcell5
            go_wp2_with (at_builtin; refine wpList_app rfl _ _ _ rfl rfl rfl HR5.out ?_)
            clear ck
            have q5 := HCE.out
            refine Sched.wp_region_sched 21 [] [20] (by kernel_rfl) (by kernel_rfl) ?_
            simp only [List.take_succ_cons, List.take_zero, List.drop_succ_cons, List.drop_zero]
            repeat (first | (refine Sched.walk1_no rfl rfl (fun K hK => ?_); simp only [Act.put, List.setIfInBounds_toArray, List.set_cons_zero, List.set_cons_succ]; refine hK _ ?_; clear hK K) | (refine Sched.walk1_gr rfl rfl rfl (fun K hK => ?_); apply Exists.intro; refine ⟨fun w1 hw1 => ?_, ?_⟩; (focus (go_simp; (try go_ints); (try (simp only [IntWalk.iteOmega]; go_simp)); first | done | fail | (with_reducible rfl) | (with_reducible exact ⟨rfl, rfl⟩))); simp only [Act.put, List.setIfInBounds_toArray, List.set_cons_zero, List.set_cons_succ]; refine hK _ ?_; clear hK K) | (refine Sched.walk1_pure rfl rfl rfl (fun K hK => ?_); apply Exists.intro; refine ⟨fun w1 => ?_, ?_⟩; (focus (go_simp; (try go_ints); (try (simp only [IntWalk.iteOmega]; go_simp)); first | done | (with_reducible rfl) | (with_reducible exact ⟨rfl, rfl⟩))); simp only [Act.put, List.setIfInBounds_toArray, List.set_cons_zero, List.set_cons_succ]; refine hK _ ?_; clear hK K) | (refine Sched.walk1_box rfl rfl ?_; apply Exists.intro; refine ⟨fun w1 hw1 => ?_, ?_⟩; (focus (go_simp; exact ⟨Gr.alloc _ _, rfl, by simp, heap_alloc_new _ _⟩))))
            refine Sched.walk1_new (NOne .i64 3 (g - 2 * g + h - 2 * h)) rfl rfl (NRow1.stable _ _) (fun u hu => ?_) ?_
            · go_simp
              exact ⟨Gr.alloc _ _, rfl, by simp, heap_alloc_new _ _⟩
            refine Sched.walk1_nil ?_
            intro wq hwq
            dsimp only [Sched.EndN]
            rintro lo hi v hnew hlo - - -
            obtain ⟨rfl, hrd⟩ := hnew.rd (WalkArith.wf_i64 (by constructor <;> omega))
            obtain ⟨a6, c6, w6, hrun6, ho6, hg6, hf6⟩ := app_i64 w2.heap.size wq a2 j c2 _ (HO25.out.stay hwq) _ 1 1 _ hrd (by omega) (Nat.le_trans HG5.out.size hwq.size)
            have HG6 := Lib.hid (grown_own (HG5.out.trans hwq) (HO25.out.stay hwq) (Nat.le_refl _) hg6)
            have HO16 := Lib.hid ((HO5.out.stay hwq).kept hg6 HAP5.out.symm.ne)
            have HAP6 := Lib.hid (HAP5.out.symm.grow hf6 (own_lt (HO5.out.stay hwq)))
            have HO6 := Lib.hid ho6
            dsimp only [Sched.EndN, List.nil_append, List.cons_append, Act.put]
            (try simp only [List.setIfInBounds_toArray, List.set_cons_zero, List.set_cons_succ])
            refine Sched.walk2_app rfl _ _ _ rfl rfl rfl hrun6 ?_
            clear hrun6 hnew hrd ho6 hg6 hf6 hwq q5
            dsimp only [Sched.EndN, List.nil_append, List.cons_append, Act.put]
            (try simp only [List.setIfInBounds_toArray, List.set_cons_zero, List.set_cons_succ])
            repeat (first | (refine Sched.walk2_no rfl (fun K hK => ?_); simp only [Act.put, List.setIfInBounds_toArray, List.set_cons_zero, List.set_cons_succ]; refine hK _ ?_; clear hK K) | (refine Sched.walk2_go rfl (fun K hK => ?_); go_simp; (try go_ints); (try (simp only [IntWalk.iteOmega]; go_simp)); first | (refine hK _ _ ?_; clear hK K) | fail))
            refine Sched.walk2_nil ?_
            go_wp2_with fail
            go_roundw
            case rel => exact ⟨a5, c5, a6, c6, j + 1, _, _, by omega, rfl, rfl, rfl, HO16.out, HO6.out, HOK1.out, HOK2.out, HAP6.out, HG6.out⟩
            case measure => (simp [intOf] <;> omega)
        · rcases hxb with rfl | rfl
          · go_upto_region 14 with (fail)
            clear cz hgz z1 z2
            have htk := take_one C j (by rw [HCL.out]; exact hlt)
            rw [HXX.out] at htk
            have hrd1 := rd_one28 (w := wr) (g) 3 (0, 0) (by constructor <;> omega)
            obtain ⟨a5, c5, w5, hrun5, ho5, hg5, hf5⟩ := app_i64 w2.heap.size (wr.alloc (.cells #[.int .i64 (g)] 3)) a1 j c1 _ (HO1.out.stay (World.grownBy_alloc _ _ _)) (some ⟨wr.heap.size, 0, none⟩) 1 1 _ hrd1 (by omega) (by have := HG.out.size; simp; omega)
            have hg15 : Gr w2 w5 := grown_own (grownBy_alloc HG.out _) (HO1.out.stay (World.grownBy_alloc _ _ _)) (Nat.le_refl _) hg5
            have ho25 := (HO2.out.stay (World.grownBy_alloc wr (.cells #[.int .i64 (g)] 3) none)).kept hg5 HAP.out.symm.ne
            have hap5 := HAP.out.symm.grow hf5 (own_lt (HO2.out.stay (World.grownBy_alloc wr (.cells #[.int .i64 (g)] 3) none)))
            have hok1 := HK1.out.snoc (y := g) (x := 0) (by omega) (by omega)
            have hok2 := HK2.out.snoc (y := g + 1) (x := 0) (by omega) (by omega)
            rw [← htk] at hok1 hok2
            have HR5 := Lib.hid hrun5
            have HO5 := Lib.hid ho5
            have HO25 := Lib.hid ho25
            have HAP5 := Lib.hid hap5
            have HG5 := Lib.hid hg15
            have HOK1 := Lib.hid hok1
            have HOK2 := Lib.hid hok2
            have hcell5 : ∀ u, Gr w5 u → u.cell? ⟨b2, o2 + j, none⟩ = some (.int .i64 0) := fun u h => by rw [← HXX.out]; exact (hg15.trans h).cell (HC2.out j hlt)
            have HCE := Lib.hid hcell5
            clear hrun5 ho5 hg5 hf5 hrd1 htk hg15 ho25 hap5 hok1 hok2 hcell5
            go_wp2_with (at_builtin; refine wpList_app rfl _ _ _ rfl rfl rfl HR5.out ?_)
            clear ck
            have q5 := HCE.out
            refine Sched.wp_region_sched 21 [] [20] (by kernel_rfl) (by kernel_rfl) ?_
            simp only [List.take_succ_cons, List.take_zero, List.drop_succ_cons, List.drop_zero]
            repeat (first | (refine Sched.walk1_no rfl rfl (fun K hK => ?_); simp only [Act.put, List.setIfInBounds_toArray, List.set_cons_zero, List.set_cons_succ]; refine hK _ ?_; clear hK K) | (refine Sched.walk1_gr rfl rfl rfl (fun K hK => ?_); apply Exists.intro; refine ⟨fun w1 hw1 => ?_, ?_⟩; (focus (go_simp; (try go_ints); (try (simp only [IntWalk.iteOmega]; go_simp)); first | done | fail | (with_reducible rfl) | (with_reducible exact ⟨rfl, rfl⟩))); simp only [Act.put, List.setIfInBounds_toArray, List.set_cons_zero, List.set_cons_succ]; refine hK _ ?_; clear hK K) | (refine Sched.walk1_pure rfl rfl rfl (fun K hK => ?_); apply Exists.intro; refine ⟨fun w1 => ?_, ?_⟩; (focus (go_simp; (try go_ints); (try (simp only [IntWalk.iteOmega]; go_simp)); first | done | (with_reducible rfl) | (with_reducible exact ⟨rfl, rfl⟩))); simp only [Act.put, List.setIfInBounds_toArray, List.set_cons_zero, List.set_cons_succ]; refine hK _ ?_; clear hK K) | (refine Sched.walk1_box rfl rfl ?_; apply Exists.intro; refine ⟨fun w1 hw1 => ?_, ?_⟩; (focus (go_simp; exact ⟨Gr.alloc _ _, rfl, by simp, heap_alloc_new _ _⟩))))
            refine Sched.walk1_new (NOne .i64 3 (g + 1)) rfl rfl (NRow1.stable _ _) (fun u hu => ?_) ?_
            · go_simp
              exact ⟨Gr.alloc _ _, rfl, by simp, heap_alloc_new _ _⟩
            refine Sched.walk1_nil ?_
            intro wq hwq
            dsimp only [Sched.EndN]
            rintro lo hi v hnew hlo - - -
            obtain ⟨rfl, hrd⟩ := hnew.rd (WalkArith.wf_i64 (by constructor <;> omega))
            obtain ⟨a6, c6, w6, hrun6, ho6, hg6, hf6⟩ := app_i64 w2.heap.size wq a2 j c2 _ (HO25.out.stay hwq) _ 1 1 _ hrd (by omega) (Nat.le_trans HG5.out.size hwq.size)
            have HG6 := Lib.hid (grown_own (HG5.out.trans hwq) (HO25.out.stay hwq) (Nat.le_refl _) hg6)
            have HO16 := Lib.hid ((HO5.out.stay hwq).kept hg6 HAP5.out.symm.ne)
            have HAP6 := Lib.hid (HAP5.out.symm.grow hf6 (own_lt (HO5.out.stay hwq)))
            have HO6 := Lib.hid ho6
            dsimp only [Sched.EndN, List.nil_append, List.cons_append, Act.put]
            (try simp only [List.setIfInBounds_toArray, List.set_cons_zero, List.set_cons_succ])
            refine Sched.walk2_app rfl _ _ _ rfl rfl rfl hrun6 ?_
            clear hrun6 hnew hrd ho6 hg6 hf6 hwq q5
            dsimp only [Sched.EndN, List.nil_append, List.cons_append, Act.put]
            (try simp only [List.setIfInBounds_toArray, List.set_cons_zero, List.set_cons_succ])
            repeat (first | (refine Sched.walk2_no rfl (fun K hK => ?_); simp only [Act.put, List.setIfInBounds_toArray, List.set_cons_zero, List.set_cons_succ]; refine hK _ ?_; clear hK K) | (refine Sched.walk2_go rfl (fun K hK => ?_); go_simp; (try go_ints); (try (simp only [IntWalk.iteOmega]; go_simp)); first | (refine hK _ _ ?_; clear hK K) | fail))
            refine Sched.walk2_nil ?_
            go_wp2_with fail
            go_roundw
            case rel => exact ⟨a5, c5, a6, c6, j + 1, _, _, by omega, rfl, rfl, rfl, HO16.out, HO6.out, HOK1.out, HOK2.out, HAP6.out, HG6.out⟩
            case measure => (simp [intOf] <;> omega)
          · go_upto_region 14 with (fail)
            clear cz hgz z1 z2
            have htk := take_one C j (by rw [HCL.out]; exact hlt)
            rw [HXX.out] at htk
            have hrd1 := rd_one28 (w := wr) (g - 2 * g) 3 (0, 0) (by constructor <;> omega)
            obtain ⟨a5, c5, w5, hrun5, ho5, hg5, hf5⟩ := app_i64 w2.heap.size (wr.alloc (.cells #[.int .i64 (g - 2 * g)] 3)) a1 j c1 _ (HO1.out.stay (World.grownBy_alloc _ _ _)) (some ⟨wr.heap.size, 0, none⟩) 1 1 _ hrd1 (by omega) (by have := HG.out.size; simp; omega)
            have hg15 : Gr w2 w5 := grown_own (grownBy_alloc HG.out _) (HO1.out.stay (World.grownBy_alloc _ _ _)) (Nat.le_refl _) hg5
            have ho25 := (HO2.out.stay (World.grownBy_alloc wr (.cells #[.int .i64 (g - 2 * g)] 3) none)).kept hg5 HAP.out.symm.ne
            have hap5 := HAP.out.symm.grow hf5 (own_lt (HO2.out.stay (World.grownBy_alloc wr (.cells #[.int .i64 (g - 2 * g)] 3) none)))
            have hok1 := HK1.out.snoc (y := g - 2 * g) (x := 1) (by omega) (by omega)
            have hok2 := HK2.out.snoc (y := g - 2 * g + 1 - 2) (x := 1) (by omega) (by omega)
            rw [← htk] at hok1 hok2
            have HR5 := Lib.hid hrun5
            have HO5 := Lib.hid ho5
            have HO25 := Lib.hid ho25
            have HAP5 := Lib.hid hap5
            have HG5 := Lib.hid hg15
            have HOK1 := Lib.hid hok1
            have HOK2 := Lib.hid hok2
            have hcell5 : ∀ u, Gr w5 u → u.cell? ⟨b2, o2 + j, none⟩ = some (.int .i64 1) := fun u h => by rw [← HXX.out]; exact (hg15.trans h).cell (HC2.out j hlt)
            have HCE := Lib.hid hcell5
            clear hrun5 ho5 hg5 hf5 hrd1 htk hg15 ho25 hap5 hok1 hok2 hcell5
            go_wp2_with (at_builtin; refine wpList_app rfl _ _ _ rfl rfl rfl HR5.out ?_)
            clear ck
            have q5 := HCE.out
            refine Sched.wp_region_sched 21 [] [20] (by kernel_rfl) (by kernel_rfl) ?_
            simp only [List.take_succ_cons, List.take_zero, List.drop_succ_cons, List.drop_zero]
            repeat (first | (refine Sched.walk1_no rfl rfl (fun K hK => ?_); simp only [Act.put, List.setIfInBounds_toArray, List.set_cons_zero, List.set_cons_succ]; refine hK _ ?_; clear hK K) | (refine Sched.walk1_gr rfl rfl rfl (fun K hK => ?_); apply Exists.intro; refine ⟨fun w1 hw1 => ?_, ?_⟩; (focus (go_simp; (try go_ints); (try (simp only [IntWalk.iteOmega]; go_simp)); first | done | fail | (with_reducible rfl) | (with_reducible exact ⟨rfl, rfl⟩))); simp only [Act.put, List.setIfInBounds_toArray, List.set_cons_zero, List.set_cons_succ]; refine hK _ ?_; clear hK K) | (refine Sched.walk1_pure rfl rfl rfl (fun K hK => ?_); apply Exists.intro; refine ⟨fun w1 => ?_, ?_⟩; (focus (go_simp; (try go_ints); (try (simp only [IntWalk.iteOmega]; go_simp)); first | done | (with_reducible rfl) | (with_reducible exact ⟨rfl, rfl⟩))); simp only [Act.put, List.setIfInBounds_toArray, List.set_cons_zero, List.set_cons_succ]; refine hK _ ?_; clear hK K) | (refine Sched.walk1_box rfl rfl ?_; apply Exists.intro; refine ⟨fun w1 hw1 => ?_, ?_⟩; (focus (go_simp; exact ⟨Gr.alloc _ _, rfl, by simp, heap_alloc_new _ _⟩))))
            refine Sched.walk1_new (NOne .i64 3 (g - 2 * g + 1 - 2)) rfl rfl (NRow1.stable _ _) (fun u hu => ?_) ?_
            · go_simp
              exact ⟨Gr.alloc _ _, rfl, by simp, heap_alloc_new _ _⟩
            refine Sched.walk1_nil ?_
            intro wq hwq
            dsimp only [Sched.EndN]
            rintro lo hi v hnew hlo - - -
            obtain ⟨rfl, hrd⟩ := hnew.rd (WalkArith.wf_i64 (by constructor <;> omega))
            obtain ⟨a6, c6, w6, hrun6, ho6, hg6, hf6⟩ := app_i64 w2.heap.size wq a2 j c2 _ (HO25.out.stay hwq) _ 1 1 _ hrd (by omega) (Nat.le_trans HG5.out.size hwq.size)
            have HG6 := Lib.hid (grown_own (HG5.out.trans hwq) (HO25.out.stay hwq) (Nat.le_refl _) hg6)
            have HO16 := Lib.hid ((HO5.out.stay hwq).kept hg6 HAP5.out.symm.ne)
            have HAP6 := Lib.hid (HAP5.out.symm.grow hf6 (own_lt (HO5.out.stay hwq)))
            have HO6 := Lib.hid ho6
            dsimp only [Sched.EndN, List.nil_append, List.cons_append, Act.put]
            (try simp only [List.setIfInBounds_toArray, List.set_cons_zero, List.set_cons_succ])
            refine Sched.walk2_app rfl _ _ _ rfl rfl rfl hrun6 ?_
            clear hrun6 hnew hrd ho6 hg6 hf6 hwq q5
            dsimp only [Sched.EndN, List.nil_append, List.cons_append, Act.put]
            (try simp only [List.setIfInBounds_toArray, List.set_cons_zero, List.set_cons_succ])
            repeat (first | (refine Sched.walk2_no rfl (fun K hK => ?_); simp only [Act.put, List.setIfInBounds_toArray, List.set_cons_zero, List.set_cons_succ]; refine hK _ ?_; clear hK K) | (refine Sched.walk2_go rfl (fun K hK => ?_); go_simp; (try go_ints); (try (simp only [IntWalk.iteOmega]; go_simp)); first | (refine hK _ _ ?_; clear hK K) | fail))
            refine Sched.walk2_nil ?_
            go_wp2_with fail
            go_roundw
            case rel => exact ⟨a5, c5, a6, c6, j + 1, _, _, by omega, rfl, rfl, rfl, HO16.out, HO6.out, HOK1.out, HOK2.out, HAP6.out, HG6.out⟩
            case measure => (simp [intOf] <;> omega)
      · by_cases hjt : j < lt
        · obtain ⟨bt1, ot1, y, rfl, cy, y1, y2⟩ := KEY.out at1 lt ct ys HT.out hjt
          obtain ⟨h, hhz⟩ : ∃ h, 1 + y % 63 = h := ⟨_, rfl⟩
          have h1' : 1 ≤ h := by omega
          have h2' : h ≤ 63 := by omega
          rcases hxb with rfl | rfl
          · go_upto_region 14 with (fail)
            clear cy hhz y1 y2
            have htk := take_one C j (by rw [HCL.out]; exact hlt)
            rw [HXX.out] at htk
            have hrd1 := rd_one28 (w := wr) (1) 3 (0, 0) (by constructor <;> omega)
            obtain ⟨a5, c5, w5, hrun5, ho5, hg5, hf5⟩ := app_i64 w2.heap.size (wr.alloc (.cells #[.int .i64 (1)] 3)) a1 j c1 _ (HO1.out.stay (World.grownBy_alloc _ _ _)) (some ⟨wr.heap.size, 0, none⟩) 1 1 _ hrd1 (by omega) (by have := HG.out.size; simp; omega)
            have hg15 : Gr w2 w5 := grown_own (grownBy_alloc HG.out _) (HO1.out.stay (World.grownBy_alloc _ _ _)) (Nat.le_refl _) hg5
            have ho25 := (HO2.out.stay (World.grownBy_alloc wr (.cells #[.int .i64 (1)] 3) none)).kept hg5 HAP.out.symm.ne
            have hap5 := HAP.out.symm.grow hf5 (own_lt (HO2.out.stay (World.grownBy_alloc wr (.cells #[.int .i64 (1)] 3) none)))
            have hok1 := HK1.out.snoc (y := 1) (x := 0) (by omega) (by omega)
            have hok2 := HK2.out.snoc (y := 1 + h) (x := 0) (by omega) (by omega)
            rw [← htk] at hok1 hok2
            have HR5 := Lib.hid hrun5
            have HO5 := Lib.hid ho5
            have HO25 := Lib.hid ho25
            have HAP5 := Lib.hid hap5
            have HG5 := Lib.hid hg15
            have HOK1 := Lib.hid hok1
            have HOK2 := Lib.hid hok2
            have hcell5 : ∀ u, Gr w5 u → u.cell? ⟨b2, o2 + j, none⟩ = some (.int .i64 0) := fun u h => by rw [← HXX.out]; exact (hg15.trans h).cell (HC2.out j hlt)
            have HCE := Lib.hid hcell5
            clear hrun5 ho5 hg5 hf5 hrd1 htk hg15 ho25 hap5 hok1 hok2 hcell5
            go_wp2_with (at_builtin; refine wpList_app rfl _ _ _ rfl rfl rfl HR5.out ?_)
            clear ck
            have q5 := HCE.out
            refine Sched.wp_region_sched 21 [] [20] (by kernel_rfl) (by kernel_rfl) ?_
            simp only [List.take_succ_cons, List.take_zero, List.drop_succ_cons, List.drop_zero]
            repeat (first | (refine Sched.walk1_no rfl rfl (fun K hK => ?_); simp only [Act.put, List.setIfInBounds_toArray, List.set_cons_zero, List.set_cons_succ]; refine hK _ ?_; clear hK K) | (refine Sched.walk1_gr rfl rfl rfl (fun K hK => ?_); apply Exists.intro; refine ⟨fun w1 hw1 => ?_, ?_⟩; (focus (go_simp; (try go_ints); (try (simp only [IntWalk.iteOmega]; go_simp)); first | done | fail | (with_reducible rfl) | (with_reducible exact ⟨rfl, rfl⟩))); simp only [Act.put, List.setIfInBounds_toArray, List.set_cons_zero, List.set_cons_succ]; refine hK _ ?_; clear hK K) | (refine Sched.walk1_pure rfl rfl rfl (fun K hK => ?_); apply Exists.intro; refine ⟨fun w1 => ?_, ?_⟩; (focus (go_simp; (try go_ints); (try (simp only [IntWalk.iteOmega]; go_simp)); first | done | (with_reducible rfl) | (with_reducible exact ⟨rfl, rfl⟩))); simp only [Act.put, List.setIfInBounds_toArray, List.set_cons_zero, List.set_cons_succ]; refine hK _ ?_; clear hK K) | (refine Sched.walk1_box rfl rfl ?_; apply Exists.intro; refine ⟨fun w1 hw1 => ?_, ?_⟩; (focus (go_simp; exact ⟨Gr.alloc _ _, rfl, by simp, heap_alloc_new _ _⟩))))
            refine Sched.walk1_new (NOne .i64 3 (1 + h)) rfl rfl (NRow1.stable _ _) (fun u hu => ?_) ?_
            · go_simp
              exact ⟨Gr.alloc _ _, rfl, by simp, heap_alloc_new _ _⟩
            refine Sched.walk1_nil ?_
            intro wq hwq
            dsimp only [Sched.EndN]
            rintro lo hi v hnew hlo - - -
            obtain ⟨rfl, hrd⟩ := hnew.rd (WalkArith.wf_i64 (by constructor <;> omega))
            obtain ⟨a6, c6, w6, hrun6, ho6, hg6, hf6⟩ := app_i64 w2.heap.size wq a2 j c2 _ (HO25.out.stay hwq) _ 1 1 _ hrd (by omega) (Nat.le_trans HG5.out.size hwq.size)
            have HG6 := Lib.hid (grown_own (HG5.out.trans hwq) (HO25.out.stay hwq) (Nat.le_refl _) hg6)
            have HO16 := Lib.hid ((HO5.out.stay hwq).kept hg6 HAP5.out.symm.ne)
            have HAP6 := Lib.hid (HAP5.out.symm.grow hf6 (own_lt (HO5.out.stay hwq)))
            have HO6 := Lib.hid ho6
            dsimp only [Sched.EndN, List.nil_append, List.cons_append, Act.put]
            (try simp only [List.setIfInBounds_toArray, List.set_cons_zero, List.set_cons_succ])
            refine Sched.walk2_app rfl _ _ _ rfl rfl rfl hrun6 ?_
            clear hrun6 hnew hrd ho6 hg6 hf6 hwq q5
            dsimp only [Sched.EndN, List.nil_append, List.cons_append, Act.put]
            (try simp only [List.setIfInBounds_toArray, List.set_cons_zero, List.set_cons_succ])
            repeat (first | (refine Sched.walk2_no rfl (fun K hK => ?_); simp only [Act.put, List.setIfInBounds_toArray, List.set_cons_zero, List.set_cons_succ]; refine hK _ ?_; clear hK K) | (refine Sched.walk2_go rfl (fun K hK => ?_); go_simp; (try go_ints); (try (simp only [IntWalk.iteOmega]; go_simp)); first | (refine hK _ _ ?_; clear hK K) | fail))
            refine Sched.walk2_nil ?_
            go_wp2_with fail
            go_roundw
            case rel => exact ⟨a5, c5, a6, c6, j + 1, _, _, by omega, rfl, rfl, rfl, HO16.out, HO6.out, HOK1.out, HOK2.out, HAP6.out, HG6.out⟩
            case measure => (simp [intOf] <;> omega)
          · go_upto_region 14 with (fail)
            clear cy hhz y1 y2
            have htk := take_one C j (by rw [HCL.out]; exact hlt)
            rw [HXX.out] at htk
            have hrd1 := rd_one28 (w := wr) (-1) 3 (0, 0) (by constructor <;> omega)
            obtain ⟨a5, c5, w5, hrun5, ho5, hg5, hf5⟩ := app_i64 w2.heap.size (wr.alloc (.cells #[.int .i64 (-1)] 3)) a1 j c1 _ (HO1.out.stay (World.grownBy_alloc _ _ _)) (some ⟨wr.heap.size, 0, none⟩) 1 1 _ hrd1 (by omega) (by have := HG.out.size; simp; omega)
            have hg15 : Gr w2 w5 := grown_own (grownBy_alloc HG.out _) (HO1.out.stay (World.grownBy_alloc _ _ _)) (Nat.le_refl _) hg5
            have ho25 := (HO2.out.stay (World.grownBy_alloc wr (.cells #[.int .i64 (-1)] 3) none)).kept hg5 HAP.out.symm.ne
            have hap5 := HAP.out.symm.grow hf5 (own_lt (HO2.out.stay (World.grownBy_alloc wr (.cells #[.int .i64 (-1)] 3) none)))
            have hok1 := HK1.out.snoc (y := -1) (x := 1) (by omega) (by omega)
            have hok2 := HK2.out.snoc (y := -1 + h - 2 * h) (x := 1) (by omega) (by omega)
            rw [← htk] at hok1 hok2
            have HR5 := Lib.hid hrun5
            have HO5 := Lib.hid ho5
            have HO25 := Lib.hid ho25
            have HAP5 := Lib.hid hap5
            have HG5 := Lib.hid hg15
            have HOK1 := Lib.hid hok1
            have HOK2 := Lib.hid hok2
            have hcell5 : ∀ u, Gr w5 u → u.cell? ⟨b2, o2 + j, none⟩ = some (.int .i64 1) := fun u h => by rw [← HXX.out]; exact (hg15.trans h).cell (HC2.out j hlt)
            have HCE := Lib.hid hcell5
            clear hrun5 ho5 hg5 hf5 hrd1 htk hg15 ho25 hap5 hok1 hok2 hcell5
            go_wp2_with (at_builtin; refine wpList_app rfl _ _ _ rfl rfl rfl HR5.out ?_)
            clear ck
            have q5 := HCE.out
            refine Sched.wp_region_sched 21 [] [20] (by kernel_rfl) (by kernel_rfl) ?_
            simp only [List.take_succ_cons, List.take_zero, List.drop_succ_cons, List.drop_zero]
            repeat (first | (refine Sched.walk1_no rfl rfl (fun K hK => ?_); simp only [Act.put, List.setIfInBounds_toArray, List.set_cons_zero, List.set_cons_succ]; refine hK _ ?_; clear hK K) | (refine Sched.walk1_gr rfl rfl rfl (fun K hK => ?_); apply Exists.intro; refine ⟨fun w1 hw1 => ?_, ?_⟩; (focus (go_simp; (try go_ints); (try (simp only [IntWalk.iteOmega]; go_simp)); first | done | fail | (with_reducible rfl) | (with_reducible exact ⟨rfl, rfl⟩))); simp only [Act.put, List.setIfInBounds_toArray, List.set_cons_zero, List.set_cons_succ]; refine hK _ ?_; clear hK K) | (refine Sched.walk1_pure rfl rfl rfl (fun K hK => ?_); apply Exists.intro; refine ⟨fun w1 => ?_, ?_⟩; (focus (go_simp; (try go_ints); (try (simp only [IntWalk.iteOmega]; go_simp)); first | done | (with_reducible rfl) | (with_reducible exact ⟨rfl, rfl⟩))); simp only [Act.put, List.setIfInBounds_toArray, List.set_cons_zero, List.set_cons_succ]; refine hK _ ?_; clear hK K) | (refine Sched.walk1_box rfl rfl ?_; apply Exists.intro; refine ⟨fun w1 hw1 => ?_, ?_⟩; (focus (go_simp; exact ⟨Gr.alloc _ _, rfl, by simp, heap_alloc_new _ _⟩))))
            refine Sched.walk1_new (NOne .i64 3 (-1 + h - 2 * h)) rfl rfl (NRow1.stable _ _) (fun u hu => ?_) ?_
            · go_simp
              exact ⟨Gr.alloc _ _, rfl, by simp, heap_alloc_new _ _⟩
            refine Sched.walk1_nil ?_
            intro wq hwq
            dsimp only [Sched.EndN]
            rintro lo hi v hnew hlo - - -
            obtain ⟨rfl, hrd⟩ := hnew.rd (WalkArith.wf_i64 (by constructor <;> omega))
            obtain ⟨a6, c6, w6, hrun6, ho6, hg6, hf6⟩ := app_i64 w2.heap.size wq a2 j c2 _ (HO25.out.stay hwq) _ 1 1 _ hrd (by omega) (Nat.le_trans HG5.out.size hwq.size)
            have HG6 := Lib.hid (grown_own (HG5.out.trans hwq) (HO25.out.stay hwq) (Nat.le_refl _) hg6)
            have HO16 := Lib.hid ((HO5.out.stay hwq).kept hg6 HAP5.out.symm.ne)
            have HAP6 := Lib.hid (HAP5.out.symm.grow hf6 (own_lt (HO5.out.stay hwq)))
            have HO6 := Lib.hid ho6
            dsimp only [Sched.EndN, List.nil_append, List.cons_append, Act.put]
            (try simp only [List.setIfInBounds_toArray, List.set_cons_zero, List.set_cons_succ])
            refine Sched.walk2_app rfl _ _ _ rfl rfl rfl hrun6 ?_
            clear hrun6 hnew hrd ho6 hg6 hf6 hwq q5
            dsimp only [Sched.EndN, List.nil_append, List.cons_append, Act.put]
            (try simp only [List.setIfInBounds_toArray, List.set_cons_zero, List.set_cons_succ])
            repeat (first | (refine Sched.walk2_no rfl (fun K hK => ?_); simp only [Act.put, List.setIfInBounds_toArray, List.set_cons_zero, List.set_cons_succ]; refine hK _ ?_; clear hK K) | (refine Sched.walk2_go rfl (fun K hK => ?_); go_simp; (try go_ints); (try (simp only [IntWalk.iteOmega]; go_simp)); first | (refine hK _ _ ?_; clear hK K) | fail))
            refine Sched.walk2_nil ?_
            go_wp2_with fail
            go_roundw
            case rel => exact ⟨a5, c5, a6, c6, j + 1, _, _, by omega, rfl, rfl, rfl, HO16.out, HO6.out, HOK1.out, HOK2.out, HAP6.out, HG6.out⟩
            case measure => (simp [intOf] <;> omega)
        · rcases hxb with rfl | rfl
          · go_upto_region 14 with (fail)
            have htk := take_one C j (by rw [HCL.out]; exact hlt)
            rw [HXX.out] at htk
            have hrd1 := rd_one28 (w := wr) (1) 3 (0, 0) (by constructor <;> omega)
            obtain ⟨a5, c5, w5, hrun5, ho5, hg5, hf5⟩ := app_i64 w2.heap.size (wr.alloc (.cells #[.int .i64 (1)] 3)) a1 j c1 _ (HO1.out.stay (World.grownBy_alloc _ _ _)) (some ⟨wr.heap.size, 0, none⟩) 1 1 _ hrd1 (by omega) (by have := HG.out.size; simp; omega)
            have hg15 : Gr w2 w5 := grown_own (grownBy_alloc HG.out _) (HO1.out.stay (World.grownBy_alloc _ _ _)) (Nat.le_refl _) hg5
            have ho25 := (HO2.out.stay (World.grownBy_alloc wr (.cells #[.int .i64 (1)] 3) none)).kept hg5 HAP.out.symm.ne
            have hap5 := HAP.out.symm.grow hf5 (own_lt (HO2.out.stay (World.grownBy_alloc wr (.cells #[.int .i64 (1)] 3) none)))
            have hok1 := HK1.out.snoc (y := 1) (x := 0) (by omega) (by omega)
            have hok2 := HK2.out.snoc (y := 2) (x := 0) (by omega) (by omega)
            rw [← htk] at hok1 hok2
            have HR5 := Lib.hid hrun5
            have HO5 := Lib.hid ho5
            have HO25 := Lib.hid ho25
            have HAP5 := Lib.hid hap5
            have HG5 := Lib.hid hg15
            have HOK1 := Lib.hid hok1
            have HOK2 := Lib.hid hok2
            have hcell5 : ∀ u, Gr w5 u → u.cell? ⟨b2, o2 + j, none⟩ = some (.int .i64 0) := fun u h => by rw [← HXX.out]; exact (hg15.trans h).cell (HC2.out j hlt)
            have HCE := Lib.hid hcell5
            clear hrun5 ho5 hg5 hf5 hrd1 htk hg15 ho25 hap5 hok1 hok2 hcell5
            go_wp2_with (at_builtin; refine wpList_app rfl _ _ _ rfl rfl rfl HR5.out ?_)
            clear ck
            have q5 := HCE.out
            refine Sched.wp_region_sched 21 [] [20] (by kernel_rfl) (by kernel_rfl) ?_
            simp only [List.take_succ_cons, List.take_zero, List.drop_succ_cons, List.drop_zero]
            repeat (first | (refine Sched.walk1_no rfl rfl (fun K hK => ?_); simp only [Act.put, List.setIfInBounds_toArray, List.set_cons_zero, List.set_cons_succ]; refine hK _ ?_; clear hK K) | (refine Sched.walk1_gr rfl rfl rfl (fun K hK => ?_); apply Exists.intro; refine ⟨fun w1 hw1 => ?_, ?_⟩; (focus (go_simp; (try go_ints); (try (simp only [IntWalk.iteOmega]; go_simp)); first | done | fail | (with_reducible rfl) | (with_reducible exact ⟨rfl, rfl⟩))); simp only [Act.put, List.setIfInBounds_toArray, List.set_cons_zero, List.set_cons_succ]; refine hK _ ?_; clear hK K) | (refine Sched.walk1_pure rfl rfl rfl (fun K hK => ?_); apply Exists.intro; refine ⟨fun w1 => ?_, ?_⟩; (focus (go_simp; (try go_ints); (try (simp only [IntWalk.iteOmega]; go_simp)); first | done | (with_reducible rfl) | (with_reducible exact ⟨rfl, rfl⟩))); simp only [Act.put, List.setIfInBounds_toArray, List.set_cons_zero, List.set_cons_succ]; refine hK _ ?_; clear hK K) | (refine Sched.walk1_box rfl rfl ?_; apply Exists.intro; refine ⟨fun w1 hw1 => ?_, ?_⟩; (focus (go_simp; exact ⟨Gr.alloc _ _, rfl, by simp, heap_alloc_new _ _⟩))))
            refine Sched.walk1_new (NOne .i64 3 (2)) rfl rfl (NRow1.stable _ _) (fun u hu => ?_) ?_
            · go_simp
              exact ⟨Gr.alloc _ _, rfl, by simp, heap_alloc_new _ _⟩
            refine Sched.walk1_nil ?_
            intro wq hwq
            dsimp only [Sched.EndN]
            rintro lo hi v hnew hlo - - -
            obtain ⟨rfl, hrd⟩ := hnew.rd (WalkArith.wf_i64 (by constructor <;> omega))
            obtain ⟨a6, c6, w6, hrun6, ho6, hg6, hf6⟩ := app_i64 w2.heap.size wq a2 j c2 _ (HO25.out.stay hwq) _ 1 1 _ hrd (by omega) (Nat.le_trans HG5.out.size hwq.size)
            have HG6 := Lib.hid (grown_own (HG5.out.trans hwq) (HO25.out.stay hwq) (Nat.le_refl _) hg6)
            have HO16 := Lib.hid ((HO5.out.stay hwq).kept hg6 HAP5.out.symm.ne)
            have HAP6 := Lib.hid (HAP5.out.symm.grow hf6 (own_lt (HO5.out.stay hwq)))
            have HO6 := Lib.hid ho6
            dsimp only [Sched.EndN, List.nil_append, List.cons_append, Act.put]
            (try simp only [List.setIfInBounds_toArray, List.set_cons_zero, List.set_cons_succ])
            refine Sched.walk2_app rfl _ _ _ rfl rfl rfl hrun6 ?_
            clear hrun6 hnew hrd ho6 hg6 hf6 hwq q5
            dsimp only [Sched.EndN, List.nil_append, List.cons_append, Act.put]
            (try simp only [List.setIfInBounds_toArray, List.set_cons_zero, List.set_cons_succ])
            repeat (first | (refine Sched.walk2_no rfl (fun K hK => ?_); simp only [Act.put, List.setIfInBounds_toArray, List.set_cons_zero, List.set_cons_succ]; refine hK _ ?_; clear hK K) | (refine Sched.walk2_go rfl (fun K hK => ?_); go_simp; (try go_ints); (try (simp only [IntWalk.iteOmega]; go_simp)); first | (refine hK _ _ ?_; clear hK K) | fail))
            refine Sched.walk2_nil ?_
            go_wp2_with fail
            go_roundw
            case rel => exact ⟨a5, c5, a6, c6, j + 1, _, _, by omega, rfl, rfl, rfl, HO16.out, HO6.out, HOK1.out, HOK2.out, HAP6.out, HG6.out⟩
            case measure => (simp [intOf] <;> omega)
          · go_upto_region 14 with (fail)
            have htk := take_one C j (by rw [HCL.out]; exact hlt)
            rw [HXX.out] at htk
            have hrd1 := rd_one28 (w := wr) (-1) 3 (0, 0) (by constructor <;> omega)
            obtain ⟨a5, c5, w5, hrun5, ho5, hg5, hf5⟩ := app_i64 w2.heap.size (wr.alloc (.cells #[.int .i64 (-1)] 3)) a1 j c1 _ (HO1.out.stay (World.grownBy_alloc _ _ _)) (some ⟨wr.heap.size, 0, none⟩) 1 1 _ hrd1 (by omega) (by have := HG.out.size; simp; omega)
            have hg15 : Gr w2 w5 := grown_own (grownBy_alloc HG.out _) (HO1.out.stay (World.grownBy_alloc _ _ _)) (Nat.le_refl _) hg5
            have ho25 := (HO2.out.stay (World.grownBy_alloc wr (.cells #[.int .i64 (-1)] 3) none)).kept hg5 HAP.out.symm.ne
            have hap5 := HAP.out.symm.grow hf5 (own_lt (HO2.out.stay (World.grownBy_alloc wr (.cells #[.int .i64 (-1)] 3) none)))
            have hok1 := HK1.out.snoc (y := -1) (x := 1) (by omega) (by omega)
            have hok2 := HK2.out.snoc (y := -2) (x := 1) (by omega) (by omega)
            rw [← htk] at hok1 hok2
            have HR5 := Lib.hid hrun5
            have HO5 := Lib.hid ho5
            have HO25 := Lib.hid ho25
            have HAP5 := Lib.hid hap5
            have HG5 := Lib.hid hg15
            have HOK1 := Lib.hid hok1
            have HOK2 := Lib.hid hok2
            have hcell5 : ∀ u, Gr w5 u → u.cell? ⟨b2, o2 + j, none⟩ = some (.int .i64 1) := fun u h => by rw [← HXX.out]; exact (hg15.trans h).cell (HC2.out j hlt)
            have HCE := Lib.hid hcell5
            clear hrun5 ho5 hg5 hf5 hrd1 htk hg15 ho25 hap5 hok1 hok2 hcell5
            go_wp2_with (at_builtin; refine wpList_app rfl _ _ _ rfl rfl rfl HR5.out ?_)
            clear ck
            have q5 := HCE.out
            refine Sched.wp_region_sched 21 [] [20] (by kernel_rfl) (by kernel_rfl) ?_
            simp only [List.take_succ_cons, List.take_zero, List.drop_succ_cons, List.drop_zero]
            repeat (first | (refine Sched.walk1_no rfl rfl (fun K hK => ?_); simp only [Act.put, List.setIfInBounds_toArray, List.set_cons_zero, List.set_cons_succ]; refine hK _ ?_; clear hK K) | (refine Sched.walk1_gr rfl rfl rfl (fun K hK => ?_); apply Exists.intro; refine ⟨fun w1 hw1 => ?_, ?_⟩; (focus (go_simp; (try go_ints); (try (simp only [IntWalk.iteOmega]; go_simp)); first | done | fail | (with_reducible rfl) | (with_reducible exact ⟨rfl, rfl⟩))); simp only [Act.put, List.setIfInBounds_toArray, List.set_cons_zero, List.set_cons_succ]; refine hK _ ?_; clear hK K) | (refine Sched.walk1_pure rfl rfl rfl (fun K hK => ?_); apply Exists.intro; refine ⟨fun w1 => ?_, ?_⟩; (focus (go_simp; (try go_ints); (try (simp only [IntWalk.iteOmega]; go_simp)); first | done | (with_reducible rfl) | (with_reducible exact ⟨rfl, rfl⟩))); simp only [Act.put, List.setIfInBounds_toArray, List.set_cons_zero, List.set_cons_succ]; refine hK _ ?_; clear hK K) | (refine Sched.walk1_box rfl rfl ?_; apply Exists.intro; refine ⟨fun w1 hw1 => ?_, ?_⟩; (focus (go_simp; exact ⟨Gr.alloc _ _, rfl, by simp, heap_alloc_new _ _⟩))))
            refine Sched.walk1_new (NOne .i64 3 (-2)) rfl rfl (NRow1.stable _ _) (fun u hu => ?_) ?_
            · go_simp
              exact ⟨Gr.alloc _ _, rfl, by simp, heap_alloc_new _ _⟩
            refine Sched.walk1_nil ?_
            intro wq hwq
            dsimp only [Sched.EndN]
            rintro lo hi v hnew hlo - - -
            obtain ⟨rfl, hrd⟩ := hnew.rd (WalkArith.wf_i64 (by constructor <;> omega))
            obtain ⟨a6, c6, w6, hrun6, ho6, hg6, hf6⟩ := app_i64 w2.heap.size wq a2 j c2 _ (HO25.out.stay hwq) _ 1 1 _ hrd (by omega) (Nat.le_trans HG5.out.size hwq.size)
            have HG6 := Lib.hid (grown_own (HG5.out.trans hwq) (HO25.out.stay hwq) (Nat.le_refl _) hg6)
            have HO16 := Lib.hid ((HO5.out.stay hwq).kept hg6 HAP5.out.symm.ne)
            have HAP6 := Lib.hid (HAP5.out.symm.grow hf6 (own_lt (HO5.out.stay hwq)))
            have HO6 := Lib.hid ho6
            dsimp only [Sched.EndN, List.nil_append, List.cons_append, Act.put]
            (try simp only [List.setIfInBounds_toArray, List.set_cons_zero, List.set_cons_succ])
            refine Sched.walk2_app rfl _ _ _ rfl rfl rfl hrun6 ?_
            clear hrun6 hnew hrd ho6 hg6 hf6 hwq q5
            dsimp only [Sched.EndN, List.nil_append, List.cons_append, Act.put]
            (try simp only [List.setIfInBounds_toArray, List.set_cons_zero, List.set_cons_succ])
            repeat (first | (refine Sched.walk2_no rfl (fun K hK => ?_); simp only [Act.put, List.setIfInBounds_toArray, List.set_cons_zero, List.set_cons_succ]; refine hK _ ?_; clear hK K) | (refine Sched.walk2_go rfl (fun K hK => ?_); go_simp; (try go_ints); (try (simp only [IntWalk.iteOmega]; go_simp)); first | (refine hK _ _ ?_; clear hK K) | fail))
            refine Sched.walk2_nil ?_
            go_wp2_with fail
            go_roundw
            case rel => exact ⟨a5, c5, a6, c6, j + 1, _, _, by omega, rfl, rfl, rfl, HO16.out, HO6.out, HOK1.out, HOK2.out, HAP6.out, HG6.out⟩
            case measure => (simp [intOf] <;> omega)
    · obtain rfl : j = 2 * (len + 2) := by omega
      have hk1 := HK1.out
      have hk2 := HK2.out
      rw [List.take_of_length_le (by rw [HCL.out]; exact Nat.le_refl _)] at hk1 hk2
      have hd1 := dec_right (n := len) (r := S) (b := bs.map bi) HO1.out.len hk1.2.2 (by omega) (bi_bits bs) (by rw [List.length_map, HL.out]) (by rw [HC.out]; exact hk1.2.1)
      have hd2 := dec_right (n := len) (r := T') (b := bs.map bi) HO2.out.len hk2.2.2 (by omega) (bi_bits bs) (by rw [List.length_map, HL.out]) (by rw [HC.out]; exact hk2.2.1)
      have HD1 := Lib.hid hd1
      have HD2 := Lib.hid hd2
      have HS1 := Lib.hid hk1.2.2
      have HS2 := Lib.hid hk2.2.2
      have hcap1 := own_le_cap HO1.out
      have hcap2 := own_le_cap HO2.out
      clear hk1 hk2 hd1 hd2 HK1 HK2
      go_wp2_with fail
      refine (decode_yes _ len _ S wr HO1.out.rd HS1.out h1 (by omega) hcap1).mono ?_
      rintro e w6 ⟨a6, c6, rfl, hr6, hg6⟩
      rw [HD1.out] at hr6
      have HR6 := Lib.hid hr6
      have HG6 := Lib.hid hg6
      clear hr6 hg6
      go_wp2_with fail
      refine (decode_yes _ len _ T' w6 (HO2.out.rd.kept HG6.out) HS2.out h1 (by omega) hcap2).mono ?_
      rintro e w7 ⟨a7, c7, rfl, hr7, hg7⟩
      rw [HD2.out] at hr7
      have HR7 := Lib.hid hr7
      have HR67 := Lib.hid (HR6.out.kept hg7)
      have HGA := Lib.hid (HG2.out.trans (HG.out.trans (HG6.out.trans hg7)))
      have HB7 := Lib.hid (HB2.out.kept (HG.out.trans (HG6.out.trans hg7)))
      clear hr7 hg7 HG HG6 HO1 HO2
      go_wp2_with fail
      refine (same_yes _ _ _ _ _ _ _ _ _ HR67.out HB7.out rfl).mono ?_
      rintro e w8 ⟨rfl, hg8⟩
      have HG8 := Lib.hid hg8
      clear hg8
      go_wp2_with fail
      refine (same_yes _ _ _ _ _ _ _ _ _ (HR7.out.kept HG8.out) (HB7.out.kept HG8.out) rfl).mono ?_
      rintro e w9 ⟨rfl, hg9⟩
      have HG9 := Lib.hid hg9
      clear hg9
      go_wp2_with fail
      refine (awake28 _).mono ?_
      rintro e w10 ⟨rfl, hg10⟩
      have HG10 := Lib.hid hg10
      clear hg10
      go_wp2_with fail
      go_ret
      exact ⟨rfl, HGA.out.trans (HG8.out.trans (HG9.out.trans HG10.out))⟩
theorem again_no (a : Option Addr) (len cap : Nat) (u v : Value) (w : World) (h : len < 1 ∨ 100 < len) (hm : len ≤ 9223372036854775807) :
    Calls Try.prog 7 #[.slice a len cap, u, v] w fun e w' => e = .returned (.bool true) ∧ Gr w w' := by
  rcases h with h | h
  all_goals
    go_enter Try.func7, Try.ntmps7
    go_wp2_with fail
    refine (awake28 _).mono ?_
    rintro e w1 ⟨rfl, hg⟩
    have HG := Lib.hid hg
    clear hg
    go_wp2_with fail
    go_ret
    exact ⟨rfl, HG.out⟩
theorem again_fit (a : Option Addr) (len cap : Nat) (bs : List Bool) (as1 : Option Addr) (ls cs : Nat) (zs : List Int) (at1 : Option Addr) (lt ct : Nat) (ys : List Int) (w : World) (hr : RdB w a len bs) (_hc : len ≤ cap) (_hL : len ≤ 140737488351232) (hs : Rd .u8 w as1 ls zs) (_hcs : ls ≤ cs) (_hLs : ls ≤ 140737488351232) (ht : Rd .u8 w at1 lt ys) (_hct : lt ≤ ct) (_hLt : lt ≤ 140737488351232) :
    Calls Try.prog 7 #[.slice a len cap, .slice as1 ls cs, .slice at1 lt ct] w fun e w' => e = .returned (.bool true) ∧ Below w.heap.size w w' := by
  have key : Calls Try.prog 7 #[.slice a len cap, .slice as1 ls cs, .slice at1 lt ct] w fun e w' => e = .returned (.bool true) ∧ Gr w w' := by
    by_cases h : len < 1 ∨ 100 < len
    · exact again_no a len cap _ _ w h (by omega)
    · exact again_walk a len cap bs as1 ls cs zs at1 lt ct ys w hr hs ht (by omega) (by omega)
  exact key.mono fun _ _ ⟨he, hg⟩ => ⟨he, Below.of_none hg⟩
end Go.Proofs.Ytbdbllagbifkgaa
