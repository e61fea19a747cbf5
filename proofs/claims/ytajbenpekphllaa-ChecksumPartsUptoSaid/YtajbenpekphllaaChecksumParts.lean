/- The law ChecksumParts: its walk. -/
import Derived.Test.YtajbenpekphllaaChecksumLaws
namespace Go.Proofs.Ytajbenpekphllaa
open Go.ChangeShapes Go.WideShapes Go.ChangeAt Go.RowKit

theorem parts_law (s : Int) (l r : List Int) (hl : l.length % 2 = 0) (h1 : bytesOk l) (h2 : bytesOk r) : addS (addS s l) r = addS s (l ++ r) := by
  have hw := words_rng l h1
  have hw2 := words_rng r h2
  have hr := foldS_rng s
  unfold addS
  rw [foldS_foldS, foldS_add (by omega) hw2.1, words_append l r hl]
  congr 1; omega


theorem parts_even (a : Option Addr) (len cap : Nat) (b : Option Addr) (blen bcap : Nat) (zs bs : List Int) (s : Int) (w : World)
    (HA : Rd .u8 w a len zs) (HB : Rd .u8 w b blen bs) (hL : len ≤ 1048576) (hL2 : blen ≤ 1048576) (hs : i64 s) (he : ((len : Int) % 2 == 1) = false) (hev : zs.length % 2 = 0) :
    Calls Try.prog 5 #[.slice a len cap, .slice b blen bcap, .int .i64 s] w fun e w' => e = .returned (.bool true) ∧ w.grownBy w' none := by
  obtain ⟨hs0, hs2⟩ := hs
  obtain ⟨a3, c3, w3, hrun3, ho3, hg3, hf3⟩ := app_u8_nil w.heap.size w a len cap zs HA (by omega) (Nat.le_refl _)
  obtain ⟨a4, c4, w4, hrun4, ho4, hg4, hf4⟩ := app_u8 w.heap.size w3 a3 len c3 zs ho3 b blen bcap bs (HB.kept hg3) (by omega) hg3.size
  have HR3 := Lib.hid hrun3
  have HR4 := Lib.hid hrun4
  have hgg := grown_own hg3 ho3 (Nat.le_refl _) hg4
  have HG4 := Lib.hid hgg
  have HD4 := ho4.rd
  have hlaw := parts_law s zs bs hev HA.bytes HB.bytes
  have HLAW := Lib.hid hlaw
  obtain ⟨R, hR⟩ : ∃ R, addS s (zs ++ bs) = R := ⟨_, rfl⟩
  have hRr : 0 ≤ R ∧ R ≤ 65535 := by rw [← hR]; exact foldS_rng _
  have hRf : foldS R = R := foldS_small hRr.1 hRr.2
  have HRR := Lib.hid hR
  have HRF := Lib.hid hRf
  have hs1 : addS s zs ≤ 9223372036854775807 := by have := foldS_rng (foldS s + words zs); unfold addS; omega
  clear hrun3 hrun4 hg3 hg4 hf3 hf4 hgg hlaw hR hRf hev
  go_enter Try.func5, Try.ntmps5
  go_wp2_with (first | (at_builtin; refine wpList_app rfl _ _ _ rfl rfl rfl HR3.out ?_; clear HR3) | (at_builtin; refine wpList_app rfl _ _ _ rfl rfl rfl HR4.out ?_; clear HR4))
  refine (add_any s _ _ _ (zs ++ bs) _ HD4 (by omega) (by omega)).mono ?_
  rintro e w5 ⟨rfl, rfl⟩
  rw [HRR.out]
  go_wp2_with fail
  refine (awake4 _).mono ?_
  rintro e w5 ⟨rfl, hg5⟩
  have HA5 := (HA.kept HG4.out).kept hg5
  have HB5 := (HB.kept HG4.out).kept hg5
  have HG5 := Lib.hid hg5
  clear hg5
  go_wp2_with fail
  refine (add_any s _ _ _ zs _ HA5 (by omega) (by omega)).mono ?_
  rintro e w6 ⟨rfl, rfl⟩
  go_wp2_with fail
  refine (add_any (addS s zs) _ _ _ bs _ HB5 (by omega) hs1).mono ?_
  rintro e w6 ⟨rfl, rfl⟩
  rw [HLAW.out, HRR.out]
  go_wp2_with ((go_at_call 17; refine (fold_any _ _ (by omega)).mono ?_; rintro e w' ⟨rfl, rfl⟩))
  rw [HRF.out]
  go_wp2
  go_ret
  exact ⟨by simp, grown_trans HG4.out HG5.out⟩

theorem parts_odd (a : Option Addr) (len cap : Nat) (b : Option Addr) (blen bcap : Nat) (zs bs : List Int) (s : Int) (w : World)
    (hr : Rd .u8 w a len zs) (hrb : Rd .u8 w b blen bs) (hL : len ≤ 1048576) (hL2 : blen ≤ 1048576) (hs : i64 s) (he : ((len : Int) % 2 == 1) = true) (hod : len % 2 = 1) :
    Calls Try.prog 5 #[.slice a len cap, .slice b blen bcap, .int .i64 s] w fun e w' => e = .returned (.bool true) ∧ w.grownBy w' none := by
  obtain ⟨hs0, hs2⟩ := hs
  obtain ⟨a1, c1, w1, hrun1, ho1, hg1, hf1⟩ := app_u8_nil w.heap.size w a len cap zs hr (by omega) (Nat.le_refl _)
  have hrd := rd_new (k := .u8) (w := w1) [0] 5 (0, 0) 1 rfl (by simp [maxLen]) (by decide)
  obtain ⟨a2, c2, w2, hrun2, ho2, hg2, hf2⟩ := app_u8 w.heap.size (w1.alloc (.cells ([0].map (Value.int .u8)).toArray 5)) a1 len c1 zs (ho1.stay (World.grownBy_alloc _ _ _)) (some ⟨w1.heap.size, 0, none⟩) 1 1 _ hrd (by omega) (by have := hg1.size; simp; omega)
  simp only [List.map_cons, List.map_nil] at hrun2 hg2
  obtain ⟨ys, hys⟩ : ∃ ys, zs ++ [0] = ys := ⟨_, rfl⟩
  have hev : ys.length % 2 = 0 := by rw [← hys]; simp [hr.1]; omega
  rw [hys] at ho2
  have HR1 := Lib.hid hrun1
  have HR2 := Lib.hid hrun2
  have hgg := grown_own (grownBy_alloc hg1 _) (ho1.stay (World.grownBy_alloc _ _ _)) (Nat.le_refl _) hg2
  have HG2 := Lib.hid hgg
  have HA := ho2.rd
  have HB := hrb.kept hgg
  clear hrun1 hrun2 hf1 hf2 hg1 hg2 hgg hrd hys hod
  obtain ⟨a3, c3, w3, hrun3, ho3, hg3, hf3⟩ := app_u8_nil w2.heap.size w2 a2 (len + 1) c2 ys HA (by omega) (Nat.le_refl _)
  obtain ⟨a4, c4, w4, hrun4, ho4, hg4, hf4⟩ := app_u8 w2.heap.size w3 a3 (len + 1) c3 ys ho3 b blen bcap bs (HB.kept hg3) (by omega) hg3.size
  have HR3 := Lib.hid hrun3
  have HR4 := Lib.hid hrun4
  have hgg := grown_own hg3 ho3 (Nat.le_refl _) hg4
  have HG4 := Lib.hid hgg
  have HD4 := ho4.rd
  have hlaw := parts_law s ys bs hev HA.bytes HB.bytes
  have HLAW := Lib.hid hlaw
  obtain ⟨R, hR⟩ : ∃ R, addS s (ys ++ bs) = R := ⟨_, rfl⟩
  have hRr : 0 ≤ R ∧ R ≤ 65535 := by rw [← hR]; exact foldS_rng _
  have hRf : foldS R = R := foldS_small hRr.1 hRr.2
  have HRR := Lib.hid hR
  have HRF := Lib.hid hRf
  have hs1 : addS s ys ≤ 9223372036854775807 := by have := foldS_rng (foldS s + words ys); unfold addS; omega
  clear hrun3 hrun4 hg3 hg4 hf3 hf4 hgg hlaw hR hRf hev
  go_enter Try.func5, Try.ntmps5
  go_wp2_with (first | (at_builtin; refine wpList_app rfl _ _ _ rfl rfl rfl HR1.out ?_; clear HR1) | (at_builtin; refine wpList_app rfl _ _ _ rfl rfl rfl HR2.out ?_; clear HR2) | (at_builtin; refine wpList_app rfl _ _ _ rfl rfl rfl HR3.out ?_; clear HR3) | (at_builtin; refine wpList_app rfl _ _ _ rfl rfl rfl HR4.out ?_; clear HR4))
  refine (add_any s _ _ _ (ys ++ bs) _ HD4 (by omega) (by omega)).mono ?_
  rintro e w5 ⟨rfl, rfl⟩
  rw [HRR.out]
  go_wp2_with fail
  refine (awake4 _).mono ?_
  rintro e w5 ⟨rfl, hg5⟩
  have HA5 := (HA.kept HG4.out).kept hg5
  have HB5 := (HB.kept HG4.out).kept hg5
  have HG5 := Lib.hid hg5
  clear hg5
  go_wp2_with fail
  refine (add_any s _ _ _ ys _ HA5 (by omega) (by omega)).mono ?_
  rintro e w6 ⟨rfl, rfl⟩
  go_wp2_with fail
  refine (add_any (addS s ys) _ _ _ bs _ HB5 (by omega) hs1).mono ?_
  rintro e w6 ⟨rfl, rfl⟩
  rw [HLAW.out, HRR.out]
  go_wp2_with ((go_at_call 17; refine (fold_any _ _ (by omega)).mono ?_; rintro e w' ⟨rfl, rfl⟩))
  rw [HRF.out]
  go_wp2
  go_ret
  exact ⟨by simp, grown_trans HG2.out (grown_trans HG4.out HG5.out)⟩

theorem parts_fit (a : Option Addr) (len cap : Nat) (zs : List Int) (b : Option Addr) (blen bcap : Nat) (bs : List Int) (s : Int) (w : World)
    (hr : Rd .u8 w a len zs) (_hc : len ≤ cap) (hL : len ≤ 1048576) (hrb : Rd .u8 w b blen bs) (_hcb : blen ≤ bcap) (hL2 : blen ≤ 1048576) (hs : i64 s) :
    Calls Try.prog 5 #[.slice a len cap, .slice b blen bcap, .int .i64 s] w fun e w' => e = .returned (.bool true) ∧ Below w.heap.size w w' := by
  by_cases h : len % 2 = 0
  · exact (parts_even a len cap b blen bcap zs bs s w hr hrb hL hL2 hs (by simp; omega) (by rw [hr.1]; exact h)).mono fun _ _ ⟨he, hg⟩ => ⟨he, Below.of_none hg⟩
  · exact (parts_odd a len cap b blen bcap zs bs s w hr hrb hL hL2 hs (by simp; omega) (by omega)).mono fun _ _ ⟨he, hg⟩ => ⟨he, Below.of_none hg⟩
end Go.Proofs.Ytajbenpekphllaa
