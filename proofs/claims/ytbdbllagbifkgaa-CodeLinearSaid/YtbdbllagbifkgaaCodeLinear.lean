/- The law CodeLinear: its walk. -/
import Derived.Test.YtbdbllagbifkgaaCodeShorter
import Derived.Test.YtbdbllagbifkgaaLinPlain
import Derived.Test.YtbdbllagbifkgaaNews
import Derived.Deep.Cut
namespace Go.Proofs.Ytbdbllagbifkgaa
open Go.ChangeShapes Go.WideShapes Go.ChangeAt Go.RowKit
open Cod

theorem bits_new (a : Option Addr) (len cap : Nat) (bs : List Bool) (A : List Int) (w : World) (hr : RdB w a len bs) (hL : len ≤ 1000000) (hA : bs.map bi = A) (lo : Nat) :
    Calls Try.prog 15 #[.slice a len cap] w fun e w' => ∃ v, e = .returned v ∧ Gr w w' ∧ NRd len A lo w'.heap.size v w' := by
  subst hA
  refine (bits28 a len cap bs w hr hL).mono ?_
  rintro e w' ⟨g, he, ho, hg⟩
  exact ⟨_, he, hg, _, _, rfl, ho.rd⟩
def SumRel (B : Nat) (g : Nat) (n : Nat) (S : List Int) (w2 : World) (d i : Value) (wr : World) : Prop :=
  ∃ k : Nat, k ≤ n ∧ i = .int .i64 k ∧ d = .bool (any1 (S.take k)) ∧ OwnI B 3 .i64 wr (some ⟨g, 0, none⟩) n n (fillz S k) ∧ Gr w2 wr
set_option maxRecDepth 100000 in
set_option maxHeartbeats 2000000 in
theorem linear_walk (a b : Option Addr) (la ca lb cb n : Nat) (es bs : List Bool) (w : World) (ha : RdB w a la es) (hb : RdB w b lb bs) (hca : la ≤ ca) (hcb : lb ≤ cb) (hn : min (min (la : Int) lb) 200 = n) (h1 : 1 ≤ n) :
    Calls Try.prog 6 #[.slice a la ca, .slice b lb cb] w fun e w' => e = .returned (.bool true) ∧ Gr w w' := by
  have hna : n ≤ la := by omega
  have hnb : n ≤ lb := by omega
  have hn2 : n ≤ 200 := by omega
  have hla : la ≤ 9223372036854775807 := by have := ha.2.1; simp only [maxLen] at this; omega
  have hlb : lb ≤ 9223372036854775807 := by have := hb.2.1; simp only [maxLen] at this; omega
  have ha2 := ha.take n hna
  have hb2 := hb.take n hnb
  have hA2 := bi_bits (es.take n)
  have hB2 := bi_bits (bs.take n)
  obtain ⟨A, hA⟩ : ∃ A, (es.take n).map bi = A := ⟨_, rfl⟩
  obtain ⟨B, hB⟩ : ∃ B, (bs.take n).map bi = B := ⟨_, rfl⟩
  rw [hA] at hA2
  rw [hB] at hB2
  have hAl : A.length = n := by rw [← hA, List.length_map]; exact ha2.1
  have hBl : B.length = n := by rw [← hB, List.length_map]; exact hb2.1
  obtain ⟨S, hS⟩ : ∃ S, sum2 A B = S := ⟨_, rfl⟩
  have hSl : S.length = n := by rw [← hS]; exact sum2_len hAl hBl
  have hSb : isBits S := by rw [← hS]; exact sum2_bits A B
  have hget : ∀ k, k < n → (A[k]?.getD 0 + B[k]?.getD 0) % 2 = S[k]?.getD 0 := fun k hk => by rw [← hS]; exact (sum2_get (by omega) (by omega)).symm
  have henc : sum2 (enc A) (enc B) = enc S := by rw [← hS]; exact (enc_sum (by omega) hA2 hB2).symm
  have HA := Lib.hid ha2
  have HB := Lib.hid hb2
  have HAE := Lib.hid hA
  have HBE := Lib.hid hB
  have HAB := Lib.hid hA2
  have HBB := Lib.hid hB2
  have HAL := Lib.hid hAl
  have HBL := Lib.hid hBl
  have HSL := Lib.hid hSl
  have HSB := Lib.hid hSb
  have HGET := Lib.hid hget
  have HENC := Lib.hid henc
  have hmk := fun u => make_ints n (by omega) u
  clear ha hb ha2 hb2 hA hB hA2 hB2 hAl hBl hS hSl hSb hget henc
  go_enter Try.func6, Try.ntmps6
  go_upto_region 1 with (fail)
  go_cut [5] from 19 (fun s wc => s = .int .i64 n ∧ wc = w)
  case first =>
    go_wp2_with fail
    all_goals (go_meet; exact ⟨by congr 1; omega, rfl⟩)
  case rest =>
    obtain ⟨rfl, rfl⟩ := hcut
    clear hn
    have hd1 : decide ((n : Int) < 1) = false := by simp; omega
    go_wp2_with fail
    clear hd1
    refine Sched.wp_region_sched 8 [] [3, 7] (by kernel_rfl) (by kernel_rfl) ?_
    simp only [List.take_succ_cons, List.take_zero, List.drop_succ_cons, List.drop_zero]
    repeat (first | (refine Sched.walk1_no rfl rfl (fun K hK => ?_); simp only [Act.put, List.setIfInBounds_toArray, List.set_cons_zero, List.set_cons_succ]; refine hK _ ?_; clear hK K) | (refine Sched.walk1_gr rfl rfl rfl (fun K hK => ?_); apply Exists.intro; refine ⟨fun w1 hw1 => ?_, ?_⟩; (focus (go_simp; (try go_ints); (try (simp only [IntWalk.iteOmega]; go_simp)); first | done | fail | (with_reducible rfl) | (with_reducible exact ⟨rfl, rfl⟩))); simp only [Act.put, List.setIfInBounds_toArray, List.set_cons_zero, List.set_cons_succ]; refine hK _ ?_; clear hK K) | (refine Sched.walk1_pure rfl rfl rfl (fun K hK => ?_); apply Exists.intro; refine ⟨fun w1 => ?_, ?_⟩; (focus (go_simp; (try go_ints); (try (simp only [IntWalk.iteOmega]; go_simp)); first | done | (with_reducible rfl) | (with_reducible exact ⟨rfl, rfl⟩))); simp only [Act.put, List.setIfInBounds_toArray, List.set_cons_zero, List.set_cons_succ]; refine hK _ ?_; clear hK K) | (refine Sched.walk1_box rfl rfl ?_; apply Exists.intro; refine ⟨fun w1 hw1 => ?_, ?_⟩; (focus (go_simp; exact ⟨Gr.alloc _ _, rfl, by simp, heap_alloc_new _ _⟩))))
    refine Sched.walk1_new (NRd n A) rfl rfl (NRd.stable _ _) (fun u hu => ?_) ?_
    · go_simp
      exact bits_new a n ca _ A u (HA.out.kept hu) (by omega) HAE.out _
    repeat (first | (refine Sched.walk1_no rfl rfl (fun K hK => ?_); simp only [Act.put, List.setIfInBounds_toArray, List.set_cons_zero, List.set_cons_succ]; refine hK _ ?_; clear hK K) | (refine Sched.walk1_gr rfl rfl rfl (fun K hK => ?_); apply Exists.intro; refine ⟨fun w1 hw1 => ?_, ?_⟩; (focus (go_simp; (try go_ints); (try (simp only [IntWalk.iteOmega]; go_simp)); first | done | fail | (with_reducible rfl) | (with_reducible exact ⟨rfl, rfl⟩))); simp only [Act.put, List.setIfInBounds_toArray, List.set_cons_zero, List.set_cons_succ]; refine hK _ ?_; clear hK K) | (refine Sched.walk1_pure rfl rfl rfl (fun K hK => ?_); apply Exists.intro; refine ⟨fun w1 => ?_, ?_⟩; (focus (go_simp; (try go_ints); (try (simp only [IntWalk.iteOmega]; go_simp)); first | done | (with_reducible rfl) | (with_reducible exact ⟨rfl, rfl⟩))); simp only [Act.put, List.setIfInBounds_toArray, List.set_cons_zero, List.set_cons_succ]; refine hK _ ?_; clear hK K) | (refine Sched.walk1_box rfl rfl ?_; apply Exists.intro; refine ⟨fun w1 hw1 => ?_, ?_⟩; (focus (go_simp; exact ⟨Gr.alloc _ _, rfl, by simp, heap_alloc_new _ _⟩))))
    refine Sched.walk1_new (NRd n B) rfl rfl (NRd.stable _ _) (fun u hu => ?_) ?_
    · go_simp
      exact bits_new b n cb _ B u (HB.out.kept hu) (by omega) HBE.out _
    refine Sched.walk1_nil ?_
    intro wq hwq
    dsimp only [Sched.EndN]
    rintro lo1 hi1 v1 ⟨a1, c1, rfl, hr1⟩ - - - -
    rintro lo2 hi2 v2 ⟨a2, c2, rfl, hr2⟩ - - - -
    obtain ⟨b1, o1, rfl, hb1, hc1⟩ := hr1.some (by omega)
    obtain ⟨b2, o2, rfl, hb2, hc2⟩ := hr2.some (by omega)
    have HC1 := Lib.hid hc1
    have HC2 := Lib.hid hc2
    clear hb1 hb2 hc1 hc2
    have HR1 := Lib.hid hr1
    have HR2 := Lib.hid hr2
    have HGQ := Lib.hid hwq
    clear hr1 hr2 hwq
    dsimp only [Sched.EndN, List.nil_append, List.cons_append, Act.put]
    (try simp only [List.setIfInBounds_toArray, List.set_cons_zero, List.set_cons_succ])
    repeat (first | (refine Sched.walk2_no rfl (fun K hK => ?_); simp only [Act.put, List.setIfInBounds_toArray, List.set_cons_zero, List.set_cons_succ]; refine hK _ ?_; clear hK K) | (refine Sched.walk2_go rfl (fun K hK => ?_); go_simp; (try go_ints); (try (simp only [IntWalk.iteOmega]; go_simp)); first | (refine hK _ _ ?_; clear hK K) | fail))
    refine Sched.walk2_nil ?_
    go_wp2_with fail
    obtain ⟨wr0, rfl⟩ : ∃ wr0 : World, wr0 = wq := ⟨_, rfl⟩
    obtain ⟨w1, hw1⟩ : ∃ y, y = wr0.alloc (.cells (Array.replicate n (.int .i64 0)) 3) := ⟨_, rfl⟩
    have ho0 := own_made wr0.heap.size n wr0 (Nat.le_refl _) (by simp only [maxLen]; omega)
    rw [← hw1] at ho0
    rw [← hw1]
    have HG1 := Lib.hid (show Gr wr0 w1 by rw [hw1]; exact Gr.alloc _ _)
    have HO0 := Lib.hid (show OwnI wr0.heap.size 3 .i64 w1 (some ⟨wr0.heap.size, 0, none⟩) n n (fillz S 0) by rw [fillz_zero, HSL.out]; exact ho0)
    clear hw1 ho0 hmk
    go_loopw [9, 10] (fun d i wr => SumRel wr0.heap.size wr0.heap.size n S wr0 d i wr) (fun _ i _ => n - (intOf i).toNat)
    case atStart => exact ⟨0, by omega, rfl, rfl, HO0.out, HG1.out⟩
    case round =>
      obtain ⟨k, hk, rfl, rfl, ho, hg⟩ := hrel
      have HO := Lib.hid ho
      have HG := Lib.hid hg
      clear ho hg
      by_cases hlt : k < n
      · have hxy := HGET.out k hlt
        have hxb := bit_at HAB.out k
        have hyb := bit_at HBB.out k
        obtain ⟨x, hx⟩ : ∃ x, A[k]?.getD 0 = x := ⟨_, rfl⟩
        obtain ⟨y, hy⟩ : ∃ y, B[k]?.getD 0 = y := ⟨_, rfl⟩
        obtain ⟨z, hz⟩ : ∃ z, S[k]?.getD 0 = z := ⟨_, rfl⟩
        rw [hx, hy, hz] at hxy
        rw [hx] at hxb
        rw [hy] at hyb
        have q1 : ∀ u, Gr wr u → u.cell? ⟨b1, o1 + k, none⟩ = some (.int .i64 x) := fun u h => by rw [← hx]; exact (HG.out.trans h).cell (HC1.out k hlt)
        have q2 : ∀ u, Gr wr u → u.cell? ⟨b2, o2 + k, none⟩ = some (.int .i64 y) := fun u h => by rw [← hy]; exact (HG.out.trans h).cell (HC2.out k hlt)
        have hst := fillz_step (L := S) (k := k) (by rw [HSL.out]; exact hlt)
        have han := any1_take S k (by rw [HSL.out]; exact hlt)
        rw [hz] at hst han
        have HST := Lib.hid hst
        have HAN := Lib.hid han
        have HXY := Lib.hid hxy
        have x1 : 0 ≤ x := by omega
        have x2 : x ≤ 1 := by omega
        have y1 : 0 ≤ y := by omega
        have y2 : y ≤ 1 := by omega
        obtain ⟨D, hD⟩ : ∃ D, any1 (S.take k) = D := ⟨_, rfl⟩
        rw [hD]
        have HD := Lib.hid hD
        clear hst han hxy hx hy hz hxb hyb hD
        go_wp2_with fail
        refine Sched.wp_region_sched 13 [] [] (by kernel_rfl) (by kernel_rfl) ?_
        simp only [List.take_succ_cons, List.take_zero, List.drop_succ_cons, List.drop_zero]
        repeat (first | (refine Sched.walk1_no rfl rfl (fun K hK => ?_); simp only [Act.put, List.setIfInBounds_toArray, List.set_cons_zero, List.set_cons_succ]; refine hK _ ?_; clear hK K) | (refine Sched.walk1_gr rfl rfl rfl (fun K hK => ?_); apply Exists.intro; refine ⟨fun w1 hw1 => ?_, ?_⟩; (focus (go_simp; (try go_ints); (try (simp only [IntWalk.iteOmega]; go_simp)); first | done | fail | (with_reducible rfl) | (with_reducible exact ⟨rfl, rfl⟩))); simp only [Act.put, List.setIfInBounds_toArray, List.set_cons_zero, List.set_cons_succ]; refine hK _ ?_; clear hK K) | (refine Sched.walk1_pure rfl rfl rfl (fun K hK => ?_); apply Exists.intro; refine ⟨fun w1 => ?_, ?_⟩; (focus (go_simp; (try go_ints); (try (simp only [IntWalk.iteOmega]; go_simp)); first | done | (with_reducible rfl) | (with_reducible exact ⟨rfl, rfl⟩))); simp only [Act.put, List.setIfInBounds_toArray, List.set_cons_zero, List.set_cons_succ]; refine hK _ ?_; clear hK K) | (refine Sched.walk1_box rfl rfl ?_; apply Exists.intro; refine ⟨fun w1 hw1 => ?_, ?_⟩; (focus (go_simp; exact ⟨Gr.alloc _ _, rfl, by simp, heap_alloc_new _ _⟩))))
        refine Sched.walk1_nil ?_
        intro wq hwq
        have hat := (HO.out.stay hwq).at k hlt
        obtain ⟨c3, f3⟩ := hat
        dsimp only [Sched.EndN, List.nil_append, List.cons_append, Act.put]
        (try simp only [List.setIfInBounds_toArray, List.set_cons_zero, List.set_cons_succ])
        repeat (first | (refine Sched.walk2_no rfl (fun K hK => ?_); simp only [Act.put, List.setIfInBounds_toArray, List.set_cons_zero, List.set_cons_succ]; refine hK _ ?_; clear hK K) | (refine Sched.walk2_go rfl (fun K hK => ?_); go_simp; (try go_ints); (try (simp only [IntWalk.iteOmega]; go_simp)); first | (refine hK _ _ ?_; clear hK K) | fail))
        refine Sched.walk2_nil ?_
        rw [HXY.out]
        have hzb := bit_at HSB.out k
        have ho3 := (HO.out.stay hwq).set k z (WalkArith.wf_i64 (by have := HXY.out; constructor <;> omega))
        rw [← HST.out] at ho3
        have hg3 := grown_set (HG.out.trans hwq) (a := ⟨wr0.heap.size, k, none⟩) (Nat.le_refl _) (.int .i64 z)
        obtain ⟨w3, hw3⟩ : ∃ u, u = wq.setCell ⟨wr0.heap.size, k, none⟩ (.int .i64 z) := ⟨_, rfl⟩
        rw [← hw3] at ho3 hg3
        rw [← hw3]
        have c4 := (ho3.at k hlt).1
        rw [HST.out, set_getD_eq _ _ _ (by rw [HO.out.len]; exact hlt)] at c4
        have HO3 := Lib.hid ho3
        have HG3 := Lib.hid hg3
        have hz2 : z = 0 ∨ z = 1 := by have := HXY.out; omega
        clear hw3 ho3 hg3 c3 f3 q1 q2 hzb hwq
        cases D
        · rcases hz2 with rfl | rfl
          · go_wp2_with fail
            go_roundw
            case rel => exact ⟨k + 1, by omega, by go_num, by rw [HAN.out, HD.out]; rfl, HO3.out, HG3.out⟩
            case measure => (simp [intOf] <;> omega)
          · go_wp2_with fail
            go_roundw
            case rel => exact ⟨k + 1, by omega, by go_num, by rw [HAN.out, HD.out]; rfl, HO3.out, HG3.out⟩
            case measure => (simp [intOf] <;> omega)
        · go_wp2_with fail
          go_roundw
          case rel => exact ⟨k + 1, by omega, by go_num, by rw [HAN.out, HD.out]; rfl, HO3.out, HG3.out⟩
          case measure => (simp [intOf] <;> omega)
      · obtain rfl : k = n := by omega
        have hoS := HO.out
        have hfa := fillz_all S
        rw [HSL.out] at hfa
        rw [hfa] at hoS
        obtain ⟨D, hD⟩ : ∃ D, any1 S = D := ⟨_, rfl⟩
        have hD2 : any1 (S.take k) = D := by rw [List.take_of_length_le (by rw [HSL.out]; exact Nat.le_refl _)]; exact hD
        rw [hD2]
        have HOS := Lib.hid hoS
        have HD := Lib.hid hD
        have HRA := Lib.hid (HR1.out.kept HG.out)
        have HRB := Lib.hid (HR2.out.kept HG.out)
        clear hoS hfa hD hD2 HO HO0 HC1 HC2
        go_wp2_with fail
        refine (encode_yes _ k _ A wr HRA.out HAB.out (by omega) (by omega)).mono ?_
        rintro e w3 ⟨a3, e3, rfl, ho3, hg3⟩
        have HO3 := Lib.hid ho3
        have HG3 := Lib.hid hg3
        clear ho3 hg3
        go_wp2_with fail
        refine (encode_yes _ k _ B w3 (HRB.out.kept HG3.out) HBB.out (by omega) (by omega)).mono ?_
        rintro e w4 ⟨a4, e4, rfl, ho4, hg4⟩
        have HO4 := Lib.hid ho4
        have HG4 := Lib.hid hg4
        clear ho4 hg4
        go_wp2_with fail
        refine (encode_yes _ k _ S w4 ((HOS.out.rd.kept HG3.out).kept HG4.out) HSB.out (by omega) (by omega)).mono ?_
        rintro e w5 ⟨a5, e5, rfl, ho5, hg5⟩
        obtain ⟨b3, p3, rfl, -, hc3⟩ := ((HO3.out.rd.kept HG4.out).kept hg5).some (by omega)
        obtain ⟨b4, p4, rfl, -, hc4⟩ := (HO4.out.rd.kept hg5).some (by omega)
        obtain ⟨b5, p5, rfl, -, hc5⟩ := ho5.rd.some (by omega)
        obtain ⟨X, hX⟩ : ∃ X, enc A = X := ⟨_, rfl⟩
        obtain ⟨Y, hY⟩ : ∃ Y, enc B = Y := ⟨_, rfl⟩
        obtain ⟨Z, hZ⟩ : ∃ Z, enc S = Z := ⟨_, rfl⟩
        have hxl : X.length = 2 * (k + 2) := by rw [← hX, enc_len, HAL.out]
        have hyl : Y.length = 2 * (k + 2) := by rw [← hY, enc_len, HBL.out]
        have hzl : Z.length = 2 * (k + 2) := by rw [← hZ, enc_len, HSL.out]
        have hxb : isBits X := by rw [← hX]; exact encS_bits _ _
        have hyb : isBits Y := by rw [← hY]; exact encS_bits _ _
        have hzb : isBits Z := by rw [← hZ]; exact encS_bits _ _
        have hxyz : ∀ j, j < 2 * (k + 2) → (X[j]?.getD 0 + Y[j]?.getD 0) % 2 = Z[j]?.getD 0 := fun j hj => by
          rw [← hZ, ← HENC.out, hX, hY]; exact (sum2_get (by omega) (by omega)).symm
        have hwt : (5 ≤ wt Z ∨ (D = false ∧ wt Z = 0)) := by
          rw [← hZ, ← HD.out]
          cases h : any1 S
          · exact .inr ⟨rfl, wt_zero S HSB.out (any1_no h)⟩
          · exact .inl (wt5 S HSB.out (any1_yes h))
        rw [hX] at hc3
        rw [hY] at hc4
        rw [hZ] at hc5
        have HC3 := Lib.hid hc3
        have HC4 := Lib.hid hc4
        have HC5 := Lib.hid hc5
        have HXB := Lib.hid hxb
        have HYB := Lib.hid hyb
        have HZB := Lib.hid hzb
        have HZL := Lib.hid hzl
        have HXYZ := Lib.hid hxyz
        have HWT := Lib.hid hwt
        have HG5 := Lib.hid (HGQ.out.trans (HG.out.trans (HG3.out.trans (HG4.out.trans hg5))))
        clear hc3 hc4 hc5 hX hY hZ hxl hyl hzl hxb hyb hzb hxyz hwt ho5 hg5
        have hb1 : ((2 * ((k : Int) + 2)) != 2 * ((k : Int) + 2)) = false := by simp
        go_wp2_with fail
        go_loopw [17, 18] (fun t i wx => ∃ j : Nat, j ≤ 2 * (k + 2) ∧ i = .int .i64 j ∧ t = .int .i64 (wt (Z.take j)) ∧ Gr w5 wx) (fun _ i _ => 2 * (k + 2) - (intOf i).toNat)
        case atStart => exact ⟨0, by omega, rfl, rfl, Gr.refl _⟩
        case round =>
          obtain ⟨j, hj, rfl, rfl, hg⟩ := hrel
          have HGJ := Lib.hid hg
          clear hg
          by_cases hlt : j < 2 * (k + 2)
          · have hxy := HXYZ.out j hlt
            have hxb := bit_at HXB.out j
            have hyb := bit_at HYB.out j
            obtain ⟨x, hx⟩ : ∃ x, X[j]?.getD 0 = x := ⟨_, rfl⟩
            obtain ⟨y, hy⟩ : ∃ y, Y[j]?.getD 0 = y := ⟨_, rfl⟩
            obtain ⟨z, hz⟩ : ∃ z, Z[j]?.getD 0 = z := ⟨_, rfl⟩
            rw [hx, hy, hz] at hxy
            rw [hx] at hxb
            rw [hy] at hyb
            have q1 : ∀ u, Gr wr u → u.cell? ⟨b3, p3 + j, none⟩ = some (.int .i64 x) := fun u h => by rw [← hx]; exact (HGJ.out.trans h).cell (HC3.out j hlt)
            have q2 : ∀ u, Gr wr u → u.cell? ⟨b4, p4 + j, none⟩ = some (.int .i64 y) := fun u h => by rw [← hy]; exact (HGJ.out.trans h).cell (HC4.out j hlt)
            have q3 : ∀ u, Gr wr u → u.cell? ⟨b5, p5 + j, none⟩ = some (.int .i64 z) := fun u h => by rw [← hz]; exact (HGJ.out.trans h).cell (HC5.out j hlt)
            have hwt := wt_take Z j (by rw [HZL.out]; exact hlt)
            rw [hz] at hwt
            have hrn := wt_rng (Z.take j) (isBits_take HZB.out j)
            obtain ⟨V, hV⟩ : ∃ V, wt (Z.take j) = V := ⟨_, rfl⟩
            rw [hV] at hwt hrn
            rw [hV]
            have v1 := hrn.1
            have v2 : V ≤ 1000 := by have := hrn.2; have h3 : (Z.take j).length ≤ j := List.length_take_le _ _; omega
            have x1 : 0 ≤ x := by omega
            have x2 : x ≤ 1 := by omega
            have y1 : 0 ≤ y := by omega
            have y2 : y ≤ 1 := by omega
            have HWT2 := Lib.hid hwt
            have hzz : (z != (x + y) % 2) = false := by rw [hxy]; simp
            have z1 : 0 ≤ z := by omega
            have z2 : z ≤ 1 := by omega
            clear hwt hrn hV hx hy hz hxy hxb hyb
            go_wp2_with fail
            refine Sched.wp_region_sched 15 [] [] (by kernel_rfl) (by kernel_rfl) ?_
            simp only [List.take_succ_cons, List.take_zero, List.drop_succ_cons, List.drop_zero]
            repeat (first | (refine Sched.walk1_no rfl rfl (fun K hK => ?_); simp only [Act.put, List.setIfInBounds_toArray, List.set_cons_zero, List.set_cons_succ]; refine hK _ ?_; clear hK K) | (refine Sched.walk1_gr rfl rfl rfl (fun K hK => ?_); apply Exists.intro; refine ⟨fun w1 hw1 => ?_, ?_⟩; (focus (go_simp; (try go_ints); (try (simp only [IntWalk.iteOmega]; go_simp)); first | done | fail | (with_reducible rfl) | (with_reducible exact ⟨rfl, rfl⟩))); simp only [Act.put, List.setIfInBounds_toArray, List.set_cons_zero, List.set_cons_succ]; refine hK _ ?_; clear hK K) | (refine Sched.walk1_pure rfl rfl rfl (fun K hK => ?_); apply Exists.intro; refine ⟨fun w1 => ?_, ?_⟩; (focus (go_simp; (try go_ints); (try (simp only [IntWalk.iteOmega]; go_simp)); first | done | (with_reducible rfl) | (with_reducible exact ⟨rfl, rfl⟩))); simp only [Act.put, List.setIfInBounds_toArray, List.set_cons_zero, List.set_cons_succ]; refine hK _ ?_; clear hK K) | (refine Sched.walk1_box rfl rfl ?_; apply Exists.intro; refine ⟨fun w1 hw1 => ?_, ?_⟩; (focus (go_simp; exact ⟨Gr.alloc _ _, rfl, by simp, heap_alloc_new _ _⟩))))
            refine Sched.walk1_nil ?_
            intro wq hwq
            dsimp only [Sched.EndN, List.nil_append, List.cons_append, Act.put]
            (try simp only [List.setIfInBounds_toArray, List.set_cons_zero, List.set_cons_succ])
            repeat (first | (refine Sched.walk2_no rfl (fun K hK => ?_); simp only [Act.put, List.setIfInBounds_toArray, List.set_cons_zero, List.set_cons_succ]; refine hK _ ?_; clear hK K) | (refine Sched.walk2_go rfl (fun K hK => ?_); go_simp; (try go_ints); (try (simp only [IntWalk.iteOmega]; go_simp)); first | (refine hK _ _ ?_; clear hK K) | fail))
            refine Sched.walk2_nil ?_
            have q4 := q3 wq hwq
            have HGW := Lib.hid hwq
            clear q1 q2 q3 hwq
            go_wp2_with fail
            go_roundw
            case rel => exact ⟨j + 1, by omega, by go_num, by rw [HWT2.out], HGJ.out.trans HGW.out⟩
            case measure => (simp [intOf] <;> omega)
          · obtain rfl : j = 2 * (k + 2) := by omega
            have hw := HWT.out
            rw [List.take_of_length_le (by rw [HZL.out]; exact Nat.le_refl _)]
            obtain ⟨V, hV⟩ : ∃ V, wt Z = V := ⟨_, rfl⟩
            rw [hV] at hw
            rw [hV]
            have HGJ2 := Lib.hid (HG5.out.trans HGJ.out)
            clear hV HWT
            rcases hw with h5 | ⟨rfl, rfl⟩
            · have h5b : decide (5 ≤ V) = true := by simpa using h5
              go_wp2_with fail
              refine (awake28 _).mono ?_
              rintro e w9 ⟨rfl, hg9⟩
              have HG9 := Lib.hid hg9
              clear hg9
              go_wp2_with fail
              go_ret
              exact ⟨rfl, HGJ2.out.trans HG9.out⟩
            · go_wp2_with fail
              refine (awake28 _).mono ?_
              rintro e w9 ⟨rfl, hg9⟩
              have HG9 := Lib.hid hg9
              clear hg9
              go_wp2_with fail
              go_ret
              exact ⟨rfl, HGJ2.out.trans HG9.out⟩
set_option maxRecDepth 100000 in
theorem linear_no (a b : Option Addr) (la ca lb cb : Nat) (w : World) (h : la = 0 ∨ lb = 0) (hla : la ≤ 9223372036854775807) (hlb : lb ≤ 9223372036854775807) :
    Calls Try.prog 6 #[.slice a la ca, .slice b lb cb] w fun e w' => e = .returned (.bool true) ∧ Gr w w' := by
  have hn : min (min (la : Int) lb) 200 = (0 : Int) := by omega
  go_enter Try.func6, Try.ntmps6
  go_upto_region 1 with (fail)
  go_cut [5] from 19 (fun s wc => s = .int .i64 0 ∧ wc = w)
  case first =>
    go_wp2_with fail
    all_goals (go_meet; exact ⟨by congr 1; omega, rfl⟩)
  case rest =>
    obtain ⟨rfl, rfl⟩ := hcut
    clear hn h
    go_wp2_with fail
    refine (awake28 _).mono ?_
    rintro e w1 ⟨rfl, hg⟩
    have HG := Lib.hid hg
    clear hg
    go_wp2_with fail
    go_ret
    exact ⟨rfl, HG.out⟩
theorem linear_fit (a : Option Addr) (la ca : Nat) (es : List Bool) (b : Option Addr) (lb cb : Nat) (bs : List Bool) (w : World) (ha : RdB w a la es) (hca : la ≤ ca) (_hL : la ≤ 140737488351232) (hb : RdB w b lb bs) (hcb : lb ≤ cb) (_hL2 : lb ≤ 140737488351232) :
    Calls Try.prog 6 #[.slice a la ca, .slice b lb cb] w fun e w' => e = .returned (.bool true) ∧ Below w.heap.size w w' := by
  have key : Calls Try.prog 6 #[.slice a la ca, .slice b lb cb] w fun e w' => e = .returned (.bool true) ∧ Gr w w' := by
    by_cases h : la = 0 ∨ lb = 0
    · exact linear_no a b la ca lb cb w h (by omega) (by omega)
    · exact linear_walk a b la ca lb cb (min (min la lb) 200) es bs w ha hb hca hcb (by omega) (by omega)
  exact key.mono fun _ _ ⟨he, hg⟩ => ⟨he, Below.of_none hg⟩
end Go.Proofs.Ytbdbllagbifkgaa
