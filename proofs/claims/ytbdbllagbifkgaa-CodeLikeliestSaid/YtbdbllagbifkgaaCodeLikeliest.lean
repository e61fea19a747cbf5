/- The law CodeLikeliest: its walk. -/
import Derived.Test.YtbdbllagbifkgaaCodeShorter
import Derived.Test.YtbdbllagbifkgaaLinPlain
import Derived.Test.YtbdbllagbifkgaaNews
import Derived.Deep.Cut
namespace Go.Proofs.Ytbdbllagbifkgaa
open Go.ChangeShapes Go.WideShapes Go.ChangeAt Go.RowKit
open Cod

theorem score_snoc1 : ∀ (A C : List Int) (a c : Int), A.length = C.length → score (A ++ [a]) (C ++ [c]) = score A C + a * (1 - 2 * c)
  | [], [], a, c, _ => by simp [score]
  | x :: A, y :: C, a, c, h => by
    simp only [List.cons_append, score, score_snoc1 A C a c (by simpa using h)]
    omega
theorem score_take (A C : List Int) (j : Nat) (h1 : j < A.length) (h2 : j < C.length) : score (A.take (j + 1)) (C.take (j + 1)) = score (A.take j) (C.take j) + A[j]?.getD 0 * (1 - 2 * C[j]?.getD 0) := by
  rw [take_snoc1 A j h1, take_snoc1 C j h2]
  exact score_snoc1 _ _ _ _ (by simp; omega)
theorem score_hi : ∀ (r c : List Int), softOk r → isBits c → score r c ≤ 127 * (r.length : Int)
  | [], c, _, _ => by rw [score_nil]; simp
  | a :: r, [], _, _ => by simp only [score, List.length_cons]; omega
  | a :: r, x :: c, hr, hc => by
    have ha := hr a (by simp)
    obtain ⟨hx, hc⟩ := hc.cons
    have ih := score_hi r c (fun y hy => hr y (by simp [hy])) hc
    simp only [score, List.length_cons]
    rw [mul_sign hx]
    split <;> (push_cast; omega)
theorem softOk_take {l : List Int} (h : softOk l) (k : Nat) : softOk (l.take k) := fun x hx => h x (List.mem_of_mem_take hx)
set_option maxHeartbeats 1000000 in
theorem likeness28 (a : Option Addr) (len ca : Nat) (b : Option Addr) (cb : Nat) (A C : List Int) (w : World) (ha : Rd .i64 w a len A) (hb : Rd .i64 w b len C) (hs : softOk A) (hc : isBits C) (hL : len ≤ 1000000) :
    Calls Try.prog 17 #[.slice a len ca, .slice b len cb] w fun e w' => e = .returned (.int .i64 (score A C)) ∧ Gr w w' := by
  have HA := Lib.hid ha
  have HB := Lib.hid hb
  have HAL := Lib.hid ha.1
  have HCL := Lib.hid hb.1
  have HS := Lib.hid hs
  have HC := Lib.hid hc
  clear ha hb hs hc
  go_enter Try.func17, Try.ntmps17
  go_wp2_with fail
  go_loopw [5, 6] (fun t i wr => ∃ j : Nat, j ≤ len ∧ i = .int .i64 j ∧ t = .int .i64 (score (A.take j) (C.take j)) ∧ Gr w wr) (fun _ i _ => len - (intOf i).toNat)
  case atStart => exact ⟨0, by omega, rfl, rfl, Gr.refl _⟩
  case round =>
    obtain ⟨j, hj, rfl, rfl, hg⟩ := hrel
    have HG := Lib.hid hg
    clear hg
    have t1 := score_lo (A.take j) (C.take j) (softOk_take HS.out j) (isBits_take HC.out j)
    have t2 := score_hi (A.take j) (C.take j) (softOk_take HS.out j) (isBits_take HC.out j)
    have t3 : (A.take j).length ≤ j := List.length_take_le _ _
    obtain ⟨t, ht⟩ : ∃ t, score (A.take j) (C.take j) = t := ⟨_, rfl⟩
    rw [ht] at t1 t2
    have t4 : -127000000 ≤ t := by omega
    have t5 : t ≤ 127000000 := by omega
    clear t1 t2 t3
    by_cases hlt : j < len
    · obtain ⟨b1, o1, e1, -, hc1⟩ := HA.out.some (by omega)
      subst e1
      obtain ⟨b2, o2, e2, -, hc2⟩ := HB.out.some (by omega)
      subst e2
      have hx := HS.out (A[j]?.getD 0) (by have := HAL.out; rw [List.getElem?_eq_getElem (by omega)]; exact List.getElem_mem _)
      have hy := bit_at HC.out j
      obtain ⟨x, hxx⟩ : ∃ x, A[j]?.getD 0 = x := ⟨_, rfl⟩
      obtain ⟨y, hyy⟩ : ∃ y, C[j]?.getD 0 = y := ⟨_, rfl⟩
      have q1 : ∀ u, Gr wr u → u.cell? ⟨b1, o1 + j, none⟩ = some (.int .i64 x) := fun u h => by rw [← hxx]; exact (HG.out.trans h).cell (hc1 j hlt)
      have q2 : ∀ u, Gr wr u → u.cell? ⟨b2, o2 + j, none⟩ = some (.int .i64 y) := fun u h => by rw [← hyy]; exact (HG.out.trans h).cell (hc2 j hlt)
      rw [hxx] at hx
      rw [hyy] at hy
      obtain ⟨x1, x2⟩ := hx
      have HX := Lib.hid hxx
      have HY := Lib.hid hyy
      have HT := Lib.hid ht
      rw [ht]
      clear hxx hyy ht hc1 hc2
      rcases hy with rfl | rfl
      · have hst := score_take A C j (by rw [HAL.out]; exact hlt) (by rw [HCL.out]; exact hlt)
        rw [HX.out, HY.out] at hst
        rw [HT.out] at hst
        have HST := Lib.hid hst
        clear hst
        go_wp2_with fail
        refine Sched.wp_region_sched 13 [] [] (by kernel_rfl) (by kernel_rfl) ?_
        simp only [List.take_succ_cons, List.take_zero, List.drop_succ_cons, List.drop_zero]
        repeat (first | (refine Sched.walk1_no rfl rfl (fun K hK => ?_); simp only [Act.put, List.setIfInBounds_toArray, List.set_cons_zero, List.set_cons_succ]; refine hK _ ?_; clear hK K) | (refine Sched.walk1_gr rfl rfl rfl (fun K hK => ?_); apply Exists.intro; refine ⟨fun w1 hw1 => ?_, ?_⟩; (focus (go_simp; (try go_ints); (try (simp only [IntWalk.iteOmega]; go_simp)); first | done | fail | (with_reducible rfl) | (with_reducible exact ⟨rfl, rfl⟩))); simp only [Act.put, List.setIfInBounds_toArray, List.set_cons_zero, List.set_cons_succ]; refine hK _ ?_; clear hK K) | (refine Sched.walk1_pure rfl rfl rfl (fun K hK => ?_); apply Exists.intro; refine ⟨fun w1 => ?_, ?_⟩; (focus (go_simp; (try go_ints); (try (simp only [IntWalk.iteOmega]; go_simp)); first | done | (with_reducible rfl) | (with_reducible exact ⟨rfl, rfl⟩))); simp only [Act.put, List.setIfInBounds_toArray, List.set_cons_zero, List.set_cons_succ]; refine hK _ ?_; clear hK K) | (refine Sched.walk1_box rfl rfl ?_; apply Exists.intro; refine ⟨fun w1 hw1 => ?_, ?_⟩; (focus (go_simp; exact ⟨Gr.alloc _ _, rfl, by simp, heap_alloc_new _ _⟩))))
        refine Sched.walk1_nil ?_
        intro wq hwq
        dsimp only [Sched.EndN, List.nil_append, List.cons_append, Act.put]
        (try simp only [List.setIfInBounds_toArray, List.set_cons_zero, List.set_cons_succ])
        repeat (first | (refine Sched.walk2_no rfl (fun K hK => ?_); simp only [Act.put, List.setIfInBounds_toArray, List.set_cons_zero, List.set_cons_succ]; refine hK _ ?_; clear hK K) | (refine Sched.walk2_go rfl (fun K hK => ?_); go_simp; (try go_ints); (try (simp only [IntWalk.iteOmega]; go_simp)); first | (refine hK _ _ ?_; clear hK K) | fail))
        refine Sched.walk2_nil ?_
        have HW := Lib.hid hwq
        clear q1 q2 hwq
        go_wp2_with fail
        go_roundw
        case rel => exact ⟨j + 1, by omega, by go_num, by rw [HST.out]; congr 1; omega, HG.out.trans HW.out⟩
        case measure => (simp [intOf] <;> omega)
      · have hst := score_take A C j (by rw [HAL.out]; exact hlt) (by rw [HCL.out]; exact hlt)
        rw [HX.out, HY.out] at hst
        rw [HT.out] at hst
        have HST := Lib.hid hst
        clear hst
        go_wp2_with fail
        refine Sched.wp_region_sched 13 [] [] (by kernel_rfl) (by kernel_rfl) ?_
        simp only [List.take_succ_cons, List.take_zero, List.drop_succ_cons, List.drop_zero]
        repeat (first | (refine Sched.walk1_no rfl rfl (fun K hK => ?_); simp only [Act.put, List.setIfInBounds_toArray, List.set_cons_zero, List.set_cons_succ]; refine hK _ ?_; clear hK K) | (refine Sched.walk1_gr rfl rfl rfl (fun K hK => ?_); apply Exists.intro; refine ⟨fun w1 hw1 => ?_, ?_⟩; (focus (go_simp; (try go_ints); (try (simp only [IntWalk.iteOmega]; go_simp)); first | done | fail | (with_reducible rfl) | (with_reducible exact ⟨rfl, rfl⟩))); simp only [Act.put, List.setIfInBounds_toArray, List.set_cons_zero, List.set_cons_succ]; refine hK _ ?_; clear hK K) | (refine Sched.walk1_pure rfl rfl rfl (fun K hK => ?_); apply Exists.intro; refine ⟨fun w1 => ?_, ?_⟩; (focus (go_simp; (try go_ints); (try (simp only [IntWalk.iteOmega]; go_simp)); first | done | (with_reducible rfl) | (with_reducible exact ⟨rfl, rfl⟩))); simp only [Act.put, List.setIfInBounds_toArray, List.set_cons_zero, List.set_cons_succ]; refine hK _ ?_; clear hK K) | (refine Sched.walk1_box rfl rfl ?_; apply Exists.intro; refine ⟨fun w1 hw1 => ?_, ?_⟩; (focus (go_simp; exact ⟨Gr.alloc _ _, rfl, by simp, heap_alloc_new _ _⟩))))
        refine Sched.walk1_nil ?_
        intro wq hwq
        dsimp only [Sched.EndN, List.nil_append, List.cons_append, Act.put]
        (try simp only [List.setIfInBounds_toArray, List.set_cons_zero, List.set_cons_succ])
        repeat (first | (refine Sched.walk2_no rfl (fun K hK => ?_); simp only [Act.put, List.setIfInBounds_toArray, List.set_cons_zero, List.set_cons_succ]; refine hK _ ?_; clear hK K) | (refine Sched.walk2_go rfl (fun K hK => ?_); go_simp; (try go_ints); (try (simp only [IntWalk.iteOmega]; go_simp)); first | (refine hK _ _ ?_; clear hK K) | fail))
        refine Sched.walk2_nil ?_
        have HW := Lib.hid hwq
        clear q1 q2 hwq
        go_wp2_with fail
        go_roundw
        case rel => exact ⟨j + 1, by omega, by go_num, by rw [HST.out]; congr 1; omega, HG.out.trans HW.out⟩
        case measure => (simp [intOf] <;> omega)
    · obtain rfl : j = len := by omega
      rw [List.take_of_length_le (by rw [HAL.out]; exact Nat.le_refl _), List.take_of_length_le (by rw [HCL.out]; exact Nat.le_refl _)]
      clear ht
      go_wp2_with fail
      go_ret
      exact ⟨rfl, HG.out⟩

def mx (z : Int) : Int := if -127 < z then z else -127
def softV (zs : List Int) (N : Nat) : List Int := (List.range N).map fun i => if i < zs.length then mx (zs[i]?.getD 0) else 0
theorem softV_len (zs : List Int) (N : Nat) : (softV zs N).length = N := by simp [softV]
theorem softV_at (zs : List Int) (N i : Nat) (h : i < N) : (softV zs N)[i]?.getD 0 = if i < zs.length then mx (zs[i]?.getD 0) else 0 := by
  unfold softV
  rw [List.getElem?_map, List.getElem?_range h]
  rfl
theorem softV_ok {zs : List Int} (N : Nat) (h : ∀ z ∈ zs, -128 ≤ z ∧ z ≤ 127) : softOk (softV zs N) := by
  intro x hx
  simp only [softV, List.mem_map, List.mem_range] at hx
  obtain ⟨i, hi, rfl⟩ := hx
  split
  · rename_i hl
    have := h (zs[i]?.getD 0) (by rw [List.getElem?_eq_getElem hl]; exact List.getElem_mem _)
    unfold mx; split <;> omega
  · omega
theorem fillz_end {L : List Int} {k : Nat} (hk : k ≤ L.length) (h : ∀ i, k ≤ i → i < L.length → L[i]?.getD 0 = 0) : fillz L k = L := by
  unfold fillz
  apply List.ext_getElem?
  intro i
  by_cases h1 : i < k
  · rw [List.getElem?_append_left (by simp; omega), List.getElem?_take_of_lt h1]
  · rw [List.getElem?_append_right (by simp; omega)]
    have e : (L.take k).length = k := by simp; omega
    rw [e]
    by_cases h2 : i < L.length
    · rw [List.getElem?_replicate, if_pos (by omega)]
      have := h i (by omega) h2
      rw [List.getElem?_eq_getElem h2] at this ⊢
      simp at this; rw [this]
    · rw [List.getElem?_eq_none (by simp; omega), List.getElem?_eq_none (by omega)]
def LRel (w0 : World) (g N ls : Nat) (V : List Int) (i : Value) (wr : World) : Prop := ∃ k : Nat, k ≤ N ∧ k ≤ ls ∧ i = .int .i64 k ∧ OwnI w0.heap.size 3 .i64 wr (some ⟨g, 0, none⟩) N N (fillz V k) ∧ Gr w0 wr
def EqRel (n : Nat) (D O : List Int) (w5 : World) (i : Value) (wr : World) : Prop := ∃ k : Nat, k ≤ n ∧ i = .int .i64 k ∧ (∀ j : Nat, j < k → D[j]? = O[j]?) ∧ Gr w5 wr
theorem best_is {n : Nat} {V O : List Int} (hV : V.length = 2 * (n + 2)) (hso : softOk V) (hn : n ≤ 1000) (hO : O.length = n) (hb : isBits O) :
    score V (enc O) ≤ score V (enc (dec n V 0)) ∧ (score V (enc (dec n V 0)) = score V (enc O) → ∀ (k : Nat) (x y : Int), (dec n V 0)[k]? = some x → O[k]? = some y → (∀ j : Nat, j < k → (dec n V 0)[j]? = O[j]?) → x ≠ y → x < y) := by
  have h1 := dec_score n V 0 hV hso (.inl rfl) (by omega)
  have h2 := best_ge O V 0 (by rw [hO]; exact hV) hb (.inl rfl)
  rw [hO] at h2
  unfold enc
  refine ⟨by omega, fun he => ?_⟩
  have h3 := dec_first O V 0 (by rw [hO]; exact hV) hso (.inl rfl) (by omega) hb (by rw [hO]; omega)
  rw [hO] at h3
  exact h3
set_option maxRecDepth 100000 in
set_option maxHeartbeats 2000000 in
theorem likeliest_walk (as1 : Option Addr) (ls cs : Nat) (zs : List Int) (a : Option Addr) (n cap : Nat) (bs : List Bool) (w : World) (hs : Rd .i8 w as1 ls zs) (hr : RdB w a n bs) (h1 : 1 ≤ n) (h2 : n ≤ 60) :
    Calls Try.prog 4 #[.slice as1 ls cs, .slice a n cap] w fun e w' => e = .returned (.bool true) ∧ Gr w w' := by
  have hls : ls ≤ 9223372036854775807 := by have := hs.2.2.1; simp only [maxLen] at this; omega
  have hzb : ∀ z ∈ zs, -128 ≤ z ∧ z ≤ 127 := fun z hz => bounds_i8 (hs.2.1 z hz)
  have hmk : ∀ u : World, (Instr.makeSlice 24 (.int .i64 (2 * ((n : Int) + 2))) (.int .i64 (2 * ((n : Int) + 2)))).run Try.prog u = .ok (.slice (some ⟨u.heap.size, 0, none⟩) (2 * (n + 2)) (2 * (n + 2))) (u.alloc (.cells (Array.replicate (2 * (n + 2)) (.int .i64 0)) 3)) := fun u => by
    have := make_ints (2 * (n + 2)) (by omega) u
    push_cast at this
    exact this
  obtain ⟨V, hV⟩ : ∃ V, softV zs (2 * (n + 2)) = V := ⟨_, rfl⟩
  have hVl : V.length = 2 * (n + 2) := by rw [← hV]; exact softV_len _ _
  have hVa : ∀ i, i < 2 * (n + 2) → V[i]?.getD 0 = if i < ls then mx (zs[i]?.getD 0) else 0 := fun i hi => by rw [← hV, softV_at _ _ _ hi, hs.1]
  have hVo : softOk V := by rw [← hV]; exact softV_ok _ hzb
  have HZB := Lib.hid hzb
  have HVL := Lib.hid hVl
  have HVA := Lib.hid hVa
  have HVO := Lib.hid hVo
  have HR := Lib.hid hr
  have HL := Lib.hid hr.1
  have HS := Lib.hid hs
  clear hr hs hV hVl hVa hVo hzb
  go_enter Try.func4, Try.ntmps4
  go_wp2_with fail
  obtain ⟨w1, hw1⟩ : ∃ y, y = w.alloc (.cells (Array.replicate (2 * (n + 2)) (.int .i64 0)) 3) := ⟨_, rfl⟩
  have ho0 := own_made w.heap.size (2 * (n + 2)) w (Nat.le_refl _) (by simp only [maxLen]; omega)
  rw [← hw1] at ho0
  rw [← hw1]
  have HG1 := Lib.hid (show Gr w w1 by rw [hw1]; exact Gr.alloc _ _)
  have HO0 := Lib.hid (show OwnI w.heap.size 3 .i64 w1 (some ⟨w.heap.size, 0, none⟩) (2 * (n + 2)) (2 * (n + 2)) (fillz V 0) by rw [fillz_zero, HVL.out]; exact ho0)
  clear hw1 ho0 hmk
  go_loopw [7] (fun i wr => LRel w w.heap.size (2 * (n + 2)) ls V i wr) (fun i _ => 2 * (n + 2) - (intOf i).toNat)
  case atStart => exact ⟨0, by omega, by omega, rfl, HO0.out, HG1.out⟩
  case round =>
    clear HO0 HG1
    obtain ⟨k, hk, hk2, rfl, ho, hg⟩ := hrel
    have HO := Lib.hid ho
    have HG := Lib.hid hg
    clear ho hg
    by_cases hlt : k < 2 * (n + 2)
    · by_cases hlt2 : k < ls
      · obtain ⟨b1, o1, e1, -, hc1⟩ := HS.out.some (by omega)
        subst e1
        have hv := HVA.out k hlt
        rw [if_pos hlt2] at hv
        have hz := HZB.out (zs[k]?.getD 0) (by have := HS.out.1; rw [List.getElem?_eq_getElem (by omega)]; exact List.getElem_mem _)
        have ck := HG.out.cell (hc1 k hlt2)
        obtain ⟨z, hzz⟩ : ∃ z, zs[k]?.getD 0 = z := ⟨_, rfl⟩
        rw [hzz] at hv hz ck
        have hst := fillz_step (L := V) (k := k) (by rw [HVL.out]; exact hlt)
        rw [hv] at hst
        obtain ⟨z1, z2⟩ := hz
        obtain ⟨c3, f3⟩ := HO.out.at k hlt
        have HST := Lib.hid hst
        clear hv hzz hst hc1
        by_cases hz3 : -127 < z
        · have hm : mx z = z := by unfold mx; rw [if_pos hz3]
          have HM := Lib.hid hm
          clear hm
          go_wp2_with fail
          go_roundw
          case rel => exact ⟨k + 1, by omega, by omega, by go_num, by rw [HST.out, HM.out]; exact HO.out.set k z (WalkArith.wf_i64 (by constructor <;> omega)), grown_set HG.out (a := ⟨w.heap.size, k, none⟩) (Nat.le_refl _) _⟩
          case measure => (simp [intOf] <;> omega)
        · have hm : mx z = -127 := by unfold mx; rw [if_neg hz3]
          have HM := Lib.hid hm
          clear hm
          go_wp2_with fail
          go_roundw
          case rel => exact ⟨k + 1, by omega, by omega, by go_num, by rw [HST.out, HM.out]; exact HO.out.set k (-127) (by decide), grown_set HG.out (a := ⟨w.heap.size, k, none⟩) (Nat.le_refl _) _⟩
          case measure => (simp [intOf] <;> omega)
      · obtain rfl : k = ls := by omega
        have hoV := HO.out
        have hfe : fillz V k = V := fillz_end (by rw [HVL.out]; omega) fun i h1 h2 => by
          have h3 : i < 2 * (n + 2) := by rw [HVL.out] at h2; exact h2
          rw [HVA.out i h3, if_neg (by omega)]
        rw [hfe] at hoV
        have HOV := Lib.hid hoV
        clear hoV hfe
        go_wp2_with fail
        refine (bits28 a n cap bs wr (HR.out.kept HG.out) (by omega)).mono ?_
        rintro e w2 ⟨g2, rfl, ho2, hg2⟩
        obtain ⟨O, hO⟩ : ∃ O, bs.map bi = O := ⟨_, rfl⟩
        have hOl : O.length = n := by rw [← hO, List.length_map, HL.out]
        have hOb : isBits O := by rw [← hO]; exact bi_bits bs
        rw [hO] at ho2
        have hbi := best_is HVL.out HVO.out (n := n) (by omega) hOl hOb
        obtain ⟨D, hD⟩ : ∃ D, dec n V 0 = D := ⟨_, rfl⟩
        have hDl : D.length = n := by rw [← hD]; exact dec_len n V 0 HVL.out
        have hDb : isBits D := by rw [← hD]; exact dec_bits n V 0
        rw [hD] at hbi
        obtain ⟨x, hx⟩ : ∃ x, score V (enc D) = x := ⟨_, rfl⟩
        obtain ⟨y, hy⟩ : ∃ y, score V (enc O) = y := ⟨_, rfl⟩
        rw [hx, hy] at hbi
        obtain ⟨hxy, hfirst⟩ := hbi
        have HO2 := Lib.hid ho2.rd
        have HG2 := Lib.hid (HG.out.trans hg2)
        have HOV2 := Lib.hid (HOV.out.rd.kept hg2)
        have hcapV := own_le_cap HOV.out
        have HOL := Lib.hid hOl
        have HOB := Lib.hid hOb
        have HD := Lib.hid hD
        have HDL := Lib.hid hDl
        have HDB := Lib.hid hDb
        have HX := Lib.hid hx
        have HY := Lib.hid hy
        have HFI := Lib.hid hfirst
        clear ho2 hg2 hO hOl hOb hD hDl hDb hx hy hfirst HOV HO
        go_wp2_with fail
        refine (decode_yes _ n _ V w2 HOV2.out HVO.out h1 (by omega) hcapV).mono ?_
        rintro e w3 ⟨a3, c3, rfl, hr3, hg3⟩
        rw [HD.out] at hr3
        have HR3 := Lib.hid hr3
        have HG3 := Lib.hid hg3
        clear hr3 hg3
        go_wp2_with fail
        refine (encode_yes _ n _ D w3 HR3.out HDB.out (by omega) (by omega)).mono ?_
        rintro e w4 ⟨a4, c4, rfl, ho4, hg4⟩
        have HO4 := Lib.hid ho4.rd
        have HG4 := Lib.hid hg4
        clear ho4 hg4
        go_wp2_with fail
        refine (encode_yes _ n _ O w4 (HO2.out.kept (HG3.out.trans HG4.out)) HOB.out (by omega) (by omega)).mono ?_
        rintro e w5 ⟨a5, c5, rfl, ho5, hg5⟩
        have HO5 := Lib.hid ho5.rd
        have HG5 := Lib.hid hg5
        clear ho5 hg5
        have hb1 : ((2 * ((n : Int) + 2)) != 2 * ((n : Int) + 2)) = false := by simp
        go_wp2_with fail
        refine (likeness28 _ _ _ _ _ V (enc D) w5 ((HOV2.out.kept HG3.out).kept (HG4.out.trans HG5.out)) (HO4.out.kept HG5.out) HVO.out (encS_bits _ _) (by omega)).mono ?_
        rw [HX.out]
        rintro e w6 ⟨rfl, hg6⟩
        have HG6 := Lib.hid hg6
        clear hg6
        go_wp2_with fail
        refine (likeness28 _ _ _ _ _ V (enc O) w6 (((HOV2.out.kept HG3.out).kept (HG4.out.trans HG5.out)).kept HG6.out) (HO5.out.kept HG6.out) HVO.out (encS_bits _ _) (by omega)).mono ?_
        rw [HY.out]
        rintro e w7 ⟨rfl, hg7⟩
        have HG7 := Lib.hid (HG2.out.trans (HG3.out.trans (HG4.out.trans (HG5.out.trans (HG6.out.trans hg7)))))
        have hg37 : Gr w3 w7 := HG4.out.trans (HG5.out.trans (HG6.out.trans hg7))
        obtain ⟨b8, p8, rfl, -, hc8⟩ := (HR3.out.kept hg37).some (by omega)
        obtain ⟨b9, p9, e9, -, hc9'⟩ := (HO2.out.kept (HG3.out.trans hg37)).some (by omega)
        obtain ⟨rfl, rfl⟩ : b9 = g2 ∧ p9 = 0 := by injection e9 with e; injection e with e1 e2; exact ⟨e1.symm, e2.symm⟩
        have hc9 : ∀ i, i < n → w7.cell? ⟨b9, i, none⟩ = some (.int .i64 (O[i]?.getD 0)) := fun i hi => by have := hc9' i hi; rwa [Nat.zero_add] at this
        clear e9 hc9'
        have HC8 := Lib.hid hc8
        have HC9 := Lib.hid hc9
        clear hg7 hg37 hc8 hc9 hb1
        have hxl : decide (x < y) = false := by simp; omega
        go_wp2_with fail
        clear hxl
        go_loopw [17] (fun i wr => EqRel n D O w7 i wr) (fun i _ => n - (intOf i).toNat)
        case atStart => exact ⟨0, by omega, rfl, fun j hj => by omega, Gr.refl _⟩
        case round =>
          obtain ⟨q, hq, rfl, heq, hg⟩ := hrel
          have HEQ := Lib.hid heq
          have HGQ := Lib.hid hg
          clear heq hg
          by_cases hlq : q < n
          · by_cases hxe : x = y
            · have hxb : (x == y) = true := by simpa using hxe
              have HXE := Lib.hid hxe
              clear hxe
              have hdq : D[q]? = some (D[q]?.getD 0) := by rw [List.getElem?_eq_getElem (by rw [HDL.out]; exact hlq)]; rfl
              have hoq : O[q]? = some (O[q]?.getD 0) := by rw [List.getElem?_eq_getElem (by rw [HOL.out]; exact hlq)]; rfl
              obtain ⟨u, hu⟩ : ∃ u, D[q]?.getD 0 = u := ⟨_, rfl⟩
              obtain ⟨v, hv⟩ : ∃ v, O[q]?.getD 0 = v := ⟨_, rfl⟩
              have q1 : ∀ z, Gr wr z → z.cell? ⟨b8, p8 + q, none⟩ = some (.int .i64 u) := fun z h => by rw [← hu]; exact (HGQ.out.trans h).cell (HC8.out q hlq)
              have q2 : ∀ z, Gr wr z → z.cell? ⟨b9, q, none⟩ = some (.int .i64 v) := fun z h => by rw [← hv]; exact (HGQ.out.trans h).cell (HC9.out q hlq)
              rw [hu] at hdq
              rw [hv] at hoq
              have HDQ := Lib.hid hdq
              have HOQ := Lib.hid hoq
              have HQ1 := Lib.hid q1
              have HQ2 := Lib.hid q2
              clear hu hv hdq hoq
              go_wp2_with fail
              refine Sched.wp_region_sched 9 [] [] (by kernel_rfl) (by kernel_rfl) ?_
              simp only [List.take_succ_cons, List.take_zero, List.drop_succ_cons, List.drop_zero]
              repeat (first | (refine Sched.walk1_no rfl rfl (fun K hK => ?_); simp only [Act.put, List.setIfInBounds_toArray, List.set_cons_zero, List.set_cons_succ]; refine hK _ ?_; clear hK K) | (refine Sched.walk1_gr rfl rfl rfl (fun K hK => ?_); apply Exists.intro; refine ⟨fun w1 hw1 => ?_, ?_⟩; (focus (go_simp; (try go_ints); (try (simp only [IntWalk.iteOmega]; go_simp)); first | done | fail | (with_reducible rfl) | (with_reducible exact ⟨rfl, rfl⟩))); simp only [Act.put, List.setIfInBounds_toArray, List.set_cons_zero, List.set_cons_succ]; refine hK _ ?_; clear hK K) | (refine Sched.walk1_pure rfl rfl rfl (fun K hK => ?_); apply Exists.intro; refine ⟨fun w1 => ?_, ?_⟩; (focus (go_simp; (try go_ints); (try (simp only [IntWalk.iteOmega]; go_simp)); first | done | (with_reducible rfl) | (with_reducible exact ⟨rfl, rfl⟩))); simp only [Act.put, List.setIfInBounds_toArray, List.set_cons_zero, List.set_cons_succ]; refine hK _ ?_; clear hK K) | (refine Sched.walk1_box rfl rfl ?_; apply Exists.intro; refine ⟨fun w1 hw1 => ?_, ?_⟩; (focus (go_simp; exact ⟨Gr.alloc _ _, rfl, by simp, heap_alloc_new _ _⟩))))
              refine Sched.walk1_nil ?_
              intro wq hwq
              dsimp only [Sched.EndN, List.nil_append, List.cons_append, Act.put]
              (try simp only [List.setIfInBounds_toArray, List.set_cons_zero, List.set_cons_succ])
              repeat (first | (refine Sched.walk2_no rfl (fun K hK => ?_); simp only [Act.put, List.setIfInBounds_toArray, List.set_cons_zero, List.set_cons_succ]; refine hK _ ?_; clear hK K) | (refine Sched.walk2_go rfl (fun K hK => ?_); go_simp; (try go_ints); (try (simp only [IntWalk.iteOmega]; go_simp)); first | (refine hK _ _ ?_; clear hK K) | fail))
              refine Sched.walk2_nil ?_
              have HW := Lib.hid hwq
              clear q1 q2 hwq
              by_cases huv : u = v
              · have hue : (u != v) = false := by simpa using huv
                have HUE := Lib.hid huv
                clear huv
                go_wp2_with fail
                go_roundw
                case rel => exact ⟨q + 1, by omega, by go_num, fun j hj => by
                  by_cases hjq : j < q
                  · exact HEQ.out j hjq
                  · obtain rfl : j = q := by omega
                    rw [HDQ.out, HOQ.out, HUE.out], HGQ.out.trans HW.out⟩
                case measure => (simp [intOf] <;> omega)
              · have hlt3 := HFI.out HXE.out q u v HDQ.out HOQ.out HEQ.out huv
                have hne : (u != v) = true := by simpa using huv
                have q1 : ∀ z, Gr wq z → z.cell? ⟨b8, p8 + q, none⟩ = some (.int .i64 u) := fun z h => HQ1.out z (HW.out.trans h)
                have q2 : ∀ z, Gr wq z → z.cell? ⟨b9, q, none⟩ = some (.int .i64 v) := fun z h => HQ2.out z (HW.out.trans h)
                have HWS := Lib.hid (HG7.out.trans (HGQ.out.trans HW.out))
                clear huv
                go_wp2_with fail
                clear hne
                obtain ⟨wz, rfl⟩ : ∃ wz : World, wz = wq := ⟨_, rfl⟩
                refine Sched.wp_region_sched 12 [] [] (by kernel_rfl) (by kernel_rfl) ?_
                simp only [List.take_succ_cons, List.take_zero, List.drop_succ_cons, List.drop_zero]
                repeat (first | (refine Sched.walk1_no rfl rfl (fun K hK => ?_); simp only [Act.put, List.setIfInBounds_toArray, List.set_cons_zero, List.set_cons_succ]; refine hK _ ?_; clear hK K) | (refine Sched.walk1_gr rfl rfl rfl (fun K hK => ?_); apply Exists.intro; refine ⟨fun w1 hw1 => ?_, ?_⟩; (focus (go_simp; (try go_ints); (try (simp only [IntWalk.iteOmega]; go_simp)); first | done | (go_at_call 11; (with_reducible exact awake28 _)) | (with_reducible rfl) | (with_reducible exact ⟨rfl, rfl⟩))); simp only [Act.put, List.setIfInBounds_toArray, List.set_cons_zero, List.set_cons_succ]; refine hK _ ?_; clear hK K) | (refine Sched.walk1_pure rfl rfl rfl (fun K hK => ?_); apply Exists.intro; refine ⟨fun w1 => ?_, ?_⟩; (focus (go_simp; (try go_ints); (try (simp only [IntWalk.iteOmega]; go_simp)); first | done | (with_reducible rfl) | (with_reducible exact ⟨rfl, rfl⟩))); simp only [Act.put, List.setIfInBounds_toArray, List.set_cons_zero, List.set_cons_succ]; refine hK _ ?_; clear hK K) | (refine Sched.walk1_box rfl rfl ?_; apply Exists.intro; refine ⟨fun w1 hw1 => ?_, ?_⟩; (focus (go_simp; exact ⟨Gr.alloc _ _, rfl, by simp, heap_alloc_new _ _⟩))))
                refine Sched.walk1_nil ?_
                intro wq hwq
                dsimp only [Sched.EndN, List.nil_append, List.cons_append, Act.put]
                (try simp only [List.setIfInBounds_toArray, List.set_cons_zero, List.set_cons_succ])
                repeat (first | (refine Sched.walk2_no rfl (fun K hK => ?_); simp only [Act.put, List.setIfInBounds_toArray, List.set_cons_zero, List.set_cons_succ]; refine hK _ ?_; clear hK K) | (refine Sched.walk2_go rfl (fun K hK => ?_); go_simp; (try go_ints); (try (simp only [IntWalk.iteOmega]; go_simp)); first | (refine hK _ _ ?_; clear hK K) | fail))
                refine Sched.walk2_nil ?_
                have HW2 := Lib.hid hwq
                clear q1 q2 hwq
                go_wp2_with fail
                go_ret
                exact ⟨rfl, HWS.out.trans HW2.out⟩
            · have hxb : (x == y) = false := by simpa using hxe
              go_wp2_with fail
              refine (awake28 _).mono ?_
              rintro e w9 ⟨rfl, hg9⟩
              have HG9 := Lib.hid hg9
              clear hg9
              go_wp2_with fail
              go_ret
              exact ⟨rfl, HG7.out.trans (HGQ.out.trans HG9.out)⟩
          · obtain rfl : q = n := by omega
            go_wp2_with fail
            refine (awake28 _).mono ?_
            rintro e w9 ⟨rfl, hg9⟩
            have HG9 := Lib.hid hg9
            clear hg9
            go_wp2_with fail
            go_ret
            exact ⟨rfl, HG7.out.trans (HGQ.out.trans HG9.out)⟩
    · obtain rfl : k = 2 * (n + 2) := by omega
      have hoV := HO.out
      have hfe : fillz V (2 * (n + 2)) = V := fillz_end (by rw [HVL.out]; omega) fun i h1 h2 => by
        have h3 : i < 2 * (n + 2) := by rw [HVL.out] at h2; exact h2
        rw [HVA.out i h3, if_neg (by omega)]
      rw [hfe] at hoV
      have HOV := Lib.hid hoV
      clear hoV hfe
      go_wp2_with fail
      refine (bits28 a n cap bs wr (HR.out.kept HG.out) (by omega)).mono ?_
      rintro e w2 ⟨g2, rfl, ho2, hg2⟩
      obtain ⟨O, hO⟩ : ∃ O, bs.map bi = O := ⟨_, rfl⟩
      have hOl : O.length = n := by rw [← hO, List.length_map, HL.out]
      have hOb : isBits O := by rw [← hO]; exact bi_bits bs
      rw [hO] at ho2
      have hbi := best_is HVL.out HVO.out (n := n) (by omega) hOl hOb
      obtain ⟨D, hD⟩ : ∃ D, dec n V 0 = D := ⟨_, rfl⟩
      have hDl : D.length = n := by rw [← hD]; exact dec_len n V 0 HVL.out
      have hDb : isBits D := by rw [← hD]; exact dec_bits n V 0
      rw [hD] at hbi
      obtain ⟨x, hx⟩ : ∃ x, score V (enc D) = x := ⟨_, rfl⟩
      obtain ⟨y, hy⟩ : ∃ y, score V (enc O) = y := ⟨_, rfl⟩
      rw [hx, hy] at hbi
      obtain ⟨hxy, hfirst⟩ := hbi
      have HO2 := Lib.hid ho2.rd
      have HG2 := Lib.hid (HG.out.trans hg2)
      have HOV2 := Lib.hid (HOV.out.rd.kept hg2)
      have hcapV := own_le_cap HOV.out
      have HOL := Lib.hid hOl
      have HOB := Lib.hid hOb
      have HD := Lib.hid hD
      have HDL := Lib.hid hDl
      have HDB := Lib.hid hDb
      have HX := Lib.hid hx
      have HY := Lib.hid hy
      have HFI := Lib.hid hfirst
      clear ho2 hg2 hO hOl hOb hD hDl hDb hx hy hfirst HOV HO
      go_wp2_with fail
      refine (decode_yes _ n _ V w2 HOV2.out HVO.out h1 (by omega) hcapV).mono ?_
      rintro e w3 ⟨a3, c3, rfl, hr3, hg3⟩
      rw [HD.out] at hr3
      have HR3 := Lib.hid hr3
      have HG3 := Lib.hid hg3
      clear hr3 hg3
      go_wp2_with fail
      refine (encode_yes _ n _ D w3 HR3.out HDB.out (by omega) (by omega)).mono ?_
      rintro e w4 ⟨a4, c4, rfl, ho4, hg4⟩
      have HO4 := Lib.hid ho4.rd
      have HG4 := Lib.hid hg4
      clear ho4 hg4
      go_wp2_with fail
      refine (encode_yes _ n _ O w4 (HO2.out.kept (HG3.out.trans HG4.out)) HOB.out (by omega) (by omega)).mono ?_
      rintro e w5 ⟨a5, c5, rfl, ho5, hg5⟩
      have HO5 := Lib.hid ho5.rd
      have HG5 := Lib.hid hg5
      clear ho5 hg5
      have hb1 : ((2 * ((n : Int) + 2)) != 2 * ((n : Int) + 2)) = false := by simp
      go_wp2_with fail
      refine (likeness28 _ _ _ _ _ V (enc D) w5 ((HOV2.out.kept HG3.out).kept (HG4.out.trans HG5.out)) (HO4.out.kept HG5.out) HVO.out (encS_bits _ _) (by omega)).mono ?_
      rw [HX.out]
      rintro e w6 ⟨rfl, hg6⟩
      have HG6 := Lib.hid hg6
      clear hg6
      go_wp2_with fail
      refine (likeness28 _ _ _ _ _ V (enc O) w6 (((HOV2.out.kept HG3.out).kept (HG4.out.trans HG5.out)).kept HG6.out) (HO5.out.kept HG6.out) HVO.out (encS_bits _ _) (by omega)).mono ?_
      rw [HY.out]
      rintro e w7 ⟨rfl, hg7⟩
      have HG7 := Lib.hid (HG2.out.trans (HG3.out.trans (HG4.out.trans (HG5.out.trans (HG6.out.trans hg7)))))
      have hg37 : Gr w3 w7 := HG4.out.trans (HG5.out.trans (HG6.out.trans hg7))
      obtain ⟨b8, p8, rfl, -, hc8⟩ := (HR3.out.kept hg37).some (by omega)
      obtain ⟨b9, p9, e9, -, hc9'⟩ := (HO2.out.kept (HG3.out.trans hg37)).some (by omega)
      obtain ⟨rfl, rfl⟩ : b9 = g2 ∧ p9 = 0 := by injection e9 with e; injection e with e1 e2; exact ⟨e1.symm, e2.symm⟩
      have hc9 : ∀ i, i < n → w7.cell? ⟨b9, i, none⟩ = some (.int .i64 (O[i]?.getD 0)) := fun i hi => by have := hc9' i hi; rwa [Nat.zero_add] at this
      clear e9 hc9'
      have HC8 := Lib.hid hc8
      have HC9 := Lib.hid hc9
      clear hg7 hg37 hc8 hc9 hb1
      have hxl : decide (x < y) = false := by simp; omega
      go_wp2_with fail
      clear hxl
      go_loopw [17] (fun i wr => EqRel n D O w7 i wr) (fun i _ => n - (intOf i).toNat)
      case atStart => exact ⟨0, by omega, rfl, fun j hj => by omega, Gr.refl _⟩
      case round =>
        obtain ⟨q, hq, rfl, heq, hg⟩ := hrel
        have HEQ := Lib.hid heq
        have HGQ := Lib.hid hg
        clear heq hg
        by_cases hlq : q < n
        · by_cases hxe : x = y
          · have hxb : (x == y) = true := by simpa using hxe
            have HXE := Lib.hid hxe
            clear hxe
            have hdq : D[q]? = some (D[q]?.getD 0) := by rw [List.getElem?_eq_getElem (by rw [HDL.out]; exact hlq)]; rfl
            have hoq : O[q]? = some (O[q]?.getD 0) := by rw [List.getElem?_eq_getElem (by rw [HOL.out]; exact hlq)]; rfl
            obtain ⟨u, hu⟩ : ∃ u, D[q]?.getD 0 = u := ⟨_, rfl⟩
            obtain ⟨v, hv⟩ : ∃ v, O[q]?.getD 0 = v := ⟨_, rfl⟩
            have q1 : ∀ z, Gr wr z → z.cell? ⟨b8, p8 + q, none⟩ = some (.int .i64 u) := fun z h => by rw [← hu]; exact (HGQ.out.trans h).cell (HC8.out q hlq)
            have q2 : ∀ z, Gr wr z → z.cell? ⟨b9, q, none⟩ = some (.int .i64 v) := fun z h => by rw [← hv]; exact (HGQ.out.trans h).cell (HC9.out q hlq)
            rw [hu] at hdq
            rw [hv] at hoq
            have HDQ := Lib.hid hdq
            have HOQ := Lib.hid hoq
            have HQ1 := Lib.hid q1
            have HQ2 := Lib.hid q2
            clear hu hv hdq hoq
            go_wp2_with fail
            refine Sched.wp_region_sched 9 [] [] (by kernel_rfl) (by kernel_rfl) ?_
            simp only [List.take_succ_cons, List.take_zero, List.drop_succ_cons, List.drop_zero]
            repeat (first | (refine Sched.walk1_no rfl rfl (fun K hK => ?_); simp only [Act.put, List.setIfInBounds_toArray, List.set_cons_zero, List.set_cons_succ]; refine hK _ ?_; clear hK K) | (refine Sched.walk1_gr rfl rfl rfl (fun K hK => ?_); apply Exists.intro; refine ⟨fun w1 hw1 => ?_, ?_⟩; (focus (go_simp; (try go_ints); (try (simp only [IntWalk.iteOmega]; go_simp)); first | done | fail | (with_reducible rfl) | (with_reducible exact ⟨rfl, rfl⟩))); simp only [Act.put, List.setIfInBounds_toArray, List.set_cons_zero, List.set_cons_succ]; refine hK _ ?_; clear hK K) | (refine Sched.walk1_pure rfl rfl rfl (fun K hK => ?_); apply Exists.intro; refine ⟨fun w1 => ?_, ?_⟩; (focus (go_simp; (try go_ints); (try (simp only [IntWalk.iteOmega]; go_simp)); first | done | (with_reducible rfl) | (with_reducible exact ⟨rfl, rfl⟩))); simp only [Act.put, List.setIfInBounds_toArray, List.set_cons_zero, List.set_cons_succ]; refine hK _ ?_; clear hK K) | (refine Sched.walk1_box rfl rfl ?_; apply Exists.intro; refine ⟨fun w1 hw1 => ?_, ?_⟩; (focus (go_simp; exact ⟨Gr.alloc _ _, rfl, by simp, heap_alloc_new _ _⟩))))
            refine Sched.walk1_nil ?_
            intro wq hwq
            dsimp only [Sched.EndN, List.nil_append, List.cons_append, Act.put]
            (try simp only [List.setIfInBounds_toArray, List.set_cons_zero, List.set_cons_succ])
            repeat (first | (refine Sched.walk2_no rfl (fun K hK => ?_); simp only [Act.put, List.setIfInBounds_toArray, List.set_cons_zero, List.set_cons_succ]; refine hK _ ?_; clear hK K) | (refine Sched.walk2_go rfl (fun K hK => ?_); go_simp; (try go_ints); (try (simp only [IntWalk.iteOmega]; go_simp)); first | (refine hK _ _ ?_; clear hK K) | fail))
            refine Sched.walk2_nil ?_
            have HW := Lib.hid hwq
            clear q1 q2 hwq
            by_cases huv : u = v
            · have hue : (u != v) = false := by simpa using huv
              have HUE := Lib.hid huv
              clear huv
              go_wp2_with fail
              go_roundw
              case rel => exact ⟨q + 1, by omega, by go_num, fun j hj => by
                by_cases hjq : j < q
                · exact HEQ.out j hjq
                · obtain rfl : j = q := by omega
                  rw [HDQ.out, HOQ.out, HUE.out], HGQ.out.trans HW.out⟩
              case measure => (simp [intOf] <;> omega)
            · have hlt3 := HFI.out HXE.out q u v HDQ.out HOQ.out HEQ.out huv
              have hne : (u != v) = true := by simpa using huv
              have q1 : ∀ z, Gr wq z → z.cell? ⟨b8, p8 + q, none⟩ = some (.int .i64 u) := fun z h => HQ1.out z (HW.out.trans h)
              have q2 : ∀ z, Gr wq z → z.cell? ⟨b9, q, none⟩ = some (.int .i64 v) := fun z h => HQ2.out z (HW.out.trans h)
              have HWS := Lib.hid (HG7.out.trans (HGQ.out.trans HW.out))
              clear huv
              go_wp2_with fail
              clear hne
              obtain ⟨wz, rfl⟩ : ∃ wz : World, wz = wq := ⟨_, rfl⟩
              refine Sched.wp_region_sched 12 [] [] (by kernel_rfl) (by kernel_rfl) ?_
              simp only [List.take_succ_cons, List.take_zero, List.drop_succ_cons, List.drop_zero]
              repeat (first | (refine Sched.walk1_no rfl rfl (fun K hK => ?_); simp only [Act.put, List.setIfInBounds_toArray, List.set_cons_zero, List.set_cons_succ]; refine hK _ ?_; clear hK K) | (refine Sched.walk1_gr rfl rfl rfl (fun K hK => ?_); apply Exists.intro; refine ⟨fun w1 hw1 => ?_, ?_⟩; (focus (go_simp; (try go_ints); (try (simp only [IntWalk.iteOmega]; go_simp)); first | done | (go_at_call 11; (with_reducible exact awake28 _)) | (with_reducible rfl) | (with_reducible exact ⟨rfl, rfl⟩))); simp only [Act.put, List.setIfInBounds_toArray, List.set_cons_zero, List.set_cons_succ]; refine hK _ ?_; clear hK K) | (refine Sched.walk1_pure rfl rfl rfl (fun K hK => ?_); apply Exists.intro; refine ⟨fun w1 => ?_, ?_⟩; (focus (go_simp; (try go_ints); (try (simp only [IntWalk.iteOmega]; go_simp)); first | done | (with_reducible rfl) | (with_reducible exact ⟨rfl, rfl⟩))); simp only [Act.put, List.setIfInBounds_toArray, List.set_cons_zero, List.set_cons_succ]; refine hK _ ?_; clear hK K) | (refine Sched.walk1_box rfl rfl ?_; apply Exists.intro; refine ⟨fun w1 hw1 => ?_, ?_⟩; (focus (go_simp; exact ⟨Gr.alloc _ _, rfl, by simp, heap_alloc_new _ _⟩))))
              refine Sched.walk1_nil ?_
              intro wq hwq
              dsimp only [Sched.EndN, List.nil_append, List.cons_append, Act.put]
              (try simp only [List.setIfInBounds_toArray, List.set_cons_zero, List.set_cons_succ])
              repeat (first | (refine Sched.walk2_no rfl (fun K hK => ?_); simp only [Act.put, List.setIfInBounds_toArray, List.set_cons_zero, List.set_cons_succ]; refine hK _ ?_; clear hK K) | (refine Sched.walk2_go rfl (fun K hK => ?_); go_simp; (try go_ints); (try (simp only [IntWalk.iteOmega]; go_simp)); first | (refine hK _ _ ?_; clear hK K) | fail))
              refine Sched.walk2_nil ?_
              have HW2 := Lib.hid hwq
              clear q1 q2 hwq
              go_wp2_with fail
              go_ret
              exact ⟨rfl, HWS.out.trans HW2.out⟩
          · have hxb : (x == y) = false := by simpa using hxe
            go_wp2_with fail
            refine (awake28 _).mono ?_
            rintro e w9 ⟨rfl, hg9⟩
            have HG9 := Lib.hid hg9
            clear hg9
            go_wp2_with fail
            go_ret
            exact ⟨rfl, HG7.out.trans (HGQ.out.trans HG9.out)⟩
        · obtain rfl : q = n := by omega
          go_wp2_with fail
          refine (awake28 _).mono ?_
          rintro e w9 ⟨rfl, hg9⟩
          have HG9 := Lib.hid hg9
          clear hg9
          go_wp2_with fail
          go_ret
          exact ⟨rfl, HG7.out.trans (HGQ.out.trans HG9.out)⟩
theorem likeliest_no (as1 : Option Addr) (ls cs : Nat) (a : Option Addr) (n cap : Nat) (w : World) (h : n < 1 ∨ 60 < n) (hm : n ≤ 9223372036854775807) :
    Calls Try.prog 4 #[.slice as1 ls cs, .slice a n cap] w fun e w' => e = .returned (.bool true) ∧ Gr w w' := by
  rcases h with h | h
  all_goals
    go_enter Try.func4, Try.ntmps4
    go_wp2_with fail
    refine (awake28 _).mono ?_
    rintro e w1 ⟨rfl, hg⟩
    have HG := Lib.hid hg
    clear hg
    go_wp2_with fail
    go_ret
    exact ⟨rfl, HG.out⟩
theorem likeliest_fit (as1 : Option Addr) (ls cs : Nat) (zs : List Int) (a : Option Addr) (n cap : Nat) (bs : List Bool) (w : World) (hs : Rd .i8 w as1 ls zs) (_hcs : ls ≤ cs) (_hLs : ls ≤ 140737488351232) (hr : RdB w a n bs) (_hc : n ≤ cap) (_hL : n ≤ 140737488351232) :
    Calls Try.prog 4 #[.slice as1 ls cs, .slice a n cap] w fun e w' => e = .returned (.bool true) ∧ Below w.heap.size w w' := by
  have key : Calls Try.prog 4 #[.slice as1 ls cs, .slice a n cap] w fun e w' => e = .returned (.bool true) ∧ Gr w w' := by
    by_cases h : n < 1 ∨ 60 < n
    · exact likeliest_no as1 ls cs a n cap w h (by omega)
    · exact likeliest_walk as1 ls cs zs a n cap bs w hs hr (by omega) (by omega)
  exact key.mono fun _ _ ⟨he, hg⟩ => ⟨he, Below.of_none hg⟩
end Go.Proofs.Ytbdbllagbifkgaa
