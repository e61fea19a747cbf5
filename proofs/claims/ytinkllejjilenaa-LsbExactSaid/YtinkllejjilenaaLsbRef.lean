/- Layer 7 (lsb): Fits and Least of the reference; the sanity check. -/
import Derived.Test.YtinkllejjilenaaLsb
import Derived.Test.YtinkllejjilenaaSched
namespace Go.Proofs.Ytinkllejjilenaa
open Go.ChangeShapes Go.WideShapes Go.ChangeAt Go.RowKit


theorem fit_one {x k v r : Int} (hk : knownB x = true) (h3 : 3 ≤ k) (h4 : k ≤ x) : (decE x r k (lowS k v) == 0 && decV x r k (lowS k v) == v) = fitOne x k v r := by
  have hx := known_rng hk
  have hv := low_val (k := k) (v := v) (by omega) (by omega)
  cases h5 : valB x r
  · simp [decE, fitOne, hk, h5]
  · simp [decE, decV, fitOne, hk, h5, hv, h3, h4]

theorem rfits_any (x : Int) (a : Option Addr) (len cap : Nat) (rs : List Int) (k v : Int) (w : World) (hr : Rd .i64 w a len rs) :
    Calls Try.prog 19 #[.int .i64 x, .slice a len cap, .int .i64 k, .int .i64 v] w fun e w' => e = .returned (.bool (fitsS x rs k v)) ∧ Gr w w' := by
  by_cases h1 : knownB x = true
  · have hx := known_rng h1
    by_cases h3 : k < 3
    · have h6 : fitHead x k v = false := head_no (fun h => by omega)
      have hn := fits_nohead (rs := rs) h6
      have HN := Lib.hid hn
      clear hn h6
      go_enter Try.func19, Try.ntmps19
      go_wp2_with ((go_at_call 44; refine (rwide_any _ _).mono ?_; rintro e w' ⟨rfl, rfl⟩))
      go_ret
      exact ⟨ret_bool HN.out.symm, Gr.refl _⟩
    · by_cases h4 : x < k
      · have h6 : fitHead x k v = false := head_no (fun h => by omega)
        have hn := fits_nohead (rs := rs) h6
        have HN := Lib.hid hn
        clear hn h6
        go_enter Try.func19, Try.ntmps19
        go_wp2_with ((go_at_call 44; refine (rwide_any _ _).mono ?_; rintro e w' ⟨rfl, rfl⟩))
        go_ret
        exact ⟨ret_bool HN.out.symm, Gr.refl _⟩
      · have hwx := wrap_pow (show x.toNat ≤ 62 by omega)
        by_cases b1 : v < 0
        · have h6 : fitHead x k v = false := head_no (fun h => by have := h.2.2; rw [val_neg b1] at this; simp at this)
          have hn := fits_nohead (rs := rs) h6
          have HN := Lib.hid hn
          clear hn h6
          go_enter Try.func19, Try.ntmps19
          go_wp2_with ((go_at_call 44; refine (rwide_any _ _).mono ?_; rintro e w' ⟨rfl, rfl⟩))
          go_ret
          exact ⟨ret_bool HN.out.symm, Gr.refl _⟩
        · by_cases b2 : 2 ^ x.toNat ≤ v
          · have h6 : fitHead x k v = false := head_no (fun h => by have := h.2.2; rw [val_far b2] at this; simp at this)
            have hn := fits_nohead (rs := rs) h6
            have HN := Lib.hid hn
            clear hn h6
            go_enter Try.func19, Try.ntmps19
            go_wp2_with ((go_at_call 44; refine (rwide_any _ _).mono ?_; rintro e w' ⟨rfl, rfl⟩))
            go_ret
            exact ⟨ret_bool HN.out.symm, Gr.refl _⟩
          · have hl := fits_len (rs := rs) (head_parts.2 ⟨h1, ⟨show 3 ≤ k by omega, show k ≤ x by omega⟩, val_yes b1 b2⟩)
            have hm : len ≤ 9223372036854775807 := by have := hr.2.2.1; simp only [maxLen] at this; omega
            have HL := Lib.hid hl
            have HR := Lib.hid hr
            have h3' : 3 ≤ k := by omega
            have h4' : k ≤ x := by omega
            clear hl
            by_cases h0 : len = 0
            · subst h0
              have : rs = [] := List.eq_nil_of_length_eq_zero hr.1
              have HE := Lib.hid this
              clear this hr
              go_enter Try.func19, Try.ntmps19
              go_wp2_with ((go_at_call 44; refine (rwide_any _ _).mono ?_; rintro e w' ⟨rfl, rfl⟩))
              go_loop [9, 10, 11] (fun i _ _ => i = .int .i64 0) (fun _ _ _ => 0)
              case atStart => exact rfl
              case round =>
                subst hrel
                go_wp2_with fail
                go_ret
                exact ⟨ret_bool (by rw [HL.out, HE.out]; rfl), Gr.refl _⟩
            · obtain ⟨b, off, rfl, hb, hc⟩ := hr.some (by omega)
              have HC := Lib.hid hc
              clear hr hc
              go_enter Try.func19, Try.ntmps19
              go_wp2_with ((go_at_call 44; refine (rwide_any _ _).mono ?_; rintro e w' ⟨rfl, rfl⟩))
              go_loopw [9, 10, 11] (fun i _ _ wr => ∃ j : Nat, j ≤ len ∧ i = .int .i64 j ∧ rs.all (fitOne x k v) = (rs.drop j).all (fitOne x k v) ∧ Gr w wr) (fun i _ _ _ => len - (intOf i).toNat)
              case atStart => exact ⟨0, by omega, rfl, by simp, Gr.refl _⟩
              case round =>
                obtain ⟨j, hj, rfl, hall, hgr⟩ := hrel
                have HA := Lib.hid hall
                have HG := Lib.hid hgr
                clear hall
                by_cases hlt : j < len
                · have cj : ∀ w1, Gr wr w1 → w1.cell? ⟨b, off + j, none⟩ = some (.int .i64 (rs[j]?.getD 0)) := fun w1 h => (HG.out.trans h).cell (HC.out j hlt)
                  have hd := all_drop (p := fitOne x k v) rs j (by rw [HR.out.1]; exact hlt)
                  have HD := Lib.hid hd
                  clear hd
                  obtain ⟨r, hrr⟩ : ∃ r, rs[j]?.getD 0 = r := ⟨_, rfl⟩
                  have HRR := Lib.hid hrr
                  rw [hrr] at cj
                  have hone := fit_one (v := v) (r := r) h1 h3' h4'
                  have HONE := Lib.hid hone
                  clear hrr hone hgr
                  go_wp2_with fail
                  refine Sched.wp_region_sched 15 [] [] (by kernel_rfl) (by kernel_rfl) ?_
                  simp only [List.take_succ_cons, List.take_zero, List.drop_succ_cons, List.drop_zero]
                  repeat (first | (refine Sched.walk1_no rfl rfl (fun K hK => ?_); simp only [Act.put, List.setIfInBounds_toArray, List.set_cons_zero, List.set_cons_succ]; refine hK _ ?_; clear hK K) | (refine Sched.walk1_gr rfl rfl rfl (fun K hK => ?_); apply Exists.intro; refine ⟨fun w1 hw1 => ?_, ?_⟩; (focus (go_simp; (try go_ints); (try (simp only [IntWalk.iteOmega]; go_simp)); first | done | ((go_at_call 13; exact gr_same (rlow _ _ _))) | ((go_at_call 15; exact gr_same (rdecode_any _ _ _ _ _))) | (with_reducible rfl) | (with_reducible exact ⟨rfl, rfl⟩))); simp only [Act.put, List.setIfInBounds_toArray, List.set_cons_zero, List.set_cons_succ]; refine hK _ ?_; clear hK K) | (refine Sched.walk1_pure rfl rfl rfl (fun K hK => ?_); apply Exists.intro; refine ⟨fun w1 => ?_, ?_⟩; (focus (go_simp; (try go_ints); (try (simp only [IntWalk.iteOmega]; go_simp)); first | done | (with_reducible rfl) | (with_reducible exact ⟨rfl, rfl⟩))); simp only [Act.put, List.setIfInBounds_toArray, List.set_cons_zero, List.set_cons_succ]; refine hK _ ?_; clear hK K) | (refine Sched.walk1_box rfl rfl ?_; apply Exists.intro; refine ⟨fun w1 hw1 => ?_, ?_⟩; (focus (go_simp; exact ⟨Gr.alloc _ _, rfl, by simp, heap_alloc_new _ _⟩))))
                  refine Sched.walk1_nil ?_
                  intro wq hwq
                  dsimp only [Sched.EndN, List.nil_append, List.cons_append, Act.put]
                  (try simp only [List.setIfInBounds_toArray, List.set_cons_zero, List.set_cons_succ])
                  repeat (first | (refine Sched.walk2_no rfl (fun K hK => ?_); simp only [Act.put, List.setIfInBounds_toArray, List.set_cons_zero, List.set_cons_succ]; refine hK _ ?_; clear hK K) | (refine Sched.walk2_go rfl (fun K hK => ?_); go_simp; (try go_ints); (try (simp only [IntWalk.iteOmega]; go_simp)); first | (refine hK _ _ ?_; clear hK K) | fail))
                  refine Sched.walk2_nil ?_
                  have HGQ := Lib.hid hwq
                  clear hwq cj
                  obtain ⟨E, hE⟩ : ∃ E, decE x r k (lowS k v) = E := ⟨_, rfl⟩
                  obtain ⟨D, hD⟩ : ∃ D, decV x r k (lowS k v) = D := ⟨_, rfl⟩
                  have HE := Lib.hid hE
                  have HDD := Lib.hid hD
                  rw [hE, hD]
                  clear hE hD
                  cases h6 : (E == 0)
                  · have h6' : (E != 0) = true := by rw [bne, h6]; rfl
                    have H6 := Lib.hid h6
                    go_wp2_with fail
                    go_ret
                    exact ⟨ret_bool (by rw [HL.out, HA.out, HD.out, HRR.out, ← HONE.out, HE.out, H6.out]; rfl), HG.out.trans HGQ.out⟩
                  · have h6' : (E != 0) = false := by rw [bne, h6]; rfl
                    have H6 := Lib.hid h6
                    cases h7 : (D == v)
                    · have h7' : (D != v) = true := by rw [bne, h7]; rfl
                      have H7 := Lib.hid h7
                      go_wp2_with fail
                      go_ret
                      exact ⟨ret_bool (by rw [HL.out, HA.out, HD.out, HRR.out, ← HONE.out, HE.out, HDD.out, H6.out, H7.out]; rfl), HG.out.trans HGQ.out⟩
                    · have h7' : (D != v) = false := by rw [bne, h7]; rfl
                      have H7 := Lib.hid h7
                      go_wp2_with fail
                      go_roundw
                      case rel => exact ⟨j + 1, by omega, by go_num, by rw [HA.out, HD.out, HRR.out, ← HONE.out, HE.out, HDD.out, H6.out, H7.out]; rfl, HG.out.trans HGQ.out⟩
                      case measure => simp [intOf]; omega
                · clear hgr
                  go_wp2_with fail
                  go_ret
                  exact ⟨ret_bool (by rw [HL.out, HA.out, List.drop_eq_nil_of_le (by rw [HR.out.1]; omega)]; rfl), HG.out⟩
  · have h1' : knownB x = false := by simpa using h1
    clear h1
    have h6 : fitHead x k v = false := head_no (fun h => by rw [h1'] at h; simp at h)
    have hn := fits_nohead (rs := rs) h6
    have HN := Lib.hid hn
    clear hn h6
    go_enter Try.func19, Try.ntmps19
    go_wp2_with ((go_at_call 44; refine (rwide_any _ _).mono ?_; rintro e w' ⟨rfl, rfl⟩))
    go_ret
    exact ⟨ret_bool HN.out.symm, Gr.refl _⟩
end Go.Proofs.Ytinkllejjilenaa
