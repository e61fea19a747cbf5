/- Several texts in one. -/
import Derived.Test.YtlnkofpcidngoaaDoorA0
import Derived.Test.YtlnkofpcidngoaaDoorA10
import Derived.Test.YtlnkofpcidngoaaDoorA1
import Derived.Test.YtlnkofpcidngoaaDoorA7
import Derived.Test.YtlnkofpcidngoaaDoorA6
/- Appends at []int; a shorter slice. -/
namespace Go.Proofs.YtlnkofpcidngoaaDoor
open Go.ChangeShapes Go.WideShapes Go.ChangeAt Go.RowKit
theorem info_i64 : (Tryd.prog.info? 3).map (fun i => (i.zero, i.size, i.bytes)) = some (some (.int .i64 0), 1, 8) := by kernel_rfl
theorem app_i64 (B : Nat) (w : World) (a : Option Addr) (n cap : Nat) (xs : List Int) (hown : OwnI B 3 .i64 w a n cap xs)
  (b : Option Addr) (m c : Nat) (ys : List Int) (hr : Rd .i64 w b m ys) (hlen : n + m ≤ 17592186044416) (hbase : B ≤ w.heap.size) :
  ∃ a' cap' w', (Builtin.append_ #[27, 27] 27 #[.slice a n cap, .slice b m c]).run Tryd.prog w = .ok (.slice a' (n + m) cap') w' ∧ OwnI B 3 .i64 w' a' (n + m) cap' (xs ++ ys) ∧
   w.grownBy w' (Value.slice a n cap).ownBlock ∧ Follows w (.slice a n cap) (.slice a' (n + m) cap') := by
 obtain ⟨i0, hi, hz0, hz1, hz2⟩ := info_parts info_i64
 exact run_appI B _ _ _ i0 (.int .i64 0) .i64 8 Tryd.underlying27 hi hz0 hz1 hz2 rfl w a n cap xs hown b m c ys hr (by omega) (by simp [maxLen]; omega) hbase
theorem Rd.take {k : IntKind} {w : World} {a : Option Addr} {len : Nat} {xs : List Int} (h : Rd k w a len xs) (n : Nat) (hn : n ≤ len) : Rd k w a n (xs.take n) := by
 obtain ⟨h1, h2, h3, h4⟩ := h
 refine ⟨by simp; omega, fun x hx => h2 x (List.mem_of_mem_take hx), by omega, ?_⟩
 rcases h4 with h0 | ⟨b, off, rfl, hb, hc⟩
 ·exact .inl (by omega)
 ·refine .inr ⟨b, off, rfl, hb, fun i hi => ?_⟩
  rw [hc i (by omega), List.getElem?_take_of_lt hi]
end Go.Proofs.YtlnkofpcidngoaaDoor
/- Layer 7 (lsb): its plain functions, and the contracts of the program and of the reference. -/
namespace Go.Proofs.YtlnkofpcidngoaaDoor
open Go.ChangeShapes Go.WideShapes Go.ChangeAt Go.RowKit
/-! ### plain -/
def offS (k : Int) : Int := if 3 ≤ k ∧ k ≤ 32 then 2 ^ (k - 3).toNat - 1 else -1
def knownB (w : Int) : Bool := decide (w = 8 ∨ w = 16 ∨ w = 32)
def valB (w v : Int) : Bool := decide (0 ≤ v ∧ v < 2 ^ w.toNat)
def decS (w r k low : Int) : Int := lowS w (r - offS k + distS k (r - offS k) low)
def decV (w r k low : Int) : Int := if knownB w && decide (3 ≤ k ∧ k ≤ w) && valB w r && valB k low then decS w r k low else 0
def decE (w r k low : Int) : Int := if knownB w then (if decide (3 ≤ k ∧ k ≤ w) && valB w r && valB k low then 0 else 3) else 7
def fitOne (w k v r : Int) : Bool := valB w r && (decS w r k (lowS k v) == v)
def fitHead (w k v : Int) : Bool := knownB w && decide (3 ≤ k ∧ k ≤ w) && valB w v
def fitsS (w : Int) (rs : List Int) (k v : Int) : Bool := fitHead w k v && rs.all (fitOne w k v)
theorem known_rng {w : Int} (h : knownB w = true) : 8 ≤ w ∧ w ≤ 32 := by
 simp only [knownB, decide_eq_true_eq] at h; omega
theorem off_rng {k : Int} : -1 ≤ offS k ∧ offS k < 4294967296 := by
 unfold offS; split
 ·have h1 := two_pow_pos (k - 3).toNat
  have h2 : (2 : Int) ^ (k - 3).toNat ≤ 2 ^ 32 := two_pow_le (by omega)
  have h3 : (2 : Int) ^ 32 = 4294967296 := by rfl
  omega
 ·omega
theorem val_rng {w v : Int} (hw : w ≤ 32) (h : valB w v = true) : 0 ≤ v ∧ v < 4294967296 := by
 simp only [valB, decide_eq_true_eq] at h
 have h2 : (2 : Int) ^ w.toNat ≤ 2 ^ 32 := two_pow_le (by omega)
 have h3 : (2 : Int) ^ 32 = 4294967296 := by rfl
 omega
theorem low_val {k v : Int} (h1 : 1 ≤ k) (h2 : k ≤ 32) : valB k (lowS k v) = true := by
 simp only [valB, lowS, vld_mk h1 h2, if_true, decide_eq_true_eq]
 have hp := two_pow_pos k.toNat
 exact ⟨Int.emod_nonneg _ (by omega), Int.emod_lt_of_pos _ hp⟩
/-! ### the program -/
theorem dec_yes {x r k low : Int} (h1 : knownB x = true) (h2 : 3 ≤ k ∧ k ≤ x) (h3 : valB x r = true) (h4 : valB k low = true) : decS x r k low = decV x r k low ∧ 0 = decE x r k low := by
 simp [decV, decE, h1, h2, h3, h4]
theorem dec_no {x r k low : Int} (h1 : knownB x = true) (h2 : ¬ (3 ≤ k ∧ k ≤ x ∧ valB x r = true ∧ valB k low = true)) : 0 = decV x r k low ∧ 3 = decE x r k low := by
 have : (decide (3 ≤ k ∧ k ≤ x) && valB x r && valB k low) = false := by
  cases h : (decide (3 ≤ k ∧ k ≤ x) && valB x r && valB k low)
  ·rfl
  ·simp only [Bool.and_eq_true, decide_eq_true_eq] at h; exact absurd ⟨h.1.1.1, h.1.1.2, h.1.2, h.2⟩ h2
 unfold decV decE
 rw [h1]
 simp only [Bool.true_and, this]
 exact ⟨rfl, rfl⟩
theorem ret_ii' {a b x y : Int} (h : a = b) (k : x = y) : Ending.returned (.tuple #[.int .i64 a, .int .i64 x]) = .returned (.tuple #[.int .i64 b, .int .i64 y]) := by rw [h, k]
theorem fits_len {w : Int} {rs : List Int} {k v : Int} (h : fitHead w k v = true) : fitsS w rs k v = rs.all (fitOne w k v) := by simp [fitsS, h]
theorem fits_nohead {w : Int} {rs : List Int} {k v : Int} (h : fitHead w k v = false) : fitsS w rs k v = false := by simp [fitsS, h]
theorem head_parts {w k v : Int} : fitHead w k v = true ↔ knownB w = true ∧ (3 ≤ k ∧ k ≤ w) ∧ valB w v = true := by
 simp [fitHead, and_assoc]
theorem fhead_no {w k v : Int} (h : ¬ (knownB w = true ∧ (3 ≤ k ∧ k ≤ w) ∧ valB w v = true)) : fitHead w k v = false := by
 cases hh : fitHead w k v
 ·rfl
 ·exact absurd (head_parts.1 hh) h
theorem all_drop {p : Int → Bool} (rs : List Int) (i : Nat) (h : i < rs.length) : (rs.drop i).all p = (p (rs[i]?.getD 0) && (rs.drop (i + 1)).all p) := by
 rw [List.drop_eq_getElem_cons h, List.all_cons]; simp [h]
/-! ### Least -/
/-! ### the reference -/
set_option maxRecDepth 20000 in
set_option maxHeartbeats 2000000 in
theorem rwide_any (x : Int) (w : World) : Calls Tryd.prog 86 #[.int .i64 x] w fun e w' => e = .returned (.bool (knownB x)) ∧ w = w' := by
 go_enter Tryd.func86, Tryd.ntmps86
 go_wp2
 all_goals (go_ret; exact ⟨ret_bool (by rw [Bool.eq_iff_iff]; simp [knownB]; omega), rfl⟩)
set_option maxRecDepth 20000 in
set_option maxHeartbeats 2000000 in
theorem roffset_any (k : Int) (w : World) : Calls Tryd.prog 101 #[.int .i64 k] w fun e w' => e = .returned (.int .i64 (offS k)) ∧ w = w' := by
 go_enter Tryd.func101, Tryd.ntmps101
 go_wp2
 ·go_ret
  exact ⟨ret_i64 (by unfold offS; rw [if_neg (by omega)]), rfl⟩
 ·go_ret
  exact ⟨ret_i64 (by unfold offS; rw [if_pos (by assumption), wrap_pow1 (by omega)]), rfl⟩
 ·go_ret
  exact ⟨ret_i64 (by unfold offS; rw [if_neg (by omega)]), rfl⟩
theorem val_neg {x r : Int} (h : r < 0) : valB x r = false := by simp [valB]; omega
theorem val_far {x r : Int} (h : 2 ^ x.toNat ≤ r) : valB x r = false := by simp [valB]; omega
theorem val_yes {x r : Int} (h : ¬ r < 0) (h2 : ¬ 2 ^ x.toNat ≤ r) : valB x r = true := by simp [valB]; omega
set_option maxRecDepth 20000 in
set_option maxHeartbeats 2000000 in
theorem rdecode_any (x r k low : Int) (w : World) :
  Calls Tryd.prog 87 #[.int .i64 x, .int .i64 r, .int .i64 k, .int .i64 low] w fun e w' => e = .returned (.tuple #[.int .i64 (decV x r k low), .int .i64 (decE x r k low)]) ∧ w = w' := by
 by_cases h1 : knownB x = true
 ·have hx := known_rng h1
  by_cases h3 : k < 3
  ·have hn := dec_no (r := r) (k := k) (low := low) h1 (fun h => by omega)
   have HN := zqd hn
   clear hn
   go_enter Tryd.func87, Tryd.ntmps87
   go_wp2_with ((go_at_call 86; refine (rwide_any _ _).mono ?_; rintro e w' ⟨rfl, rfl⟩))
   go_ret2
   exact ⟨ret_ii' HN.out.1 HN.out.2, rfl⟩
  ·by_cases h4 : x < k
   ·have hn := dec_no (r := r) (k := k) (low := low) h1 (fun h => by omega)
    have HN := zqd hn
    clear hn
    go_enter Tryd.func87, Tryd.ntmps87
    go_wp2_with ((go_at_call 86; refine (rwide_any _ _).mono ?_; rintro e w' ⟨rfl, rfl⟩))
    go_ret2
    exact ⟨ret_ii' HN.out.1 HN.out.2, rfl⟩
   ·have hwx := wrap_pow (show x.toNat ≤ 62 by omega)
    have hwk := wrap_pow (show k.toNat ≤ 62 by omega)
    by_cases b1 : r < 0
    ·have hn := dec_no (r := r) (k := k) (low := low) h1 (fun h => by rw [val_neg b1] at h; simp at h)
     have HN := zqd hn
     clear hn
     go_enter Tryd.func87, Tryd.ntmps87
     go_wp2_with ((go_at_call 86; refine (rwide_any _ _).mono ?_; rintro e w' ⟨rfl, rfl⟩))
     go_ret2
     exact ⟨ret_ii' HN.out.1 HN.out.2, rfl⟩
    ·by_cases b2 : 2 ^ x.toNat ≤ r
     ·have hn := dec_no (r := r) (k := k) (low := low) h1 (fun h => by rw [val_far b2] at h; simp at h)
      have HN := zqd hn
      clear hn
      go_enter Tryd.func87, Tryd.ntmps87
      go_wp2_with ((go_at_call 86; refine (rwide_any _ _).mono ?_; rintro e w' ⟨rfl, rfl⟩))
      go_ret2
      exact ⟨ret_ii' HN.out.1 HN.out.2, rfl⟩
     ·by_cases b3 : low < 0
      ·have hn := dec_no (r := r) (k := k) (low := low) h1 (fun h => by rw [val_neg b3] at h; simp at h)
       have HN := zqd hn
       clear hn
       go_enter Tryd.func87, Tryd.ntmps87
       go_wp2_with ((go_at_call 86; refine (rwide_any _ _).mono ?_; rintro e w' ⟨rfl, rfl⟩))
       go_ret2
       exact ⟨ret_ii' HN.out.1 HN.out.2, rfl⟩
      ·by_cases b4 : 2 ^ k.toNat ≤ low
       ·have hn := dec_no (r := r) (k := k) (low := low) h1 (fun h => by rw [val_far b4] at h; simp at h)
        have HN := zqd hn
        clear hn
        go_enter Tryd.func87, Tryd.ntmps87
        go_wp2_with ((go_at_call 86; refine (rwide_any _ _).mono ?_; rintro e w' ⟨rfl, rfl⟩))
        go_ret2
        exact ⟨ret_ii' HN.out.1 HN.out.2, rfl⟩
       ·have h5 := val_yes b1 b2
        have h6 := val_yes b3 b4
        have hr := val_rng hx.2 h5
        have ho := off_rng (k := k)
        have hd : -1 ≤ distS k (r - offS k) low ∧ distS k (r - offS k) low < 4294967296 := lowS_rng k (low - (r - offS k))
        have hn := dec_yes h1 (by omega) h5 h6
        have HN := zqd hn
        clear hn h5 h6
        go_enter Tryd.func87, Tryd.ntmps87
        go_wp2_with (first | ((go_at_call 86; refine (rwide_any _ _).mono ?_; rintro e w' ⟨rfl, rfl⟩)) | ((go_at_call 101; refine (roffset_any _ _).mono ?_; rintro e w' ⟨rfl, rfl⟩)) | ((go_at_call 59; refine (rdist _ _ _ _).mono ?_; rintro e w' ⟨rfl, rfl⟩)) | ((go_at_call 43; refine (rlow _ _ _).mono ?_; rintro e w' ⟨rfl, rfl⟩)))
        go_ret2
        exact ⟨ret_ii' HN.out.1 HN.out.2, rfl⟩
 ·have h1' : knownB x = false := by simpa using h1
  have hn : 0 = decV x r k low ∧ 7 = decE x r k low := by simp [decV, decE, h1']
  have HN := zqd hn
  clear hn h1
  go_enter Tryd.func87, Tryd.ntmps87
  go_wp2_with ((go_at_call 86; refine (rwide_any _ _).mono ?_; rintro e w' ⟨rfl, rfl⟩))
  go_ret2
  exact ⟨ret_ii' HN.out.1 HN.out.2, rfl⟩
end Go.Proofs.YtlnkofpcidngoaaDoor
/- Layer 7 (lsb): Fits and Least of the reference; the sanity check. -/
namespace Go.Proofs.YtlnkofpcidngoaaDoor
open Go.ChangeShapes Go.WideShapes Go.ChangeAt Go.RowKit
theorem fit_one {x k v r : Int} (hk : knownB x = true) (h3 : 3 ≤ k) (h4 : k ≤ x) : (decE x r k (lowS k v) == 0 && decV x r k (lowS k v) == v) = fitOne x k v r := by
 have hx := known_rng hk
 have hv := low_val (k := k) (v := v) (by omega) (by omega)
 cases h5 : valB x r
 ·simp [decE, fitOne, hk, h5]
 ·simp [decE, decV, fitOne, hk, h5, hv, h3, h4]
set_option maxRecDepth 20000 in
set_option maxHeartbeats 2000000 in
theorem rfits_any (x : Int) (a : Option Addr) (len cap : Nat) (rs : List Int) (k v : Int) (w : World) (hr : Rd .i64 w a len rs) :
  Calls Tryd.prog 63 #[.int .i64 x, .slice a len cap, .int .i64 k, .int .i64 v] w fun e w' => e = .returned (.bool (fitsS x rs k v)) ∧ Gr w w' := by
 by_cases h1 : knownB x = true
 ·have hx := known_rng h1
  by_cases h3 : k < 3
  ·have h6 : fitHead x k v = false := fhead_no (fun h => by omega)
   have hn := fits_nohead (rs := rs) h6
   have HN := zqd hn
   clear hn h6
   go_enter Tryd.func63, Tryd.ntmps63
   go_wp2_with ((go_at_call 86; refine (rwide_any _ _).mono ?_; rintro e w' ⟨rfl, rfl⟩))
   go_ret
   exact ⟨ret_bool HN.out.symm, Gr.refl _⟩
  ·by_cases h4 : x < k
   ·have h6 : fitHead x k v = false := fhead_no (fun h => by omega)
    have hn := fits_nohead (rs := rs) h6
    have HN := zqd hn
    clear hn h6
    go_enter Tryd.func63, Tryd.ntmps63
    go_wp2_with ((go_at_call 86; refine (rwide_any _ _).mono ?_; rintro e w' ⟨rfl, rfl⟩))
    go_ret
    exact ⟨ret_bool HN.out.symm, Gr.refl _⟩
   ·have hwx := wrap_pow (show x.toNat ≤ 62 by omega)
    by_cases b1 : v < 0
    ·have h6 : fitHead x k v = false := fhead_no (fun h => by have := h.2.2; rw [val_neg b1] at this; simp at this)
     have hn := fits_nohead (rs := rs) h6
     have HN := zqd hn
     clear hn h6
     go_enter Tryd.func63, Tryd.ntmps63
     go_wp2_with ((go_at_call 86; refine (rwide_any _ _).mono ?_; rintro e w' ⟨rfl, rfl⟩))
     go_ret
     exact ⟨ret_bool HN.out.symm, Gr.refl _⟩
    ·by_cases b2 : 2 ^ x.toNat ≤ v
     ·have h6 : fitHead x k v = false := fhead_no (fun h => by have := h.2.2; rw [val_far b2] at this; simp at this)
      have hn := fits_nohead (rs := rs) h6
      have HN := zqd hn
      clear hn h6
      go_enter Tryd.func63, Tryd.ntmps63
      go_wp2_with ((go_at_call 86; refine (rwide_any _ _).mono ?_; rintro e w' ⟨rfl, rfl⟩))
      go_ret
      exact ⟨ret_bool HN.out.symm, Gr.refl _⟩
     ·have hl := fits_len (rs := rs) (head_parts.2 ⟨h1, ⟨show 3 ≤ k by omega, show k ≤ x by omega⟩, val_yes b1 b2⟩)
      have hm : len ≤ 9223372036854775807 := by have := hr.2.2.1; simp only [maxLen] at this; omega
      have HL := zqd hl
      have HR := zqd hr
      have h3' : 3 ≤ k := by omega
      have h4' : k ≤ x := by omega
      clear hl
      by_cases h0 : len = 0
      ·subst h0
       have : rs = [] := List.eq_nil_of_length_eq_zero hr.1
       have HE := zqd this
       clear this hr
       go_enter Tryd.func63, Tryd.ntmps63
       go_wp2_with ((go_at_call 86; refine (rwide_any _ _).mono ?_; rintro e w' ⟨rfl, rfl⟩))
       go_loop [9, 10, 11] (fun i _ _ => i = .int .i64 0) (fun _ _ _ => 0)
       case atStart => exact rfl
       case round =>
        subst hrel
        go_wp2_with fail
        go_ret
        exact ⟨ret_bool (by rw [HL.out, HE.out]; rfl), Gr.refl _⟩
      ·obtain ⟨b, off, rfl, hb, hc⟩ := hr.some (by omega)
       have HC := zqd hc
       clear hr hc
       go_enter Tryd.func63, Tryd.ntmps63
       go_wp2_with ((go_at_call 86; refine (rwide_any _ _).mono ?_; rintro e w' ⟨rfl, rfl⟩))
       go_loopw [9, 10, 11] (fun i _ _ wr => ∃ j : Nat, j ≤ len ∧ i = .int .i64 j ∧ rs.all (fitOne x k v) = (rs.drop j).all (fitOne x k v) ∧ Gr w wr) (fun i _ _ _ => len - (intOf i).toNat)
       case atStart => exact ⟨0, by omega, rfl, by simp, Gr.refl _⟩
       case round =>
        obtain ⟨j, hj, rfl, hall, hgr⟩ := hrel
        have HA := zqd hall
        have HG := zqd hgr
        clear hall
        by_cases hlt : j < len
        ·have cj : ∀ w1, Gr wr w1 → w1.cell? ⟨b, off + j, none⟩ = some (.int .i64 (rs[j]?.getD 0)) := fun w1 h => (HG.out.trans h).cell (HC.out j hlt)
         have hd := all_drop (p := fitOne x k v) rs j (by rw [HR.out.1]; exact hlt)
         have HD := zqd hd
         clear hd
         obtain ⟨r, hrr⟩ : ∃ r, rs[j]?.getD 0 = r := ⟨_, rfl⟩
         have HRR := zqd hrr
         rw [hrr] at cj
         have hone := fit_one (v := v) (r := r) h1 h3' h4'
         have HONE := zqd hone
         clear hrr hone hgr
         go_wp2_with fail
         refine Sched.wp_region_sched 15 [] [] (by kernel_rfl) (by kernel_rfl) ?_
         simp only [List.take_succ_cons, List.take_zero, List.drop_succ_cons, List.drop_zero]
         repeat (first | ((first | (refine Sched.walk1_no rfl rfl (fun K hK => ?_)) | (refine Sched.walk1_gr rfl rfl rfl (fun K hK => ?_); apply Exists.intro; refine ⟨fun w1 hw1 => ?_, ?_⟩; (focus (go_simp; (try go_ints); (try (simp only [IntWalk.iteOmega]; go_simp)); first | done | ((go_at_call 43; exact gr_same (rlow _ _ _))) | ((go_at_call 87; exact gr_same (rdecode_any _ _ _ _ _))) | (with_reducible rfl) | (with_reducible exact ⟨rfl, rfl⟩))))); simp only [Act.put, zqa, zqb, zqc]; refine hK _ ?_; clear hK K))
         refine Sched.walk1_nil ?_
         intro wq hwq
         dsimp only [Sched.EndN, List.nil_append, List.cons_append, Act.put]
         (try simp only [zqa, zqb, zqc])
         repeat (first | (refine Sched.walk2_no rfl (fun K hK => ?_); simp only [Act.put, zqa, zqb, zqc]; refine hK _ ?_; clear hK K) | (refine Sched.walk2_go rfl (fun K hK => ?_); go_simp; (try go_ints); (try (simp only [IntWalk.iteOmega]; go_simp)); (refine hK _ _ ?_; clear hK K)))
         refine Sched.walk2_nil ?_
         have HGQ := zqd hwq
         clear hwq cj
         obtain ⟨E, hE⟩ : ∃ E, decE x r k (lowS k v) = E := ⟨_, rfl⟩
         obtain ⟨D, hD⟩ : ∃ D, decV x r k (lowS k v) = D := ⟨_, rfl⟩
         have HE := zqd hE
         have HDD := zqd hD
         rw [hE, hD]
         clear hE hD
         cases h6 : (E == 0)
         ·have h6' : (E != 0) = true := by rw [bne, h6]; rfl
          have H6 := zqd h6
          go_wp2_with fail
          go_ret
          exact ⟨ret_bool (by rw [HL.out, HA.out, HD.out, HRR.out, ← HONE.out, HE.out, H6.out]; rfl), HG.out.trans HGQ.out⟩
         ·have h6' : (E != 0) = false := by rw [bne, h6]; rfl
          have H6 := zqd h6
          cases h7 : (D == v)
          ·have h7' : (D != v) = true := by rw [bne, h7]; rfl
           have H7 := zqd h7
           go_wp2_with fail
           go_ret
           exact ⟨ret_bool (by rw [HL.out, HA.out, HD.out, HRR.out, ← HONE.out, HE.out, HDD.out, H6.out, H7.out]; rfl), HG.out.trans HGQ.out⟩
          ·have h7' : (D != v) = false := by rw [bne, h7]; rfl
           have H7 := zqd h7
           go_wp2_with fail
           go_roundw
           case rel => exact ⟨j + 1, by omega, by go_num, by rw [HA.out, HD.out, HRR.out, ← HONE.out, HE.out, HDD.out, H6.out, H7.out]; rfl, HG.out.trans HGQ.out⟩
           case measure => simp [intOf]; omega
        ·clear hgr
         go_wp2_with fail
         go_ret
         exact ⟨ret_bool (by rw [HL.out, HA.out, List.drop_eq_nil_of_le (by rw [HR.out.1]; omega)]; rfl), HG.out⟩
 ·have h1' : knownB x = false := by simpa using h1
  clear h1
  have h6 : fitHead x k v = false := fhead_no (fun h => by rw [h1'] at h; simp at h)
  have hn := fits_nohead (rs := rs) h6
  have HN := zqd hn
  clear hn h6
  go_enter Tryd.func63, Tryd.ntmps63
  go_wp2_with ((go_at_call 86; refine (rwide_any _ _).mono ?_; rintro e w' ⟨rfl, rfl⟩))
  go_ret
  exact ⟨ret_bool HN.out.symm, Gr.refl _⟩
end Go.Proofs.YtlnkofpcidngoaaDoor
/- Layer 9 (compressor), the reference: fits. -/
namespace Go.Proofs.YtlnkofpcidngoaaDoor
open Go.ChangeShapes Go.WideShapes Go.ChangeAt Go.RowKit
theorem num_i64 (h : Hdr) : i64 (numH h) := by
 unfold numH
 split
 ·have := lowS_rng 16 h.seq; constructor <;> omega
 ·have := lowS_rng 16 h.id; constructor <;> omega
def NumsRel (B n : Nat) (v i : Value) (W wr : World) : Prop := ∃ (j : Nat) (a : Option Addr) (c : Nat) (xs : List Int), j ≤ n ∧ i = .int .i64 j ∧ v = .slice a j c ∧ OwnI B 3 .i64 wr a j c xs ∧ Gr W wr
theorem NumsRel.app {B : Nat} {W wr : World} {a : Option Addr} {j c : Nat} {xs : List Int} (ho : OwnI B 3 .i64 wr a j c xs) (hg : Gr W wr) (hB : B ≤ wr.heap.size) (hW : W.heap.size ≤ B) (N : Int) (hN : i64 N) (hj : j ≤ 1000) :
  ∃ a' c' w', (Builtin.append_ #[27, 27] 27 #[.slice a j c, .slice (some ⟨wr.heap.size, 0, none⟩) 1 1]).run Tryd.prog (wr.alloc (.cells #[.int .i64 N] 3)) = .ok (.slice a' (j + 1) c') w' ∧ OwnI B 3 .i64 w' a' (j + 1) c' (xs ++ [N]) ∧ Gr W w' ∧ (wr.alloc (.cells #[.int .i64 N] 3)).grownBy w' (Value.slice a j c).ownBlock := by
 have hal : Gr wr (wr.alloc (.cells #[.int .i64 N] 3)) := Gr.alloc _ _
 have hrd := rd_new (k := .i64) (w := wr) [N] 3 (0, 0) 1 rfl (by simp [maxLen]) (by intro z hz; simp only [List.mem_singleton] at hz; subst hz; exact WalkArith.wf_i64 hN)
 obtain ⟨a', c', w', h1, h2, h3, -⟩ := app_i64 B _ a j c xs (ho.stay hal) _ 1 1 _ hrd (by omega) (Nat.le_trans hB hal.size)
 exact ⟨a', c', w', h1, h2, grown_own (hg.trans hal) (ho.stay hal) hW h3, h3⟩
set_option maxHeartbeats 2000000 in
set_option maxRecDepth 100000 in
theorem rfits9_any (s : Snd) (h : Hdr) (k : Int) (w : World) (hr : RdH w s.a s.n s.c s.refs) (hn : s.n ≤ 1000) : Calls Tryd.prog 61 #[SVal s, HVal h, .int .i64 k] w fun e w' => ∃ b, e = .returned (.bool b) ∧ Gr w w' := by
 have HR := zqd hr
 clear hr
 go_enter Tryd.func61, Tryd.ntmps61
 go_upto_region 1 with (fail)
 obtain ⟨w1, hw1⟩ : ∃ y, y = (w.alloc (.cells (SCells s).toArray 46)).alloc (.cells (HCells h).toArray 49) := ⟨_, rfl⟩
 have hb1 : CBlk w.heap.size 46 (SCells s) w1 := by rw [hw1]; exact (CBlk.new _ _ _).kept (Gr.alloc _ _)
 have hh1 : CBlk (w.heap.size + 1) 49 (HCells h) w1 := by rw [hw1]; exact heap_two _ _ _
 have hg1 : Gr w w1 := by rw [hw1]; exact (Gr.alloc _ _).trans (Gr.alloc _ _)
 simp only [SCells, HCells] at hw1
 first | rw [← hw1] | (go_show; fail)
 have HB1 := zqd hb1
 have HH1 := zqd hh1
 have HG1 := zqd hg1
 clear hw1 hb1 hh1 hg1
 go_wp2_with fail
 go_loopw [7, 8] (fun v i wr => NumsRel w1.heap.size s.n v i w1 wr) (fun _ i _ => s.n - (intOf i).toNat)
 case atStart => exact ⟨0, none, 0, [], by omega, rfl, rfl, OwnI.nil _ _ _ _, Gr.refl _⟩
 case round =>
  obtain ⟨j, a, c, xs, hj, rfl, rfl, ho, hg⟩ := hrel
  have HO := zqd ho
  have HG := zqd hg
  have x8 := (HB1.out.kept hg).at 8 rfl
  clear ho hg
  by_cases hlt : j < s.n
  ·obtain ⟨f, hf, hfo⟩ := (HR.out.kept (HG1.out.trans HG.out)).get hlt
   obtain ⟨b, off, ea, -, hrow⟩ := (HR.out.kept (HG1.out.trans HG.out)).row (by omega)
   have HRG := zqd (hrow j f hf)
   have hcap := HR.out.2.1
   rw [ea] at x8
   clear hrow hf hfo ea
   go_wp2_with (refine rng_load rfl 49 _ rfl b (off + j * 15) rfl (HCells f) HRG.out Tryd.underlying49 rfl (by kernel_rfl) ?_)
   obtain ⟨N, hN⟩ : ∃ N, numH f = N := ⟨_, rfl⟩
   refine (rnum_is hN wr).mono ?_
   rintro e w2 ⟨rfl, hg2⟩
   obtain ⟨a3, c3, w3, hrun, ho3, hg3, -⟩ := NumsRel.app (HO.out.stay hg2) (HG.out.trans hg2) (HG.out.trans hg2).size (Nat.le_refl _) N (hN ▸ num_i64 f) (by omega)
   have HRUN := zqd hrun
   have HO3 := zqd ho3
   have HG3 := zqd hg3
   clear hrun ho3 hg3 hg2 hN x8 HRG
   go_wp2_with (at_builtin; refine wpList_app rfl _ _ _ rfl rfl rfl HRUN.out ?_)
   go_roundw
   case rel => exact ⟨j + 1, a3, c3, _, by omega, by go_num, rfl, HO3.out, HG3.out⟩
   case measure => (simp [intOf] <;> omega)
  ·obtain rfl : j = s.n := by omega
   have HHW := zqd (HH1.out.kept HG.out)
   go_wp2_with (refine cblk_load rfl 49 _ rfl (w.heap.size + 1) rfl HHW.out Tryd.underlying49 rfl (by kernel_rfl) ?_)
   obtain ⟨N, hN⟩ : ∃ N, numH h = N := ⟨_, rfl⟩
   refine (rnum_is hN wr).mono ?_
   rintro e w2 ⟨rfl, hg2⟩
   have HG2 := zqd (HG1.out.trans (HG.out.trans hg2))
   have HO2 := zqd (HO.out.stay hg2)
   clear hg2 hN x8
   go_wp2_with fail
   refine (rfits_any 16 a s.n c xs k N w2 HO2.out.rd).mono ?_
   rintro e w3 ⟨rfl, hg3⟩
   have HG3 := zqd (HG2.out.trans hg3)
   clear hg3
   go_wp2_with fail
   go_ret
   exact ⟨_, rfl, HG3.out⟩
end Go.Proofs.YtlnkofpcidngoaaDoor
