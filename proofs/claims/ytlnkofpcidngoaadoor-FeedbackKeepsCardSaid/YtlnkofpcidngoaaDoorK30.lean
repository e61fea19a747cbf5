/- Several texts in one. -/
import Derived.Test.YtlnkofpcidngoaaDoorK0
import Derived.Test.YtlnkofpcidngoaaDoorK2
import Derived.Test.YtlnkofpcidngoaaDoorK3
import Derived.Test.YtlnkofpcidngoaaDoorK1
namespace Go.Proofs.YtlnkofpcidngoaaDoor
open Go.ChangeShapes Go.WideShapes Go.ChangeAt Go.RowKit
theorem info_i64 : (Tryd.prog.info? 3).map (fun i => (i.zero, i.size, i.bytes)) = some (some (.int .i64 0), 1, 8) := by kernel_rfl
theorem app_i64 (B : Nat) (w : World) (a : Option Addr) (n cap : Nat) (xs : List Int) (hown : OwnI B 3 .i64 w a n cap xs)
   (b : Option Addr) (m c : Nat) (ys : List Int) (hr : Rd .i64 w b m ys) (hlen : n + m ≤ 17592186044416) (hbase : B ≤ w.heap.size) :
   ∃ a' cap' w', (Builtin.append_ #[27, 27] 27 #[.slice a n cap, .slice b m c]).run Tryd.prog w = .ok (.slice a' (n + m) cap') w' ∧ OwnI B 3 .i64 w' a' (n + m) cap' (xs ++ ys) ∧
     w.grownBy w' (Value.slice a n cap).ownBlock ∧ Follows w (.slice a n cap) (.slice a' (n + m) cap') := by
 obtain ⟨i0, hi, hz0, hz1, hz2⟩ := info_parts info_i64
 exact run_appI B _ _ _ i0 (.int .i64 0) .i64 8 Tryd.underlying27 hi hz0 hz1 hz2 rfl w a n cap xs hown b m c ys hr (by omega) (by simp [maxLen]; omega) hbase
theorem Rd.take {k : IntKind} {w : World} {a : Option Addr} {len : Nat} {xs : List Int} (h : Rd k w a len xs) (n : Nat) (hn : n ≤ len) : Rd k w a n (xs.take n) := by
 obtain ⟨h1, h2, h3, h4⟩ := h
 refine ⟨by simp; omega, fun x hx => h2 x (List.mem_of_mem_take hx), by omega, ?_⟩
 rcases h4 with h0 | ⟨b, off, rfl, hb, hc⟩
 · exact .inl (by omega)
 · refine .inr ⟨b, off, rfl, hb, fun i hi => ?_⟩
   rw [hc i (by omega), List.getElem?_take_of_lt hi]
def offS (k : Int) : Int := if 3 ≤ k ∧ k ≤ 32 then 2 ^ (k - 3).toNat - 1 else -1
def knownB (w : Int) : Bool := decide (w = 8 ∨ w = 16 ∨ w = 32)
def valB (w v : Int) : Bool := decide (0 ≤ v ∧ v < 2 ^ w.toNat)
def decS (w r k low : Int) : Int := lowS w (r - offS k + distS k (r - offS k) low)
def decV (w r k low : Int) : Int := if knownB w && decide (3 ≤ k ∧ k ≤ w) && valB w r && valB k low then decS w r k low else 0
def decE (w r k low : Int) : Int := if knownB w then (if decide (3 ≤ k ∧ k ≤ w) && valB w r && valB k low then 0 else 3) else 7
def fitOne (w k v r : Int) : Bool := valB w r && (decS w r k (lowS k v) == v)
def fitHead (w k v : Int) : Bool := knownB w && decide (3 ≤ k ∧ k ≤ w) && valB w v
def fitsS (w : Int) (rs : List Int) (k v : Int) : Bool := fitHead w k v && rs.all (fitOne w k v)
theorem known_rng {w : Int} (h : knownB w = true) : 8 ≤ w ∧ w ≤ 32 := by
 simp only [knownB, decide_eq_true_eq] at h; omega
theorem off_rng {k : Int} : -1 ≤ offS k ∧ offS k < 4294967296 := by
 unfold offS; split
 · have h1 := two_pow_pos (k - 3).toNat
   have h2 : (2 : Int) ^ (k - 3).toNat ≤ 2 ^ 32 := two_pow_le (by omega)
   have h3 : (2 : Int) ^ 32 = 4294967296 := by rfl
   omega
 · omega
theorem val_rng {w v : Int} (hw : w ≤ 32) (h : valB w v = true) : 0 ≤ v ∧ v < 4294967296 := by
 simp only [valB, decide_eq_true_eq] at h
 have h2 : (2 : Int) ^ w.toNat ≤ 2 ^ 32 := two_pow_le (by omega)
 have h3 : (2 : Int) ^ 32 = 4294967296 := by rfl
 omega
theorem low_val {k v : Int} (h1 : 1 ≤ k) (h2 : k ≤ 32) : valB k (lowS k v) = true := by
 simp only [valB, lowS, vld_mk h1 h2, if_true, decide_eq_true_eq]
 have hp := two_pow_pos k.toNat
 exact ⟨Int.emod_nonneg _ (by omega), Int.emod_lt_of_pos _ hp⟩
theorem dec_yes {x r k low : Int} (h1 : knownB x = true) (h2 : 3 ≤ k ∧ k ≤ x) (h3 : valB x r = true) (h4 : valB k low = true) : decS x r k low = decV x r k low ∧ 0 = decE x r k low := by
 simp [decV, decE, h1, h2, h3, h4]
theorem dec_no {x r k low : Int} (h1 : knownB x = true) (h2 : ¬ (3 ≤ k ∧ k ≤ x ∧ valB x r = true ∧ valB k low = true)) : 0 = decV x r k low ∧ 3 = decE x r k low := by
 have : (decide (3 ≤ k ∧ k ≤ x) && valB x r && valB k low) = false := by
   cases h : (decide (3 ≤ k ∧ k ≤ x) && valB x r && valB k low)
   · rfl
   · simp only [Bool.and_eq_true, decide_eq_true_eq] at h; exact absurd ⟨h.1.1.1, h.1.1.2, h.1.2, h.2⟩ h2
 unfold decV decE
 rw [h1]
 simp only [Bool.true_and, this]
 exact ⟨rfl, rfl⟩
theorem ret_ii' {a b x y : Int} (h : a = b) (k : x = y) : Ending.returned (.tuple #[.int .i64 a, .int .i64 x]) = .returned (.tuple #[.int .i64 b, .int .i64 y]) := by rw [h, k]
theorem fits_len {w : Int} {rs : List Int} {k v : Int} (h : fitHead w k v = true) : fitsS w rs k v = rs.all (fitOne w k v) := by simp [fitsS, h]
theorem fits_nohead {w : Int} {rs : List Int} {k v : Int} (h : fitHead w k v = false) : fitsS w rs k v = false := by simp [fitsS, h]
theorem head_parts {w k v : Int} : fitHead w k v = true ↔ knownB w = true ∧ (3 ≤ k ∧ k ≤ w) ∧ valB w v = true := by
 simp [fitHead, and_assoc]
theorem fhead_no {w k v : Int} (h : ¬ (knownB w = true ∧ (3 ≤ k ∧ k ≤ w) ∧ valB w v = true)) : fitHead w k v = false := by
 cases hh : fitHead w k v
 · rfl
 · exact absurd (head_parts.1 hh) h
theorem all_drop {p : Int → Bool} (rs : List Int) (i : Nat) (h : i < rs.length) : (rs.drop i).all p = (p (rs[i]?.getD 0) && (rs.drop (i + 1)).all p) := by
 rw [List.drop_eq_getElem_cons h, List.all_cons]; simp [h]
set_option maxRecDepth 20000 in
set_option maxHeartbeats 2000000 in
theorem rwide_any (x : Int) (w : World) : Calls Tryd.prog 86 #[.int .i64 x] w fun e w' => e = .returned (.bool (knownB x)) ∧ w = w' := by
 go_enter Tryd.func86, Tryd.ntmps86
 go_wp2
 all_goals (go_ret; exact ⟨ret_bool (by rw [Bool.eq_iff_iff]; simp [knownB]; omega), rfl⟩)
set_option maxRecDepth 20000 in
set_option maxHeartbeats 2000000 in
theorem roffset_any (k : Int) (w : World) : Calls Tryd.prog 101 #[.int .i64 k] w fun e w' => e = .returned (.int .i64 (offS k)) ∧ w = w' := by
 go_enter Tryd.func101, Tryd.ntmps101
 go_wp2
 · go_ret
   exact ⟨ret_i64 (by unfold offS; rw [if_neg (by omega)]), rfl⟩
 · go_ret
   exact ⟨ret_i64 (by unfold offS; rw [if_pos (by assumption), wrap_pow1 (by omega)]), rfl⟩
 · go_ret
   exact ⟨ret_i64 (by unfold offS; rw [if_neg (by omega)]), rfl⟩
theorem val_neg {x r : Int} (h : r < 0) : valB x r = false := by simp [valB]; omega
theorem val_far {x r : Int} (h : 2 ^ x.toNat ≤ r) : valB x r = false := by simp [valB]; omega
theorem val_yes {x r : Int} (h : ¬ r < 0) (h2 : ¬ 2 ^ x.toNat ≤ r) : valB x r = true := by simp [valB]; omega
set_option maxRecDepth 20000 in
set_option maxHeartbeats 2000000 in
theorem rdecode_any (x r k low : Int) (w : World) :
   Calls Tryd.prog 87 #[.int .i64 x, .int .i64 r, .int .i64 k, .int .i64 low] w fun e w' => e = .returned (.tuple #[.int .i64 (decV x r k low), .int .i64 (decE x r k low)]) ∧ w = w' := by
 by_cases h1 : knownB x = true
 · have hx := known_rng h1
   by_cases h3 : k < 3
   · have hn := dec_no (r := r) (k := k) (low := low) h1 (fun h => by omega)
     have HN := zqd hn
     clear hn
     go_enter Tryd.func87, Tryd.ntmps87
     go_wp2_with ((go_at_call 86; refine (rwide_any _ _).mono ?_; rintro e w' ⟨rfl, rfl⟩))
     go_ret2
     exact ⟨ret_ii' HN.out.1 HN.out.2, rfl⟩
   · by_cases h4 : x < k
     · have hn := dec_no (r := r) (k := k) (low := low) h1 (fun h => by omega)
       have HN := zqd hn
       clear hn
       go_enter Tryd.func87, Tryd.ntmps87
       go_wp2_with ((go_at_call 86; refine (rwide_any _ _).mono ?_; rintro e w' ⟨rfl, rfl⟩))
       go_ret2
       exact ⟨ret_ii' HN.out.1 HN.out.2, rfl⟩
     · have hwx := wrap_pow (show x.toNat ≤ 62 by omega)
       have hwk := wrap_pow (show k.toNat ≤ 62 by omega)
       by_cases b1 : r < 0
       · have hn := dec_no (r := r) (k := k) (low := low) h1 (fun h => by rw [val_neg b1] at h; simp at h)
         have HN := zqd hn
         clear hn
         go_enter Tryd.func87, Tryd.ntmps87
         go_wp2_with ((go_at_call 86; refine (rwide_any _ _).mono ?_; rintro e w' ⟨rfl, rfl⟩))
         go_ret2
         exact ⟨ret_ii' HN.out.1 HN.out.2, rfl⟩
       · by_cases b2 : 2 ^ x.toNat ≤ r
         · have hn := dec_no (r := r) (k := k) (low := low) h1 (fun h => by rw [val_far b2] at h; simp at h)
           have HN := zqd hn
           clear hn
           go_enter Tryd.func87, Tryd.ntmps87
           go_wp2_with ((go_at_call 86; refine (rwide_any _ _).mono ?_; rintro e w' ⟨rfl, rfl⟩))
           go_ret2
           exact ⟨ret_ii' HN.out.1 HN.out.2, rfl⟩
         · by_cases b3 : low < 0
           · have hn := dec_no (r := r) (k := k) (low := low) h1 (fun h => by rw [val_neg b3] at h; simp at h)
             have HN := zqd hn
             clear hn
             go_enter Tryd.func87, Tryd.ntmps87
             go_wp2_with ((go_at_call 86; refine (rwide_any _ _).mono ?_; rintro e w' ⟨rfl, rfl⟩))
             go_ret2
             exact ⟨ret_ii' HN.out.1 HN.out.2, rfl⟩
           · by_cases b4 : 2 ^ k.toNat ≤ low
             · have hn := dec_no (r := r) (k := k) (low := low) h1 (fun h => by rw [val_far b4] at h; simp at h)
               have HN := zqd hn
               clear hn
               go_enter Tryd.func87, Tryd.ntmps87
               go_wp2_with ((go_at_call 86; refine (rwide_any _ _).mono ?_; rintro e w' ⟨rfl, rfl⟩))
               go_ret2
               exact ⟨ret_ii' HN.out.1 HN.out.2, rfl⟩
             · have h5 := val_yes b1 b2
               have h6 := val_yes b3 b4
               have hr := val_rng hx.2 h5
               have ho := off_rng (k := k)
               have hd : -1 ≤ distS k (r - offS k) low ∧ distS k (r - offS k) low < 4294967296 := lowS_rng k (low - (r - offS k))
               have hn := dec_yes h1 (by omega) h5 h6
               have HN := zqd hn
               clear hn h5 h6
               go_enter Tryd.func87, Tryd.ntmps87
               go_wp2_with (first | ((go_at_call 86; refine (rwide_any _ _).mono ?_; rintro e w' ⟨rfl, rfl⟩)) | ((go_at_call 101; refine (roffset_any _ _).mono ?_; rintro e w' ⟨rfl, rfl⟩)) | ((go_at_call 59; refine (rdist _ _ _ _).mono ?_; rintro e w' ⟨rfl, rfl⟩)) | ((go_at_call 43; refine (rlow _ _ _).mono ?_; rintro e w' ⟨rfl, rfl⟩)))
               go_ret2
               exact ⟨ret_ii' HN.out.1 HN.out.2, rfl⟩
 · have h1' : knownB x = false := by simpa using h1
   have hn : 0 = decV x r k low ∧ 7 = decE x r k low := by simp [decV, decE, h1']
   have HN := zqd hn
   clear hn h1
   go_enter Tryd.func87, Tryd.ntmps87
   go_wp2_with ((go_at_call 86; refine (rwide_any _ _).mono ?_; rintro e w' ⟨rfl, rfl⟩))
   go_ret2
   exact ⟨ret_ii' HN.out.1 HN.out.2, rfl⟩
end Go.Proofs.YtlnkofpcidngoaaDoor
