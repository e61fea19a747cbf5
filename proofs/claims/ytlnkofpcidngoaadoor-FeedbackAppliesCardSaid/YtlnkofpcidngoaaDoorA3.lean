/- Several texts in one. -/
import Derived.Test.YtlnkofpcidngoaaDoorA0
import Derived.Test.YtlnkofpcidngoaaDoorA2
/- Layer 06 (flow): the number of a header; which slowly changing fields are different. -/
namespace Go.Proofs.YtlnkofpcidngoaaDoor
open Go.ChangeShapes Go.WideShapes Go.ChangeAt Go.RowKit
def numH (h : Hdr) : Int := if h.kind = 2 then lowS 16 h.seq else lowS 16 h.id
set_option maxRecDepth 20000 in
set_option maxHeartbeats 2000000 in
theorem num_any (h : Hdr) (w : World) : Calls Tryd.prog 75 #[HVal h] w fun e w' => e = .returned (.int .i64 (numH h)) ∧ Gr w w' := by
 by_cases hk : h.kind = 2
 ·have hv : numH h = lowS 16 h.seq := by unfold numH; rw [if_pos hk]
  rw [hv]
  have hb : (h.kind == 2) = true := by simpa using hk
  clear hk hv
  go_enter Tryd.func75, Tryd.ntmps75
  go_wp2_with fail
  refine (slow 16 h.seq _).mono ?_
  rintro e w' ⟨rfl, rfl⟩
  go_wp2_with fail
  go_ret
  exact ⟨rfl, Gr.alloc _ _⟩
 ·have hv : numH h = lowS 16 h.id := by unfold numH; rw [if_neg hk]
  rw [hv]
  have hb : (h.kind == 2) = false := by simpa using hk
  clear hk hv
  go_enter Tryd.func75, Tryd.ntmps75
  go_wp2_with fail
  refine (slow 16 h.id _).mono ?_
  rintro e w' ⟨rfl, rfl⟩
  go_wp2_with fail
  go_ret
  exact ⟨rfl, Gr.alloc _ _⟩
set_option maxRecDepth 20000 in
set_option maxHeartbeats 2000000 in
theorem rnum_any (h : Hdr) (w : World) : Calls Tryd.prog 15 #[HVal h] w fun e w' => e = .returned (.int .i64 (numH h)) ∧ Gr w w' := by
 by_cases hk : h.kind = 2
 ·have hv : numH h = lowS 16 h.seq := by unfold numH; rw [if_pos hk]
  rw [hv]
  have hb : (h.kind == 2) = true := by simpa using hk
  clear hk hv
  go_enter Tryd.func15, Tryd.ntmps15
  go_wp2_with fail
  refine (rlow 16 h.seq _).mono ?_
  rintro e w' ⟨rfl, rfl⟩
  go_wp2_with fail
  go_ret
  exact ⟨rfl, Gr.alloc _ _⟩
 ·have hv : numH h = lowS 16 h.id := by unfold numH; rw [if_neg hk]
  rw [hv]
  have hb : (h.kind == 2) = false := by simpa using hk
  clear hk hv
  go_enter Tryd.func15, Tryd.ntmps15
  go_wp2_with fail
  refine (rlow 16 h.id _).mono ?_
  rintro e w' ⟨rfl, rfl⟩
  go_wp2_with fail
  go_ret
  exact ⟨rfl, Gr.alloc _ _⟩
def ch5 (p q r s t : Bool) : Int := (if p then 1 else 0) + ((if q then 2 else 0) + ((if r then 4 else 0) + ((if s then 8 else 0) + (if t then 16 else 0))))
def chH (a b : Hdr) : Int := ch5 (a.tos != b.tos) (a.ttl != b.ttl) (a.fixed != b.fixed) (a.type != b.type) ((a.check == 0) != (b.check == 0))
set_option maxRecDepth 20000 in
set_option maxHeartbeats 2000000 in
theorem rchanged_any (a b : Hdr) (w : World) : Calls Tryd.prog 37 #[HVal a, HVal b] w fun e w' => e = .returned (.int .i64 (chH a b)) ∧ Gr w w' := by
 unfold chH
 obtain ⟨p, hp⟩ : ∃ p, (a.tos != b.tos) = p := ⟨_, rfl⟩
 obtain ⟨q, hq⟩ : ∃ p, (a.ttl != b.ttl) = p := ⟨_, rfl⟩
 obtain ⟨r, hr⟩ : ∃ p, (a.fixed != b.fixed) = p := ⟨_, rfl⟩
 obtain ⟨s, hs⟩ : ∃ p, (a.type != b.type) = p := ⟨_, rfl⟩
 obtain ⟨t, ht⟩ : ∃ p, ((a.check == 0) != (b.check == 0)) = p := ⟨_, rfl⟩
 rw [hp, hq, hr, hs, ht]
 go_enter Tryd.func37, Tryd.ntmps37
 go_wp2
 all_goals (go_ret; exact ⟨ret_i64 (by cases t <;> simp_all [ch5]), (Gr.alloc _ _).trans (Gr.alloc _ _)⟩)
end Go.Proofs.YtlnkofpcidngoaaDoor
/- Layer 06 (flow): when dynamic parameters are valid; the program's Changed. -/
namespace Go.Proofs.YtlnkofpcidngoaaDoor
open Go.ChangeShapes Go.WideShapes Go.ChangeAt Go.RowKit
abbrev DVal (s f : Int) : Value := .agg #[.int .i64 s, .int .i64 f]
def dynB (s f : Int) : Bool := decide (0 ≤ s) && (decide (s ≤ 65535) && (decide (f = 0) || decide (f = 1)))
set_option maxRecDepth 20000 in
set_option maxHeartbeats 2000000 in
theorem dyn_any (s f : Int) (w : World) : Calls Tryd.prog 95 #[DVal s f] w fun e w' => e = .returned (.bool (dynB s f)) ∧ Gr w w' := by
 by_cases h1 : s < 0
 ·have hv : dynB s f = false := by unfold dynB; rw [decide_eq_false (by omega)]; rfl
  rw [hv]
  clear hv
  go_enter Tryd.func95, Tryd.ntmps95
  go_wp2
  go_ret
  exact ⟨rfl, Gr.alloc _ _⟩
 ·by_cases h2 : 65535 < s
  ·have hv : dynB s f = false := by unfold dynB; rw [decide_eq_false (show ¬ s ≤ 65535 by omega)]; simp
   rw [hv]
   clear hv
   go_enter Tryd.func95, Tryd.ntmps95
   go_wp2
   go_ret
   exact ⟨rfl, Gr.alloc _ _⟩
  ·by_cases h3 : f = 0
   ·subst h3
    have hv : dynB s 0 = true := by unfold dynB; rw [decide_eq_true (show 0 ≤ s by omega), decide_eq_true (show s ≤ 65535 by omega)]; rfl
    rw [hv]
    clear hv
    go_enter Tryd.func95, Tryd.ntmps95
    go_wp2
    go_ret
    exact ⟨rfl, Gr.alloc _ _⟩
   ·by_cases h4 : f = 1
    ·subst h4
     have hv : dynB s 1 = true := by unfold dynB; rw [decide_eq_true (show 0 ≤ s by omega), decide_eq_true (show s ≤ 65535 by omega)]; rfl
     rw [hv]
     clear hv
     go_enter Tryd.func95, Tryd.ntmps95
     go_wp2
     go_ret
     exact ⟨rfl, Gr.alloc _ _⟩
    ·have hv : dynB s f = false := by unfold dynB; rw [decide_eq_false h3, decide_eq_false h4]; simp
     have e3 : (f == 0) = false := by simpa using h3
     have e4 : (f == 1) = false := by simpa using h4
     rw [hv]
     clear hv h3 h4
     go_enter Tryd.func95, Tryd.ntmps95
     go_wp2
     go_ret
     exact ⟨rfl, Gr.alloc _ _⟩
set_option maxRecDepth 20000 in
set_option maxHeartbeats 2000000 in
theorem rdyn_any (s f : Int) (w : World) : Calls Tryd.prog 76 #[DVal s f] w fun e w' => e = .returned (.bool (dynB s f)) ∧ Gr w w' := by
 by_cases h1 : s < 0
 ·have hv : dynB s f = false := by unfold dynB; rw [decide_eq_false (by omega)]; rfl
  rw [hv]
  clear hv
  go_enter Tryd.func76, Tryd.ntmps76
  go_wp2
  go_ret
  exact ⟨rfl, Gr.alloc _ _⟩
 ·by_cases h2 : 65535 < s
  ·have hv : dynB s f = false := by unfold dynB; rw [decide_eq_false (show ¬ s ≤ 65535 by omega)]; simp
   rw [hv]
   clear hv
   go_enter Tryd.func76, Tryd.ntmps76
   go_wp2
   go_ret
   exact ⟨rfl, Gr.alloc _ _⟩
  ·by_cases h3 : f = 0
   ·subst h3
    have hv : dynB s 0 = true := by unfold dynB; rw [decide_eq_true (show 0 ≤ s by omega), decide_eq_true (show s ≤ 65535 by omega)]; rfl
    rw [hv]
    clear hv
    go_enter Tryd.func76, Tryd.ntmps76
    go_wp2
    go_ret
    exact ⟨rfl, Gr.alloc _ _⟩
   ·by_cases h4 : f = 1
    ·subst h4
     have hv : dynB s 1 = true := by unfold dynB; rw [decide_eq_true (show 0 ≤ s by omega), decide_eq_true (show s ≤ 65535 by omega)]; rfl
     rw [hv]
     clear hv
     go_enter Tryd.func76, Tryd.ntmps76
     go_wp2
     go_ret
     exact ⟨rfl, Gr.alloc _ _⟩
    ·have hv : dynB s f = false := by unfold dynB; rw [decide_eq_false h3, decide_eq_false h4]; simp
     have e3 : (f == 0) = false := by simpa using h3
     have e4 : (f == 1) = false := by simpa using h4
     rw [hv]
     clear hv h3 h4
     go_enter Tryd.func76, Tryd.ntmps76
     go_wp2
     go_ret
     exact ⟨rfl, Gr.alloc _ _⟩
/-! ### Changed -/
end Go.Proofs.YtlnkofpcidngoaaDoor
/- Layer 05 (packet): upTo of the program. -/
namespace Go.Proofs.YtlnkofpcidngoaaDoor
open Go.ChangeShapes Go.WideShapes Go.ChangeAt Go.RowKit
def allB (g : Int) (xs : List Int) : Bool := xs.all fun x => inB x g
theorem allB_bad {g : Int} {xs : List Int} {k : Nat} (hk : k < xs.length) (h : inB (xs[k]?.getD 0) g = false) : allB g xs = false := by
 unfold allB
 rw [List.all_eq_false]
 refine ⟨xs[k]?.getD 0, ?_, by rw [h]; simp⟩
 rw [List.getElem?_eq_getElem hk]; exact List.getElem_mem _
set_option maxRecDepth 20000 in
set_option maxHeartbeats 1000000 in
theorem upto_any (g : Int) (a : Option Addr) (len cap : Nat) (xs : List Int) (w : World) (hr : Rd .i64 w a len xs) : Calls Tryd.prog 102 #[.int .i64 g, .slice a len cap] w fun e w' => e = .returned (.bool (allB g xs)) ∧ w = w' := by
 have hm := hr.2.2.1
 simp only [maxLen] at hm
 have HR := zqd hr
 have HRL := zqd hr.1
 clear hr
 go_enter Tryd.func102, Tryd.ntmps102
 go_wp2_with fail
 go_loop [6, 9] (fun _ i => ∃ k : Nat, k ≤ len ∧ i = .int .i64 k ∧ ∀ j, j < k → inB (xs[j]?.getD 0) g = true) (fun _ i => len - (intOf i).toNat)
 case atStart => exact ⟨0, by omega, rfl, fun j hj => by omega⟩
 case round =>
  obtain ⟨k, hk, rfl, hall⟩ := hrel
  have HALL := zqd hall
  clear hall
  by_cases hlt : k < len
  ·obtain ⟨b, off, ea, -, hc⟩ := HR.out.some (by omega)
   subst ea
   have ck := hc k hlt
   obtain ⟨x, hx⟩ : ∃ x, xs[k]?.getD 0 = x := ⟨_, rfl⟩
   rw [hx] at ck
   have HX := zqd hx
   clear hc hx
   by_cases h0 : x < 0
   ·have hb : allB g xs = false := allB_bad (by rw [HRL.out]; exact hlt) (by rw [HX.out]; unfold inB; rw [decide_eq_false (by omega)]; rfl)
    have HB := zqd hb
    clear hb
    go_wp2_with fail
    go_ret
    exact ⟨ret_bool HB.out.symm, rfl⟩
   ·by_cases h1 : g < x
    ·have hb : allB g xs = false := allB_bad (by rw [HRL.out]; exact hlt) (by rw [HX.out]; unfold inB; rw [decide_eq_false (show ¬ x ≤ g by omega)]; simp)
     have HB := zqd hb
     clear hb
     go_wp2_with fail
     go_ret
     exact ⟨ret_bool HB.out.symm, rfl⟩
    ·have hin : inB x g = true := by unfold inB; rw [decide_eq_true (show 0 ≤ x by omega), decide_eq_true (show x ≤ g by omega)]; rfl
     have HIN := zqd hin
     clear hin
     go_wp2_with fail
     go_round
     case rel => exact ⟨k + 1, by omega, by go_num, fun j hj => by
      by_cases hjk : j < k
      ·exact HALL.out j hjk
      ·obtain rfl : j = k := by omega
       rw [HX.out]; exact HIN.out⟩
     case measure => (simp [intOf] <;> omega)
  ·obtain rfl : k = len := by omega
   have hb : allB g xs = true := by
    unfold allB
    rw [List.all_eq_true]
    intro x hx
    obtain ⟨j, hj, rfl⟩ := List.getElem_of_mem hx
    have := HALL.out j (by rw [← HRL.out]; exact hj)
    rwa [List.getElem?_eq_getElem hj] at this
   have HB := zqd hb
   clear hb
   go_wp2_with fail
   go_ret
   exact ⟨ret_bool HB.out.symm, rfl⟩
end Go.Proofs.YtlnkofpcidngoaaDoor
