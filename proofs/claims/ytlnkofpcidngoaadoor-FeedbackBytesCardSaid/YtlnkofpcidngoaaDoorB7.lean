import Derived.Test.YtlnkofpcidngoaaDoorB0
import Derived.Test.YtlnkofpcidngoaaDoorB6
namespace Go.Proofs.YtlnkofpcidngoaaDoor
open Go.ChangeShapes Go.WideShapes Go.ChangeAt Go.RowKit
def numH (h : Hdr) : Int := if h.kind = 2 then lowS 16 h.seq else lowS 16 h.id
set_option maxRecDepth 20000 in
set_option maxHeartbeats 2000000 in
theorem num_any (h : Hdr) (w : World) : Calls Tryd.prog 75 #[HVal h] w fun e w' => e = .returned (.int .i64 (numH h)) ∧ Gr w w' := by
 by_cases hk : h.kind = 2
 · have hv : numH h = lowS 16 h.seq := by unfold numH; rw [if_pos hk]
   rw [hv]
   have hb : (h.kind == 2) = true := by simpa using hk
   clear hk hv
   go_enter Tryd.func75, Tryd.ntmps75
   go_wp2_with fail
   refine (slow 16 h.seq _).mono ?_
   rintro e w' ⟨rfl, rfl⟩
   go_wp2_with fail
   go_ret
   exact ⟨rfl, Gr.alloc _ _⟩
 · have hv : numH h = lowS 16 h.id := by unfold numH; rw [if_neg hk]
   rw [hv]
   have hb : (h.kind == 2) = false := by simpa using hk
   clear hk hv
   go_enter Tryd.func75, Tryd.ntmps75
   go_wp2_with fail
   refine (slow 16 h.id _).mono ?_
   rintro e w' ⟨rfl, rfl⟩
   go_wp2_with fail
   go_ret
   exact ⟨rfl, Gr.alloc _ _⟩
set_option maxRecDepth 20000 in
set_option maxHeartbeats 2000000 in
theorem rnum_any (h : Hdr) (w : World) : Calls Tryd.prog 15 #[HVal h] w fun e w' => e = .returned (.int .i64 (numH h)) ∧ Gr w w' := by
 by_cases hk : h.kind = 2
 · have hv : numH h = lowS 16 h.seq := by unfold numH; rw [if_pos hk]
   rw [hv]
   have hb : (h.kind == 2) = true := by simpa using hk
   clear hk hv
   go_enter Tryd.func15, Tryd.ntmps15
   go_wp2_with fail
   refine (rlow 16 h.seq _).mono ?_
   rintro e w' ⟨rfl, rfl⟩
   go_wp2_with fail
   go_ret
   exact ⟨rfl, Gr.alloc _ _⟩
 · have hv : numH h = lowS 16 h.id := by unfold numH; rw [if_neg hk]
   rw [hv]
   have hb : (h.kind == 2) = false := by simpa using hk
   clear hk hv
   go_enter Tryd.func15, Tryd.ntmps15
   go_wp2_with fail
   refine (rlow 16 h.id _).mono ?_
   rintro e w' ⟨rfl, rfl⟩
   go_wp2_with fail
   go_ret
   exact ⟨rfl, Gr.alloc _ _⟩
def ch5 (p q r s t : Bool) : Int := (if p then 1 else 0) + ((if q then 2 else 0) + ((if r then 4 else 0) + ((if s then 8 else 0) + (if t then 16 else 0))))
def chH (a b : Hdr) : Int := ch5 (a.tos != b.tos) (a.ttl != b.ttl) (a.fixed != b.fixed) (a.type != b.type) ((a.check == 0) != (b.check == 0))
set_option maxRecDepth 20000 in
set_option maxHeartbeats 2000000 in
theorem rchanged_any (a b : Hdr) (w : World) : Calls Tryd.prog 37 #[HVal a, HVal b] w fun e w' => e = .returned (.int .i64 (chH a b)) ∧ Gr w w' := by
 unfold chH
 obtain ⟨p, hp⟩ : ∃ p, (a.tos != b.tos) = p := ⟨_, rfl⟩
 obtain ⟨q, hq⟩ : ∃ p, (a.ttl != b.ttl) = p := ⟨_, rfl⟩
 obtain ⟨r, hr⟩ : ∃ p, (a.fixed != b.fixed) = p := ⟨_, rfl⟩
 obtain ⟨s, hs⟩ : ∃ p, (a.type != b.type) = p := ⟨_, rfl⟩
 obtain ⟨t, ht⟩ : ∃ p, ((a.check == 0) != (b.check == 0)) = p := ⟨_, rfl⟩
 rw [hp, hq, hr, hs, ht]
 go_enter Tryd.func37, Tryd.ntmps37
 go_wp2
 all_goals (go_ret; exact ⟨ret_i64 (by cases t <;> simp_all [ch5]), (Gr.alloc _ _).trans (Gr.alloc _ _)⟩)
end Go.Proofs.YtlnkofpcidngoaaDoor
