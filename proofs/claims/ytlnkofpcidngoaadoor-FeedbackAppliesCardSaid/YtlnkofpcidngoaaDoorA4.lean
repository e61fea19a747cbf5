/- Layer 05: when a header is valid (the reference): by gen_valid.py. -/
import Derived.Test.YtlnkofpcidngoaaDoorA0
import Derived.Test.YtlnkofpcidngoaaDoorA3
namespace Go.Proofs.YtlnkofpcidngoaaDoor
open Go.ChangeShapes Go.WideShapes Go.ChangeAt Go.RowKit
set_option maxRecDepth 20000 in
set_option maxHeartbeats 4000000 in
theorem rvalid_one (h : Hdr) (w : World) (hk : h.kind = 1) : Calls Tryd.prog 60 #[HVal h] w fun e w' => e = .returned (.bool (validH h)) ∧ Gr w w' := by
 have k1 : (h.kind == 1) = true := by simp [hk]
 have k2 : (h.kind != 1) = false := by simp [hk]
 have hkb : kindB h = true := by simp [kindB, hk]
 clear hk
 cases e0 : inB h.tos 255
 ·have hv : validH h = false := by simp [validH, hkb, commonB, restB, k1, e0]
  rw [hv]
  clear hv hkb
  go_enter Tryd.func60, Tryd.ntmps60
  go_wp2_with (go_at_call 85; ((with_reducible refine (in_any _ _ _).mono ?_)); rintro e w' ⟨rfl, rfl⟩)
  go_ret
  exact ⟨rfl, Gr.alloc _ _⟩
 cases e1 : inB h.ttl 255
 ·have hv : validH h = false := by simp [validH, hkb, commonB, restB, k1, e0, e1]
  rw [hv]
  clear hv hkb
  go_enter Tryd.func60, Tryd.ntmps60
  go_wp2_with (go_at_call 85; ((with_reducible refine (in_any _ _ _).mono ?_)); rintro e w' ⟨rfl, rfl⟩)
  go_ret
  exact ⟨rfl, Gr.alloc _ _⟩
 cases e2 : inB h.id 65535
 ·have hv : validH h = false := by simp [validH, hkb, commonB, restB, k1, e0, e1, e2]
  rw [hv]
  clear hv hkb
  go_enter Tryd.func60, Tryd.ntmps60
  go_wp2_with (go_at_call 85; ((with_reducible refine (in_any _ _ _).mono ?_)); rintro e w' ⟨rfl, rfl⟩)
  go_ret
  exact ⟨rfl, Gr.alloc _ _⟩
 cases e3 : inB h.fport 65535
 ·have hv : validH h = false := by simp [validH, hkb, commonB, restB, k1, e0, e1, e2, e3]
  rw [hv]
  clear hv hkb
  go_enter Tryd.func60, Tryd.ntmps60
  go_wp2_with (go_at_call 85; ((with_reducible refine (in_any _ _ _).mono ?_)); rintro e w' ⟨rfl, rfl⟩)
  go_ret
  exact ⟨rfl, Gr.alloc _ _⟩
 cases e4 : inB h.tport 65535
 ·have hv : validH h = false := by simp [validH, hkb, commonB, restB, k1, e0, e1, e2, e3, e4]
  rw [hv]
  clear hv hkb
  go_enter Tryd.func60, Tryd.ntmps60
  go_wp2_with (go_at_call 85; ((with_reducible refine (in_any _ _ _).mono ?_)); rintro e w' ⟨rfl, rfl⟩)
  go_ret
  exact ⟨rfl, Gr.alloc _ _⟩
 cases e5 : inB h.check 65535
 ·have hv : validH h = false := by simp [validH, hkb, commonB, restB, k1, e0, e1, e2, e3, e4, e5]
  rw [hv]
  clear hv hkb
  go_enter Tryd.func60, Tryd.ntmps60
  go_wp2_with (go_at_call 85; ((with_reducible refine (in_any _ _ _).mono ?_)); rintro e w' ⟨rfl, rfl⟩)
  go_ret
  exact ⟨rfl, Gr.alloc _ _⟩
 cases e6 : inB h.fixed 1
 ·have hv : validH h = false := by simp [validH, hkb, commonB, restB, k1, e0, e1, e2, e3, e4, e5, e6]
  rw [hv]
  clear hv hkb
  go_enter Tryd.func60, Tryd.ntmps60
  go_wp2_with (go_at_call 85; ((with_reducible refine (in_any _ _ _).mono ?_)); rintro e w' ⟨rfl, rfl⟩)
  go_ret
  exact ⟨rfl, Gr.alloc _ _⟩
 cases e7 : inB h.frm 4294967295
 ·have hv : validH h = false := by simp [validH, hkb, commonB, restB, k1, e0, e1, e2, e3, e4, e5, e6, e7]
  rw [hv]
  clear hv hkb
  go_enter Tryd.func60, Tryd.ntmps60
  go_wp2_with (go_at_call 85; ((with_reducible refine (in_any _ _ _).mono ?_)); rintro e w' ⟨rfl, rfl⟩)
  go_ret
  exact ⟨rfl, Gr.alloc _ _⟩
 cases e8 : inB h.to 4294967295
 ·have hv : validH h = false := by simp [validH, hkb, commonB, restB, k1, e0, e1, e2, e3, e4, e5, e6, e7, e8]
  rw [hv]
  clear hv hkb
  go_enter Tryd.func60, Tryd.ntmps60
  go_wp2_with (go_at_call 85; ((with_reducible refine (in_any _ _ _).mono ?_)); rintro e w' ⟨rfl, rfl⟩)
  go_ret
  exact ⟨rfl, Gr.alloc _ _⟩
 cases e9 : (h.marker == 0)
 ·have hv : validH h = false := by simp [validH, hkb, commonB, restB, k1, e0, e1, e2, e3, e4, e5, e6, e7, e8, e9]
  rw [hv]
  clear hv hkb
  go_enter Tryd.func60, Tryd.ntmps60
  go_wp2_with (go_at_call 85; ((with_reducible refine (in_any _ _ _).mono ?_)); rintro e w' ⟨rfl, rfl⟩)
  go_ret
  exact ⟨rfl, Gr.alloc _ _⟩
 cases e10 : (h.type == 0)
 ·have hv : validH h = false := by simp [validH, hkb, commonB, restB, k1, e0, e1, e2, e3, e4, e5, e6, e7, e8, e9, e10]
  rw [hv]
  clear hv hkb
  go_enter Tryd.func60, Tryd.ntmps60
  go_wp2_with (go_at_call 85; ((with_reducible refine (in_any _ _ _).mono ?_)); rintro e w' ⟨rfl, rfl⟩)
  go_ret
  exact ⟨rfl, Gr.alloc _ _⟩
 cases e11 : (h.seq == 0)
 ·have hv : validH h = false := by simp [validH, hkb, commonB, restB, k1, e0, e1, e2, e3, e4, e5, e6, e7, e8, e9, e10, e11]
  rw [hv]
  clear hv hkb
  go_enter Tryd.func60, Tryd.ntmps60
  go_wp2_with (go_at_call 85; ((with_reducible refine (in_any _ _ _).mono ?_)); rintro e w' ⟨rfl, rfl⟩)
  go_ret
  exact ⟨rfl, Gr.alloc _ _⟩
 cases e12 : (h.time == 0)
 ·have hv : validH h = false := by simp [validH, hkb, commonB, restB, k1, e0, e1, e2, e3, e4, e5, e6, e7, e8, e9, e10, e11, e12]
  rw [hv]
  clear hv hkb
  go_enter Tryd.func60, Tryd.ntmps60
  go_wp2_with (go_at_call 85; ((with_reducible refine (in_any _ _ _).mono ?_)); rintro e w' ⟨rfl, rfl⟩)
  go_ret
  exact ⟨rfl, Gr.alloc _ _⟩
 cases e13 : (h.source == 0)
 ·have hv : validH h = false := by simp [validH, hkb, commonB, restB, k1, e0, e1, e2, e3, e4, e5, e6, e7, e8, e9, e10, e11, e12, e13]
  rw [hv]
  clear hv hkb
  go_enter Tryd.func60, Tryd.ntmps60
  go_wp2_with (go_at_call 85; ((with_reducible refine (in_any _ _ _).mono ?_)); rintro e w' ⟨rfl, rfl⟩)
  go_ret
  exact ⟨rfl, Gr.alloc _ _⟩
 have hv : validH h = true := by simp [validH, hkb, commonB, restB, k1, e0, e1, e2, e3, e4, e5, e6, e7, e8, e9, e10, e11, e12, e13]
 rw [hv]
 clear hv hkb
 go_enter Tryd.func60, Tryd.ntmps60
 go_wp2_with (go_at_call 85; ((with_reducible refine (in_any _ _ _).mono ?_)); rintro e w' ⟨rfl, rfl⟩)
 go_ret
 exact ⟨rfl, Gr.alloc _ _⟩
set_option maxRecDepth 20000 in
set_option maxHeartbeats 4000000 in
theorem rvalid_two (h : Hdr) (w : World) (hk : h.kind = 2) : Calls Tryd.prog 60 #[HVal h] w fun e w' => e = .returned (.bool (validH h)) ∧ Gr w w' := by
 have k1 : (h.kind == 1) = false := by simp [hk]
 have k2 : (h.kind != 1) = true := by simp [hk]
 have k3 : (h.kind != 2) = false := by simp [hk]
 have hkb : kindB h = true := by simp [kindB, hk]
 clear hk
 cases e0 : inB h.tos 255
 ·have hv : validH h = false := by simp [validH, hkb, commonB, restB, k1, e0]
  rw [hv]
  clear hv hkb
  go_enter Tryd.func60, Tryd.ntmps60
  go_wp2_with (go_at_call 85; ((with_reducible refine (in_any _ _ _).mono ?_)); rintro e w' ⟨rfl, rfl⟩)
  go_ret
  exact ⟨rfl, Gr.alloc _ _⟩
 cases e1 : inB h.ttl 255
 ·have hv : validH h = false := by simp [validH, hkb, commonB, restB, k1, e0, e1]
  rw [hv]
  clear hv hkb
  go_enter Tryd.func60, Tryd.ntmps60
  go_wp2_with (go_at_call 85; ((with_reducible refine (in_any _ _ _).mono ?_)); rintro e w' ⟨rfl, rfl⟩)
  go_ret
  exact ⟨rfl, Gr.alloc _ _⟩
 cases e2 : inB h.id 65535
 ·have hv : validH h = false := by simp [validH, hkb, commonB, restB, k1, e0, e1, e2]
  rw [hv]
  clear hv hkb
  go_enter Tryd.func60, Tryd.ntmps60
  go_wp2_with (go_at_call 85; ((with_reducible refine (in_any _ _ _).mono ?_)); rintro e w' ⟨rfl, rfl⟩)
  go_ret
  exact ⟨rfl, Gr.alloc _ _⟩
 cases e3 : inB h.fport 65535
 ·have hv : validH h = false := by simp [validH, hkb, commonB, restB, k1, e0, e1, e2, e3]
  rw [hv]
  clear hv hkb
  go_enter Tryd.func60, Tryd.ntmps60
  go_wp2_with (go_at_call 85; ((with_reducible refine (in_any _ _ _).mono ?_)); rintro e w' ⟨rfl, rfl⟩)
  go_ret
  exact ⟨rfl, Gr.alloc _ _⟩
 cases e4 : inB h.tport 65535
 ·have hv : validH h = false := by simp [validH, hkb, commonB, restB, k1, e0, e1, e2, e3, e4]
  rw [hv]
  clear hv hkb
  go_enter Tryd.func60, Tryd.ntmps60
  go_wp2_with (go_at_call 85; ((with_reducible refine (in_any _ _ _).mono ?_)); rintro e w' ⟨rfl, rfl⟩)
  go_ret
  exact ⟨rfl, Gr.alloc _ _⟩
 cases e5 : inB h.check 65535
 ·have hv : validH h = false := by simp [validH, hkb, commonB, restB, k1, e0, e1, e2, e3, e4, e5]
  rw [hv]
  clear hv hkb
  go_enter Tryd.func60, Tryd.ntmps60
  go_wp2_with (go_at_call 85; ((with_reducible refine (in_any _ _ _).mono ?_)); rintro e w' ⟨rfl, rfl⟩)
  go_ret
  exact ⟨rfl, Gr.alloc _ _⟩
 cases e6 : inB h.fixed 1
 ·have hv : validH h = false := by simp [validH, hkb, commonB, restB, k1, e0, e1, e2, e3, e4, e5, e6]
  rw [hv]
  clear hv hkb
  go_enter Tryd.func60, Tryd.ntmps60
  go_wp2_with (go_at_call 85; ((with_reducible refine (in_any _ _ _).mono ?_)); rintro e w' ⟨rfl, rfl⟩)
  go_ret
  exact ⟨rfl, Gr.alloc _ _⟩
 cases e7 : inB h.frm 4294967295
 ·have hv : validH h = false := by simp [validH, hkb, commonB, restB, k1, e0, e1, e2, e3, e4, e5, e6, e7]
  rw [hv]
  clear hv hkb
  go_enter Tryd.func60, Tryd.ntmps60
  go_wp2_with (go_at_call 85; ((with_reducible refine (in_any _ _ _).mono ?_)); rintro e w' ⟨rfl, rfl⟩)
  go_ret
  exact ⟨rfl, Gr.alloc _ _⟩
 cases e8 : inB h.to 4294967295
 ·have hv : validH h = false := by simp [validH, hkb, commonB, restB, k1, e0, e1, e2, e3, e4, e5, e6, e7, e8]
  rw [hv]
  clear hv hkb
  go_enter Tryd.func60, Tryd.ntmps60
  go_wp2_with (go_at_call 85; ((with_reducible refine (in_any _ _ _).mono ?_)); rintro e w' ⟨rfl, rfl⟩)
  go_ret
  exact ⟨rfl, Gr.alloc _ _⟩
 cases e9 : inB h.marker 1
 ·have hv : validH h = false := by simp [validH, hkb, commonB, restB, k1, e0, e1, e2, e3, e4, e5, e6, e7, e8, e9]
  rw [hv]
  clear hv hkb
  go_enter Tryd.func60, Tryd.ntmps60
  go_wp2_with (go_at_call 85; ((with_reducible refine (in_any _ _ _).mono ?_)); rintro e w' ⟨rfl, rfl⟩)
  go_ret
  exact ⟨rfl, Gr.alloc _ _⟩
 cases e10 : inB h.type 127
 ·have hv : validH h = false := by simp [validH, hkb, commonB, restB, k1, e0, e1, e2, e3, e4, e5, e6, e7, e8, e9, e10]
  rw [hv]
  clear hv hkb
  go_enter Tryd.func60, Tryd.ntmps60
  go_wp2_with (go_at_call 85; ((with_reducible refine (in_any _ _ _).mono ?_)); rintro e w' ⟨rfl, rfl⟩)
  go_ret
  exact ⟨rfl, Gr.alloc _ _⟩
 cases e11 : inB h.seq 65535
 ·have hv : validH h = false := by simp [validH, hkb, commonB, restB, k1, e0, e1, e2, e3, e4, e5, e6, e7, e8, e9, e10, e11]
  rw [hv]
  clear hv hkb
  go_enter Tryd.func60, Tryd.ntmps60
  go_wp2_with (go_at_call 85; ((with_reducible refine (in_any _ _ _).mono ?_)); rintro e w' ⟨rfl, rfl⟩)
  go_ret
  exact ⟨rfl, Gr.alloc _ _⟩
 cases e12 : inB h.time 4294967295
 ·have hv : validH h = false := by simp [validH, hkb, commonB, restB, k1, e0, e1, e2, e3, e4, e5, e6, e7, e8, e9, e10, e11, e12]
  rw [hv]
  clear hv hkb
  go_enter Tryd.func60, Tryd.ntmps60
  go_wp2_with (go_at_call 85; ((with_reducible refine (in_any _ _ _).mono ?_)); rintro e w' ⟨rfl, rfl⟩)
  go_ret
  exact ⟨rfl, Gr.alloc _ _⟩
 cases e13 : inB h.source 4294967295
 ·have hv : validH h = false := by simp [validH, hkb, commonB, restB, k1, e0, e1, e2, e3, e4, e5, e6, e7, e8, e9, e10, e11, e12, e13]
  rw [hv]
  clear hv hkb
  go_enter Tryd.func60, Tryd.ntmps60
  go_wp2_with (go_at_call 85; ((with_reducible refine (in_any _ _ _).mono ?_)); rintro e w' ⟨rfl, rfl⟩)
  go_ret
  exact ⟨rfl, Gr.alloc _ _⟩
 have hv : validH h = true := by simp [validH, hkb, commonB, restB, k1, e0, e1, e2, e3, e4, e5, e6, e7, e8, e9, e10, e11, e12, e13]
 rw [hv]
 clear hv hkb
 go_enter Tryd.func60, Tryd.ntmps60
 go_wp2_with (go_at_call 85; ((with_reducible refine (in_any _ _ _).mono ?_)); rintro e w' ⟨rfl, rfl⟩)
 go_ret
 exact ⟨rfl, Gr.alloc _ _⟩
theorem rvalid_any (h : Hdr) (w : World) : Calls Tryd.prog 60 #[HVal h] w fun e w' => e = .returned (.bool (validH h)) ∧ Gr w w' := by
 by_cases h1 : h.kind = 1
 ·exact rvalid_one h w h1
 ·by_cases h2 : h.kind = 2
  ·exact rvalid_two h w h2
  ·have hk : kindB h = false := by simp [kindB, h1, h2]
   have hv : validH h = false := by simp [validH, hk]
   rw [hv]
   exact rvalid_no h w hk
end Go.Proofs.YtlnkofpcidngoaaDoor