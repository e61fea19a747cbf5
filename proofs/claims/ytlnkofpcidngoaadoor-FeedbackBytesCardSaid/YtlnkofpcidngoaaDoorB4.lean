import Derived.Test.YtlnkofpcidngoaaDoorB0
import Derived.Test.YtlnkofpcidngoaaDoorB1
import Derived.Test.YtlnkofpcidngoaaDoorB3
namespace Go.Proofs.YtlnkofpcidngoaaDoor
open Go.ChangeShapes Go.WideShapes Go.ChangeAt Go.RowKit
open Crc
abbrev FVal (c k n : Int) : Value := .agg #[.int .i64 c, .int .i64 k, .int .i64 n]
def fbB (c k n : Int) : Bool := decide (0 ≤ c) && (decide (c < 16) && (decide (0 ≤ k) && (decide (k ≤ 2) && (decide (0 ≤ n) && decide (n ≤ 65535)))))
theorem fb_yes {c k n : Int} (h : fbB c k n = true) : 0 ≤ c ∧ c < 16 ∧ 0 ≤ k ∧ k ≤ 2 ∧ 0 ≤ n ∧ n ≤ 65535 := by simpa [fbB] using h
set_option maxRecDepth 20000 in
set_option maxHeartbeats 2000000 in
theorem fbvalid_any (c k n : Int) (w : World) : Calls Tryd.prog 45 #[FVal c k n] w fun e w' => e = .returned (.bool (fbB c k n)) ∧ Gr w w' := by
 by_cases h1 : 0 ≤ c
 · by_cases h2 : c < 16
   · by_cases h3 : 0 ≤ k
     · by_cases h4 : k ≤ 2
       · by_cases h5 : 0 ≤ n
         · by_cases h6 : n ≤ 65535
           · go_enter Tryd.func45, Tryd.ntmps45
             go_wp2
             go_ret
             exact ⟨ret_bool (by simp [fbB]; try omega), Gr.alloc _ _⟩
           · go_enter Tryd.func45, Tryd.ntmps45
             go_wp2
             go_ret
             exact ⟨ret_bool (by simp [fbB]; try omega), Gr.alloc _ _⟩
         · go_enter Tryd.func45, Tryd.ntmps45
           go_wp2
           go_ret
           exact ⟨ret_bool (by simp [fbB]; try omega), Gr.alloc _ _⟩
       · go_enter Tryd.func45, Tryd.ntmps45
         go_wp2
         go_ret
         exact ⟨ret_bool (by simp [fbB]; try omega), Gr.alloc _ _⟩
     · go_enter Tryd.func45, Tryd.ntmps45
       go_wp2
       go_ret
       exact ⟨ret_bool (by simp [fbB]; try omega), Gr.alloc _ _⟩
   · go_enter Tryd.func45, Tryd.ntmps45
     go_wp2
     go_ret
     exact ⟨ret_bool (by simp [fbB]; try omega), Gr.alloc _ _⟩
 · go_enter Tryd.func45, Tryd.ntmps45
   go_wp2
   go_ret
   exact ⟨ret_bool (by simp [fbB]; try omega), Gr.alloc _ _⟩
set_option maxRecDepth 20000 in
set_option maxHeartbeats 2000000 in
theorem rfbvalid_any (c k n : Int) (w : World) : Calls Tryd.prog 48 #[FVal c k n] w fun e w' => e = .returned (.bool (fbB c k n)) ∧ Gr w w' := by
 by_cases h1 : 0 ≤ c
 · by_cases h2 : c < 16
   · by_cases h3 : 0 ≤ k
     · by_cases h4 : k ≤ 2
       · by_cases h5 : 0 ≤ n
         · by_cases h6 : n ≤ 65535
           · go_enter Tryd.func48, Tryd.ntmps48
             go_wp2
             go_ret
             exact ⟨ret_bool (by simp [fbB]; try omega), Gr.alloc _ _⟩
           · go_enter Tryd.func48, Tryd.ntmps48
             go_wp2
             go_ret
             exact ⟨ret_bool (by simp [fbB]; try omega), Gr.alloc _ _⟩
         · go_enter Tryd.func48, Tryd.ntmps48
           go_wp2
           go_ret
           exact ⟨ret_bool (by simp [fbB]; try omega), Gr.alloc _ _⟩
       · go_enter Tryd.func48, Tryd.ntmps48
         go_wp2
         go_ret
         exact ⟨ret_bool (by simp [fbB]; try omega), Gr.alloc _ _⟩
     · go_enter Tryd.func48, Tryd.ntmps48
       go_wp2
       go_ret
       exact ⟨ret_bool (by simp [fbB]; try omega), Gr.alloc _ _⟩
   · go_enter Tryd.func48, Tryd.ntmps48
     go_wp2
     go_ret
     exact ⟨ret_bool (by simp [fbB]; try omega), Gr.alloc _ _⟩
 · go_enter Tryd.func48, Tryd.ntmps48
   go_wp2
   go_ret
   exact ⟨ret_bool (by simp [fbB]; try omega), Gr.alloc _ _⟩
theorem fbvalid_is {c k n : Int} {V : Bool} (h : fbB c k n = V) (w : World) : Calls Tryd.prog 45 #[FVal c k n] w fun e w' => e = .returned (.bool V) ∧ Gr w w' := h ▸ fbvalid_any c k n w
theorem rfbvalid_is {c k n : Int} {V : Bool} (h : fbB c k n = V) (w : World) : Calls Tryd.prog 48 #[FVal c k n] w fun e w' => e = .returned (.bool V) ∧ Gr w w' := h ▸ rfbvalid_any c k n w
end Go.Proofs.YtlnkofpcidngoaaDoor
