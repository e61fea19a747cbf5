/- The reference's decoder of layer 28: its tables in memory; contracts of sign, Soft, less, trace. -/
import Derived.Test.YtcleegibdcphiaaDoorRefPlain
import Derived.Test.YtcleegibdcphiaaDoorRollInts
import Derived.Test.YtcleegibdcphiaaDoorBools
import Derived.Test.YtcleegibdcphiaaDoorNews
import Derived.Test.YtcleegibdcphiaaDoorSchedD
import Derived.Deep.MidRow
namespace Go.Proofs.YtcleegibdcphiaaDoor
open Go.ChangeShapes Go.WideShapes Go.ChangeAt Go.RowKit
open Cod

/-! ### Cells -/
def wcl (x : Cod.Way) : List Value := [.bool x.t, .int .i64 x.m, .int .i64 x.f, .int .i64 x.b]
def tcells (T : List Cod.Way) : List Value := T.flatMap wcl
def lcells (L : List (List Cod.Way)) : List Value := L.flatMap tcells
theorem flat_at {α β : Type} (f : α → List β) (c : Nat) : ∀ (l : List α), (∀ x ∈ l, (f x).length = c) → ∀ (i j : Nat) (x : α), l[i]? = some x → j < c → (l.flatMap f)[i * c + j]? = (f x)[j]?
  | [], _, i, j, x, h, _ => by simp at h
  | y :: l, hc, 0, j, x, h, hj => by
    simp at h; subst h
    rw [List.flatMap_cons, Nat.zero_mul, Nat.zero_add, List.getElem?_append_left (by rw [hc y (by simp)]; exact hj)]
  | y :: l, hc, i + 1, j, x, h, hj => by
    have ih := flat_at f c l (fun z hz => hc z (by simp [hz])) i j x (by simpa using h) hj
    rw [List.flatMap_cons, List.getElem?_append_right (by rw [hc y (by simp), Nat.add_mul]; omega), hc y (by simp), ← ih]
    congr 1
    rw [Nat.add_mul]; omega
theorem flat_len {α β : Type} (f : α → List β) (c : Nat) : ∀ (l : List α), (∀ x ∈ l, (f x).length = c) → (l.flatMap f).length = l.length * c
  | [], _ => by simp
  | y :: l, hc => by
    rw [List.flatMap_cons, List.length_append, hc y (by simp), flat_len f c l (fun z hz => hc z (by simp [hz])), List.length_cons, Nat.add_mul]; omega
theorem at4_get {T : List Cod.Way} (h : T.length = 4) {s : Nat} (hs : s < 4) : (T)[s]? = some (at4 T s) := by
  unfold at4
  rw [show (s : Int).toNat = s by omega, List.getElem?_eq_getElem (by omega)]; rfl
theorem tcells_len {T : List Cod.Way} (h : T.length = 4) : (tcells T).length = 16 := by
  rw [tcells, flat_len wcl 4 T (fun _ _ => rfl), h]
theorem tcells_at {T : List Cod.Way} (h : T.length = 4) {s j : Nat} (hs : s < 4) (hj : j < 4) : (tcells T)[s * 4 + j]? = (wcl (at4 T s))[j]? :=
  flat_at wcl 4 T (fun _ _ => rfl) s j _ (at4_get h hs) hj
theorem lcells_len {L : List (List Cod.Way)} (h : ∀ T ∈ L, T.length = 4) : (lcells L).length = L.length * 16 := flat_len tcells 16 L (fun T hT => tcells_len (h T hT))
theorem lcells_at {L : List (List Cod.Way)} (h : ∀ T ∈ L, T.length = 4) {i s j : Nat} {T : List Cod.Way} (hi : L[i]? = some T) (hs : s < 4) (hj : j < 4) : (lcells L)[i * 16 + s * 4 + j]? = (wcl (at4 T s))[j]? := by
  rw [Nat.add_assoc, lcells, flat_at tcells 16 L (fun T hT => tcells_len (h T hT)) i (s * 4 + j) T hi (by omega)]
  exact tcells_at (h T (List.mem_of_getElem? hi)) hs hj
/-- What every table keeps. -/
def WOK (c : Int) (T : List Cod.Way) : Prop := T.length = 4 ∧ ∀ r, isSt r → isSt (at4 T r).f ∧ ((at4 T r).b = 0 ∨ (at4 T r).b = 1) ∧ -c ≤ (at4 T r).m ∧ (at4 T r).m ≤ c
theorem isSt_nat {s : Nat} (h : s < 4) : isSt (s : Int) := by unfold isSt; omega
theorem isSt_to {s : Int} (h : isSt s) : ∃ k : Nat, k < 4 ∧ s = k := ⟨s.toNat, by rcases h with rfl | rfl | rfl | rfl <;> decide, by rcases h with rfl | rfl | rfl | rfl <;> rfl⟩

/-! ### sign, Soft, less -/
theorem sign_any (v c : Int) (w : World) (h : -127 ≤ v ∧ v ≤ 127) : Calls Tryd.prog 68 #[.int .i64 v, .int .i64 c] w fun e w' => e = .returned (.int .i64 (sgn v c)) ∧ w = w' := by
  obtain ⟨h1, h2⟩ := h
  by_cases hc : c = 1
  · subst hc
    go_enter Tryd.func68, Tryd.ntmps68
    go_wp2
    go_ret
    exact ⟨ret_i64 (by simp [sgn]), rfl⟩
  · have hb : (c == 1) = false := by simpa using hc
    have hv : sgn v c = v := by unfold sgn; rw [if_neg hc]
    rw [hv]
    clear hc hv
    go_enter Tryd.func68, Tryd.ntmps68
    go_wp2
    go_ret
    exact ⟨rfl, rfl⟩
theorem soft_any (a : Option Addr) (len cap : Nat) (ss : List Int) (w : World) (hr : Rd .i64 w a len ss) (hs : softOk ss) : Calls Tryd.prog 56 #[.slice a len cap] w fun e w' => e = .returned (.bool true) ∧ w = w' := by
  have hm := hr.2.2.1
  simp only [maxLen] at hm
  have HR := Lib.hid hr
  have HS := Lib.hid hs
  clear hr hs
  go_enter Tryd.func56, Tryd.ntmps56
  go_wp2_with fail
  go_loop [3] (fun i => ∃ k : Nat, k ≤ len ∧ i = .int .i64 k) (fun i => len - (intOf i).toNat)
  case atStart => exact ⟨0, by omega, rfl⟩
  case round =>
    obtain ⟨k, hk, rfl⟩ := hrel
    by_cases hlt : k < len
    · obtain ⟨b, off, ea, -, hc⟩ := HR.out.some (by omega)
      subst ea
      have hx := HS.out (ss[k]?.getD 0) (by have := HR.out.1; simp [show k < ss.length by omega])
      obtain ⟨x, hxx⟩ : ∃ x, ss[k]?.getD 0 = x := ⟨_, rfl⟩
      have ck := hc k hlt
      rw [hxx] at hx ck
      obtain ⟨x1, x2⟩ := hx
      clear hc hxx
      go_wp2_with fail
      go_round
      case rel => exact ⟨k + 1, by omega, by go_num⟩
      case measure => (simp [intOf] <;> omega)
    · obtain rfl : k = len := by omega
      go_wp2_with fail
      go_ret
      exact ⟨rfl, rfl⟩
theorem soft_no (a : Option Addr) (len cap : Nat) (ss : List Int) (w : World) (hr : Rd .i64 w a len ss) (hs : ¬ softOk ss) : Calls Tryd.prog 56 #[.slice a len cap] w fun e w' => e = .returned (.bool false) ∧ w = w' := by
  have hm := hr.2.2.1
  simp only [maxLen] at hm
  have HR := Lib.hid hr
  have HS := Lib.hid hs
  clear hr hs
  go_enter Tryd.func56, Tryd.ntmps56
  go_wp2_with fail
  go_loop [3] (fun i => ∃ k : Nat, k ≤ len ∧ i = .int .i64 k ∧ ∀ j, j < k → -127 ≤ ss[j]?.getD 0 ∧ ss[j]?.getD 0 ≤ 127) (fun i => len - (intOf i).toNat)
  case atStart => exact ⟨0, by omega, rfl, fun j hj => by omega⟩
  case round =>
    obtain ⟨k, hk, rfl, hall⟩ := hrel
    have HALL := Lib.hid hall
    clear hall
    by_cases hlt : k < len
    · obtain ⟨b, off, ea, -, hc⟩ := HR.out.some (by omega)
      subst ea
      obtain ⟨x, hxx⟩ : ∃ x, ss[k]?.getD 0 = x := ⟨_, rfl⟩
      have ck := hc k hlt
      rw [hxx] at ck
      have HXX := Lib.hid hxx
      clear hc hxx
      by_cases h1 : x < -127
      · go_wp2_with fail
        go_ret
        exact ⟨rfl, rfl⟩
      · by_cases h2 : 127 < x
        · go_wp2_with fail
          go_ret
          exact ⟨rfl, rfl⟩
        · go_wp2_with fail
          go_round
          case rel => exact ⟨k + 1, by omega, by go_num, fun j hj => by
            by_cases hjk : j < k
            · exact HALL.out j hjk
            · obtain rfl : j = k := by omega
              rw [HXX.out]; omega⟩
          case measure => (simp [intOf] <;> omega)
    · exfalso
      apply HS.out
      intro x hx
      obtain ⟨j, hj, rfl⟩ := List.getElem_of_mem hx
      have := HALL.out j (by have := HR.out.1; omega)
      rwa [List.getElem?_eq_getElem hj] at this
theorem less_any (a : Option Addr) (len ca : Nat) (b : Option Addr) (cb : Nat) (A C : List Int) (w : World) (ha : Rd .i64 w a len A) (hb : Rd .i64 w b len C) :
    Calls Tryd.prog 69 #[.slice a len ca, .slice b len cb] w fun e w' => e = .returned (.bool (lessL A C)) ∧ Gr w w' := by
  have hm := ha.2.2.1
  simp only [maxLen] at hm
  have HA := Lib.hid ha
  have HB := Lib.hid hb
  have HAL := Lib.hid ha.1
  have HBL := Lib.hid hb.1
  clear ha hb
  go_enter Tryd.func69, Tryd.ntmps69
  go_wp2_with fail
  go_loopw [5] (fun i wr => ∃ k : Nat, k ≤ len ∧ i = .int .i64 k ∧ lessL A C = lessL (A.drop k) (C.drop k) ∧ Gr w wr) (fun i _ => len - (intOf i).toNat)
  case atStart => exact ⟨0, by omega, rfl, rfl, Gr.refl _⟩
  case round =>
    obtain ⟨k, hk, rfl, hl, hg⟩ := hrel
    have HL := Lib.hid hl
    have HG := Lib.hid hg
    clear hl hg
    by_cases hlt : k < len
    · obtain ⟨b1, o1, ea, -, hc1⟩ := (HA.out.kept HG.out).some (by omega)
      obtain ⟨b2, o2, eb, -, hc2⟩ := (HB.out.kept HG.out).some (by omega)
      subst ea
      subst eb
      obtain ⟨x, hx⟩ : ∃ x, A[k]?.getD 0 = x := ⟨_, rfl⟩
      obtain ⟨y, hy⟩ : ∃ y, C[k]?.getD 0 = y := ⟨_, rfl⟩
      have q1 : ∀ u, Gr wr u → u.cell? ⟨b1, o1 + k, none⟩ = some (.int .i64 x) := fun u hu => by rw [← hx]; exact hu.cell (hc1 k hlt)
      have q2 : ∀ u, Gr wr u → u.cell? ⟨b2, o2 + k, none⟩ = some (.int .i64 y) := fun u hu => by rw [← hy]; exact hu.cell (hc2 k hlt)
      have e1 : A.drop k = x :: A.drop (k + 1) := by
        rw [List.drop_eq_getElem_cons (by rw [HAL.out]; exact hlt), ← hx, List.getElem?_eq_getElem (by rw [HAL.out]; exact hlt)]; rfl
      have e2 : C.drop k = y :: C.drop (k + 1) := by
        rw [List.drop_eq_getElem_cons (by rw [HBL.out]; exact hlt), ← hy, List.getElem?_eq_getElem (by rw [HBL.out]; exact hlt)]; rfl
      have hst : lessL A C = if x = y then lessL (A.drop (k + 1)) (C.drop (k + 1)) else decide (x < y) := by rw [HL.out, e1, e2]; rfl
      have HST := Lib.hid hst
      have Q1 := Lib.hid q1
      have Q2 := Lib.hid q2
      clear hst e1 e2 hc1 hc2 hx hy
      by_cases hxy : x = y
      · subst hxy
        have HE := Lib.hid (show lessL A C = lessL (A.drop (k + 1)) (C.drop (k + 1)) by rw [HST.out, if_pos rfl])
        go_wp2_with fail
        refine Sched.wp_region_sched 8 [] [] (by kernel_rfl) (by kernel_rfl) ?_
        simp only [List.take_succ_cons, List.take_zero, List.drop_succ_cons, List.drop_zero]
        repeat (first | ((with_reducible refine Sched.walk1_no ?_ ?_ (fun K hK => ?_)); (focus rfl); (focus rfl); simp only [Act.put, List.setIfInBounds_toArray, List.set_cons_zero, List.set_cons_succ]; refine hK _ ?_; clear hK K) | ((with_reducible refine Sched.walk1_gr ?_ ?_ ?_ (fun K hK => ?_)); (focus rfl); (focus rfl); (focus rfl); apply Exists.intro; refine ⟨fun w1 hw1 => ?_, ?_⟩; (focus (go_simp; (try go_ints); (try (simp only [IntWalk.iteOmega]; go_simp)); first | done | fail | (with_reducible rfl) | (with_reducible exact ⟨rfl, rfl⟩))); simp only [Act.put, List.setIfInBounds_toArray, List.set_cons_zero, List.set_cons_succ]; refine hK _ ?_; clear hK K) | ((with_reducible refine Sched.walk1_pure ?_ ?_ ?_ (fun K hK => ?_)); (focus rfl); (focus rfl); (focus rfl); apply Exists.intro; refine ⟨fun w1 => ?_, ?_⟩; (focus (go_simp; (try go_ints); (try (simp only [IntWalk.iteOmega]; go_simp)); first | done | (with_reducible rfl) | (with_reducible exact ⟨rfl, rfl⟩))); simp only [Act.put, List.setIfInBounds_toArray, List.set_cons_zero, List.set_cons_succ]; refine hK _ ?_; clear hK K) | (refine Sched.walk1_box rfl rfl ?_; apply Exists.intro; refine ⟨fun w1 hw1 => ?_, ?_⟩; (focus (go_simp; exact ⟨Gr.alloc _ _, rfl, by simp, heap_alloc_new _ _⟩))))
        (with_reducible refine Sched.walk1_nil ?_)
        intro wq hwq
        have HW := Lib.hid hwq
        clear q1 q2 hwq
        dsimp only [Sched.EndN, List.nil_append, List.cons_append, Act.put]
        (try simp only [List.setIfInBounds_toArray, List.set_cons_zero, List.set_cons_succ])
        repeat (first | (refine Sched.walk2_no rfl (fun K hK => ?_); simp only [Act.put, List.setIfInBounds_toArray, List.set_cons_zero, List.set_cons_succ]; refine hK _ ?_; clear hK K) | (refine Sched.walk2_go rfl (fun K hK => ?_); go_simp; (try go_ints); (try (simp only [IntWalk.iteOmega]; go_simp)); first | (refine hK _ _ ?_; clear hK K) | fail))
        refine Sched.walk2_nil ?_
        go_wp2_with fail
        go_roundw
        case rel => exact ⟨k + 1, by omega, by go_num, HE.out, HG.out.trans HW.out⟩
        case measure => (simp [intOf] <;> omega)
      · have HE := Lib.hid (show lessL A C = decide (x < y) by rw [HST.out, if_neg hxy])
        go_wp2_with fail
        refine Sched.wp_region_sched 8 [] [] (by kernel_rfl) (by kernel_rfl) ?_
        simp only [List.take_succ_cons, List.take_zero, List.drop_succ_cons, List.drop_zero]
        repeat (first | ((with_reducible refine Sched.walk1_no ?_ ?_ (fun K hK => ?_)); (focus rfl); (focus rfl); simp only [Act.put, List.setIfInBounds_toArray, List.set_cons_zero, List.set_cons_succ]; refine hK _ ?_; clear hK K) | ((with_reducible refine Sched.walk1_gr ?_ ?_ ?_ (fun K hK => ?_)); (focus rfl); (focus rfl); (focus rfl); apply Exists.intro; refine ⟨fun w1 hw1 => ?_, ?_⟩; (focus (go_simp; (try go_ints); (try (simp only [IntWalk.iteOmega]; go_simp)); first | done | fail | (with_reducible rfl) | (with_reducible exact ⟨rfl, rfl⟩))); simp only [Act.put, List.setIfInBounds_toArray, List.set_cons_zero, List.set_cons_succ]; refine hK _ ?_; clear hK K) | ((with_reducible refine Sched.walk1_pure ?_ ?_ ?_ (fun K hK => ?_)); (focus rfl); (focus rfl); (focus rfl); apply Exists.intro; refine ⟨fun w1 => ?_, ?_⟩; (focus (go_simp; (try go_ints); (try (simp only [IntWalk.iteOmega]; go_simp)); first | done | (with_reducible rfl) | (with_reducible exact ⟨rfl, rfl⟩))); simp only [Act.put, List.setIfInBounds_toArray, List.set_cons_zero, List.set_cons_succ]; refine hK _ ?_; clear hK K) | (refine Sched.walk1_box rfl rfl ?_; apply Exists.intro; refine ⟨fun w1 hw1 => ?_, ?_⟩; (focus (go_simp; exact ⟨Gr.alloc _ _, rfl, by simp, heap_alloc_new _ _⟩))))
        (with_reducible refine Sched.walk1_nil ?_)
        intro wq hwq
        have HW := Lib.hid hwq
        clear q1 q2
        have q1 := fun u hu => Q1.out u (hwq.trans hu)
        have q2 := fun u hu => Q2.out u (hwq.trans hu)
        clear hwq
        dsimp only [Sched.EndN, List.nil_append, List.cons_append, Act.put]
        (try simp only [List.setIfInBounds_toArray, List.set_cons_zero, List.set_cons_succ])
        repeat (first | (refine Sched.walk2_no rfl (fun K hK => ?_); simp only [Act.put, List.setIfInBounds_toArray, List.set_cons_zero, List.set_cons_succ]; refine hK _ ?_; clear hK K) | (refine Sched.walk2_go rfl (fun K hK => ?_); go_simp; (try go_ints); (try (simp only [IntWalk.iteOmega]; go_simp)); first | (refine hK _ _ ?_; clear hK K) | fail))
        refine Sched.walk2_nil ?_
        go_wp2_with fail
        refine Sched.wp_region_sched 9 [] [] (by kernel_rfl) (by kernel_rfl) ?_
        simp only [List.take_succ_cons, List.take_zero, List.drop_succ_cons, List.drop_zero]
        repeat (first | ((with_reducible refine Sched.walk1_no ?_ ?_ (fun K hK => ?_)); (focus rfl); (focus rfl); simp only [Act.put, List.setIfInBounds_toArray, List.set_cons_zero, List.set_cons_succ]; refine hK _ ?_; clear hK K) | ((with_reducible refine Sched.walk1_gr ?_ ?_ ?_ (fun K hK => ?_)); (focus rfl); (focus rfl); (focus rfl); apply Exists.intro; refine ⟨fun w1 hw1 => ?_, ?_⟩; (focus (go_simp; (try go_ints); (try (simp only [IntWalk.iteOmega]; go_simp)); first | done | fail | (with_reducible rfl) | (with_reducible exact ⟨rfl, rfl⟩))); simp only [Act.put, List.setIfInBounds_toArray, List.set_cons_zero, List.set_cons_succ]; refine hK _ ?_; clear hK K) | ((with_reducible refine Sched.walk1_pure ?_ ?_ ?_ (fun K hK => ?_)); (focus rfl); (focus rfl); (focus rfl); apply Exists.intro; refine ⟨fun w1 => ?_, ?_⟩; (focus (go_simp; (try go_ints); (try (simp only [IntWalk.iteOmega]; go_simp)); first | done | (with_reducible rfl) | (with_reducible exact ⟨rfl, rfl⟩))); simp only [Act.put, List.setIfInBounds_toArray, List.set_cons_zero, List.set_cons_succ]; refine hK _ ?_; clear hK K) | (refine Sched.walk1_box rfl rfl ?_; apply Exists.intro; refine ⟨fun w1 hw1 => ?_, ?_⟩; (focus (go_simp; exact ⟨Gr.alloc _ _, rfl, by simp, heap_alloc_new _ _⟩))))
        (with_reducible refine Sched.walk1_nil ?_)
        intro wq hwq
        have HW2 := Lib.hid hwq
        clear q1 q2 hwq
        dsimp only [Sched.EndN, List.nil_append, List.cons_append, Act.put]
        (try simp only [List.setIfInBounds_toArray, List.set_cons_zero, List.set_cons_succ])
        repeat (first | (refine Sched.walk2_no rfl (fun K hK => ?_); simp only [Act.put, List.setIfInBounds_toArray, List.set_cons_zero, List.set_cons_succ]; refine hK _ ?_; clear hK K) | (refine Sched.walk2_go rfl (fun K hK => ?_); go_simp; (try go_ints); (try (simp only [IntWalk.iteOmega]; go_simp)); first | (refine hK _ _ ?_; clear hK K) | fail))
        refine Sched.walk2_nil ?_
        go_wp2_with fail
        go_ret
        exact ⟨ret_bool HE.out.symm, HG.out.trans (HW.out.trans HW2.out)⟩
    · obtain rfl : k = len := by omega
      have HE := Lib.hid (show lessL A C = false by rw [HL.out, List.drop_eq_nil_of_le (by rw [HAL.out]; exact Nat.le_refl _)]; rfl)
      go_wp2_with fail
      go_ret
      exact ⟨ret_bool HE.out.symm, HG.out⟩
end Go.Proofs.YtcleegibdcphiaaDoor
