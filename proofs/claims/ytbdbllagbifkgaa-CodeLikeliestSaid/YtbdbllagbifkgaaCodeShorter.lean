/- The law CodeShorter: its walk. -/
import Derived.Test.YtbdbllagbifkgaaCodeLaws
import Derived.Test.YtbdbllagbifkgaaBools
namespace Go.Proofs.Ytbdbllagbifkgaa
open Go.ChangeShapes Go.WideShapes Go.ChangeAt Go.RowKit
open Cod

theorem own_le_cap {w : World} {B : Nat} {e : TypeId} {k : IntKind} {a : Option Addr} {n cap : Nat} {xs : List Int} (h : OwnI B e k w a n cap xs) : n ≤ cap := by
  rcases h.row.2 with ⟨_, h0⟩ | ⟨g, cap', cur, hv, _, _, hn, _, _, _⟩
  · omega
  · injection hv with _ _ e3
    omega
theorem encS_take : ∀ (l m : List Int) (s : Int), (encS s (l ++ m)).take (2 * l.length) = encS s l
  | [], m, s => by simp [encS]
  | x :: l, m, s => by
    have e : 2 * (x :: l).length = 2 * l.length + 1 + 1 := by simp; omega
    rw [e, List.cons_append]
    simp only [encS, List.take_succ_cons]
    rw [encS_take l m]
theorem enc_short (xs : List Int) (k : Nat) (h : k ≤ xs.length) : (enc xs).take (2 * k) = (enc (xs.take k)).take (2 * k) := by
  have hl : (xs.take k).length = k := by simp; omega
  have h1 := encS_take (xs.take k) (xs.drop k ++ [0, 0]) 0
  have h2 := encS_take (xs.take k) [0, 0] 0
  rw [hl] at h1 h2
  rw [← List.append_assoc, List.take_append_drop] at h1
  unfold enc
  rw [h1, h2]
theorem rollmod_is {x m r : Int} (h : modF x m = r) (w : World) (hm : m ≤ 4611686018427387904) : Calls Try.prog 18 #[.int .i64 x, .int .i64 m] w fun e w' => e = .returned (.int .i64 r) ∧ w = w' := h ▸ rollmod_any x m w hm
theorem same_yes (a b : Option Addr) (l c l' c' : Nat) (xs ys : List Int) (w : World) (hx : Rd .i64 w a l xs) (hy : Rd .i64 w b l' ys) (h : xs = ys) :
    Calls Try.prog 14 #[.slice a l c, .slice b l' c'] w fun e w' => e = .returned (.bool true) ∧ Gr w w' := by
  have := same_ints a b l c l' c' xs ys w hx hy
  rwa [decide_eq_true h] at this

set_option maxRecDepth 100000 in
set_option maxHeartbeats 2000000 in
theorem shorter_walk (a : Option Addr) (len cap : Nat) (bs : List Bool) (n : Int) (w : World) (hr : RdB w a len bs) (hc : len ≤ cap) (h1 : 2 ≤ len) (h2 : len ≤ 200) :
    Calls Try.prog 8 #[.slice a len cap, .int .i64 n] w fun e w' => e = .returned (.bool true) ∧ Gr w w' := by
  have m1 := modF_lo n ((len : Int) - 1)
  have m2 := modF_hi n ((len : Int) - 1) (by omega)
  obtain ⟨q, hq⟩ : ∃ q : Nat, modF n ((len : Int) - 1) = q := ⟨(modF n ((len : Int) - 1)).toNat, by omega⟩
  rw [hq] at m2
  have HQ := Lib.hid hq
  have HR := Lib.hid hr
  have HL := Lib.hid hr.1
  clear hr hq m1
  go_enter Try.func8, Try.ntmps8
  go_wp2_with fail
  refine (rollmod_is HQ.out _ (by omega)).mono ?_
  rintro e w' ⟨rfl, rfl⟩
  go_wp2_with fail
  refine (bits28 a len cap bs w HR.out (by omega)).mono ?_
  rintro e w1 ⟨g1, rfl, ho1, hg1⟩
  have HG1 := Lib.hid hg1
  have HO1 := Lib.hid ho1
  clear hg1 ho1
  go_wp2_with fail
  refine (encode_yes _ len len (bs.map bi) w1 HO1.out.rd (bi_bits bs) (by omega) (by omega)).mono ?_
  rintro e w2 ⟨a2, c2, rfl, ho2, hg2⟩
  have HO2 := Lib.hid ho2
  have HG2 := Lib.hid (HG1.out.trans hg2)
  have hcap2 := own_le_cap ho2
  clear ho2 hg2
  go_wp2_with fail
  refine (bits28 a (1 + q) cap (bs.take (1 + q)) w2 ((HR.out.kept HG2.out).take _ (by omega)) (by omega)).mono ?_
  rintro e w3 ⟨g3, rfl, ho3, hg3⟩
  have HG3 := Lib.hid hg3
  have HO3 := Lib.hid ho3
  clear hg3 ho3
  go_wp2_with fail
  refine (encode_yes _ (1 + q) (1 + q) ((bs.take (1 + q)).map bi) w3 HO3.out.rd (bi_bits _) (by omega) (by omega)).mono ?_
  rintro e w4 ⟨a4, c4, rfl, ho4, hg4⟩
  have hcap4 := own_le_cap ho4
  have hg24 := HG3.out.trans hg4
  have hp2 := (HO2.out.rd.kept hg24).take (2 * (1 + q)) (by omega)
  have hp4 := ho4.rd.take (2 * (1 + q)) (by omega)
  have heq : (enc (bs.map bi)).take (2 * (1 + q)) = (enc ((bs.take (1 + q)).map bi)).take (2 * (1 + q)) := by
    rw [List.map_take]; exact enc_short _ _ (by simp [HL.out]; omega)
  have HEQ := Lib.hid heq
  have HP2 := Lib.hid hp2
  have HP4 := Lib.hid hp4
  have HG4 := Lib.hid (HG2.out.trans hg24)
  have hl1 : lenS (len : Int) = 2 * ((len : Int) + 2) := by unfold lenS; rw [if_pos (by omega)]
  have hl2 : lenS (1 + (q : Int)) = 2 * ((1 + (q : Int)) + 2) := by unfold lenS; rw [if_pos (by omega)]
  have HL1 := Lib.hid hl1
  have HL2 := Lib.hid hl2
  clear ho4 hg4 hg24 hp2 hp4 heq hl1 hl2
  go_wp2_with fail
  have hb1 : ((2 * (1 + (q : Int) + 2)) == 2 * (1 + (q : Int)) + 4) = true := by simp; omega
  refine Sched.wp_region_sched 44 [] [] (by kernel_rfl) (by kernel_rfl) ?_
  simp only [List.take_succ_cons, List.take_zero, List.drop_succ_cons, List.drop_zero]
  repeat (first | (refine Sched.walk1_no rfl rfl (fun K hK => ?_); simp only [Act.put, List.setIfInBounds_toArray, List.set_cons_zero, List.set_cons_succ]; refine hK _ ?_; clear hK K) | (refine Sched.walk1_gr rfl rfl rfl (fun K hK => ?_); apply Exists.intro; refine ⟨fun w1 hw1 => ?_, ?_⟩; (focus (go_simp; (try go_ints); (try (simp only [IntWalk.iteOmega]; go_simp)); first | done | ((go_at_call 19; (with_reducible exact gr_same (length_is HL1.out _)))) | ((go_at_call 19; (with_reducible exact gr_same (length_is HL2.out _)))) | (go_at_call 14; (with_reducible exact same_yes _ _ _ _ _ _ _ _ _ (rd_gr HP2.out hw1) (rd_gr HP4.out hw1) HEQ.out)) | (go_at_call 11; (with_reducible exact awake28 _)) | (with_reducible rfl) | (with_reducible exact ⟨rfl, rfl⟩))); simp only [Act.put, List.setIfInBounds_toArray, List.set_cons_zero, List.set_cons_succ]; refine hK _ ?_; clear hK K) | (refine Sched.walk1_pure rfl rfl rfl (fun K hK => ?_); apply Exists.intro; refine ⟨fun w1 => ?_, ?_⟩; (focus (go_simp; (try go_ints); (try (simp only [IntWalk.iteOmega]; go_simp)); first | done | (with_reducible rfl) | (with_reducible exact ⟨rfl, rfl⟩))); simp only [Act.put, List.setIfInBounds_toArray, List.set_cons_zero, List.set_cons_succ]; refine hK _ ?_; clear hK K) | (refine Sched.walk1_box rfl rfl ?_; apply Exists.intro; refine ⟨fun w1 hw1 => ?_, ?_⟩; (focus (go_simp; exact ⟨Gr.alloc _ _, rfl, by simp, heap_alloc_new _ _⟩))))
  refine Sched.walk1_nil ?_
  intro wq hwq
  dsimp only [Sched.EndN, List.nil_append, List.cons_append, Act.put]
  (try simp only [List.setIfInBounds_toArray, List.set_cons_zero, List.set_cons_succ])
  repeat (first | (refine Sched.walk2_no rfl (fun K hK => ?_); simp only [Act.put, List.setIfInBounds_toArray, List.set_cons_zero, List.set_cons_succ]; refine hK _ ?_; clear hK K) | (refine Sched.walk2_go rfl (fun K hK => ?_); go_simp; (try go_ints); (try (simp only [IntWalk.iteOmega]; go_simp)); first | (refine hK _ _ ?_; clear hK K) | fail))
  refine Sched.walk2_nil ?_
  go_wp2_with fail
  go_ret
  exact ⟨rfl, HG4.out.trans hwq⟩
theorem shorter_no (a : Option Addr) (len cap : Nat) (n : Int) (w : World) (h : len < 2 ∨ 200 < len) (hm : len ≤ 9223372036854775807) :
    Calls Try.prog 8 #[.slice a len cap, .int .i64 n] w fun e w' => e = .returned (.bool true) ∧ Gr w w' := by
  rcases h with h | h
  all_goals
    go_enter Try.func8, Try.ntmps8
    go_wp2_with fail
    refine (awake28 _).mono ?_
    rintro e w1 ⟨rfl, hg⟩
    have HG := Lib.hid hg
    clear hg
    go_wp2_with fail
    go_ret
    exact ⟨rfl, HG.out⟩
theorem shorter_fit (a : Option Addr) (len cap : Nat) (bs : List Bool) (n : Int) (w : World) (hr : RdB w a len bs) (hc : len ≤ cap) (_hL : len ≤ 140737488351232) (_h0 : i64 n) :
    Calls Try.prog 8 #[.slice a len cap, .int .i64 n] w fun e w' => e = .returned (.bool true) ∧ Below w.heap.size w w' := by
  have key : Calls Try.prog 8 #[.slice a len cap, .int .i64 n] w fun e w' => e = .returned (.bool true) ∧ Gr w w' := by
    by_cases h : len < 2 ∨ 200 < len
    · exact shorter_no a len cap n w h (by omega)
    · exact shorter_walk a len cap bs n w hr hc (by omega) (by omega)
  exact key.mono fun _ _ ⟨he, hg⟩ => ⟨he, Below.of_none hg⟩
end Go.Proofs.Ytbdbllagbifkgaa
