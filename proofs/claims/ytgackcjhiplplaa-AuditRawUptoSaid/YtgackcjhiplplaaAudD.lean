/- Layer 44 (audit): Entered, Delivered, matches, InOrder, Among. -/
import Derived.Test.YtgackcjhiplplaaAudC
namespace Go.Proofs.Ytgackcjhiplplaa
open Go.ChangeShapes Go.WideShapes Go.ChangeAt Go.RowKit

def dat (L : List Rec) (j : Int) : List Int := match L[j.toNat]? with | some r => r.xs | none => []
theorem dat_at {L : List Rec} {k : Nat} {r : Rec} (h : L[k]? = some r) : dat L (k : Int) = r.xs := by simp [dat, h]
/-- Indices into L. -/
def inL (len : Nat) (P : List Int) : Prop := ∀ x ∈ P, ∃ k : Nat, k < len ∧ x = (k : Int)
theorem idxF_in (f : Rec → Bool) : ∀ (l : List Rec) (i : Nat), ∀ x ∈ idxF f i l, ∃ k : Nat, k < i + l.length ∧ x = (k : Int)
  | [], _, x, h => by simp [idxF] at h
  | r :: l, i, x, h => by
    simp only [idxF] at h
    have ih : ∀ x ∈ idxF f (i + 1) l, ∃ k : Nat, k < i + (r :: l).length ∧ x = (k : Int) := fun x hx => by
      obtain ⟨k, h1, h2⟩ := idxF_in f l (i + 1) x hx
      exact ⟨k, by simp only [List.length_cons]; omega, h2⟩
    split at h
    · rcases List.mem_cons.1 h with rfl | h
      · exact ⟨i, by simp, rfl⟩
      · exact ih x h
    · exact ih x h
theorem idxF_inL (f : Rec → Bool) (L : List Rec) : inL L.length (idxF f 0 L) := fun x hx => by
  obtain ⟨k, h1, h2⟩ := idxF_in f L 0 x hx
  exact ⟨k, by omega, h2⟩
def DRel (w : World) (n : Nat) (L : List Rec) (P : List Int) (s i : Value) (wr : World) : Prop :=
  ∃ (a' : Option Addr) (c' k : Nat), k ≤ n ∧ s = .slice a' k c' ∧ i = .int .i64 k ∧ OwnSS w.heap.size wr a' k c' ((P.take k).map (dat L)) ∧ Gr w wr
def DataPost (X : List (List Int)) (w : World) (e : Ending) (w' : World) : Prop := ∃ a' n c', e = .returned (.slice a' n c') ∧ n ≤ c' ∧ RdSS w' a' n X ∧ Gr w w'
theorem take_map_snoc {P : List Int} {k : Nat} {x : Int} (f : Int → List Int) (h : P[k]? = some x) : (P.take (k + 1)).map f = (P.take k).map f ++ [f x] := by
  rw [List.take_add_one, h]; simp
set_option maxRecDepth 100000 in
set_option maxHeartbeats 1000000 in
theorem data_any (a : Option Addr) (len cap : Nat) (L : List Rec) (p : Option Addr) (n c : Nat) (P : List Int) (w : World) (hr : RdL w a len L) (hp : Rd .i64 w p n P) (hP : inL len P) (hn : n ≤ 1000000) (hsz : ∀ r ∈ L, r.n ≤ 140737488351232) :
    Calls Try.prog 15 #[.slice a len cap, .slice p n c] w (DataPost (P.map (dat L)) w) := by
  have HR := Lib.hid hr
  have HP := Lib.hid hp
  have HLP := Lib.hid hp.1
  have HIN := Lib.hid hP
  have HSZ := Lib.hid hsz
  clear hr hp hP hsz
  go_enter Try.func15, Try.ntmps15
  go_wp2_with fail
  go_loopw [5, 10] (fun s i wr => DRel w n L P s i wr) (fun _ i _ => n - (intOf i).toNat)
  case atStart => exact ⟨none, 0, 0, by omega, rfl, rfl, OwnSS.nil _ _, Gr.refl _⟩
  case round =>
    obtain ⟨a', c', k, hk, rfl, rfl, ho, hg⟩ := hrel
    have HG := Lib.hid hg
    have HO := Lib.hid ho
    clear hg ho
    by_cases hlt : k < n
    · have hxk : k < P.length := by rw [HLP.out]; exact hlt
      obtain ⟨j, hj, hxj⟩ := HIN.out P[k] (List.getElem_mem hxk)
      have hpk : P[k]? = some (j : Int) := by rw [List.getElem?_eq_getElem hxk, hxj]
      obtain ⟨b1, o1, eb, -, hc1⟩ := HP.out.some (by omega)
      subst eb
      have ck : wr.cell? ⟨b1, o1 + k, none⟩ = some (.int .i64 j) := by
        have := hc1 k hlt
        rw [hpk] at this
        exact HG.out.cell this
      obtain ⟨r, hri, hrr⟩ := HR.out.get hj
      obtain ⟨b0, off, ea, hrg⟩ := HR.out.some (by omega)
      subst ea
      have c6 : wr.cell? ⟨b0, off + j * 7 + 6, none⟩ = some (.slice r.a r.n r.c) := HG.out.cell (hrg j r hri 6 _ rfl)
      have htk := take_map_snoc (dat L) hpk
      rw [dat_at hri] at htk
      have HTK := Lib.hid htk
      have HRR := Lib.hid (hrr.kept HG.out)
      have HRN := Lib.hid (HSZ.out r (List.mem_of_getElem? hri))
      clear hxk hxj hpk hc1 hrg hri hrr htk
      go_wp2_with fail
      refine (clone_any r.a r.n r.c r.xs wr HRR.out HRN.out).mono ?_
      rintro e w2 ⟨a2, c2, rfl, ho2, hg2⟩
      have hso := HO.out.stay hg2
      have hg3 : Gr w2 (w2.alloc (.cells #[slv ⟨a2, r.n, c2⟩] 22)) := Gr.alloc _ _
      obtain ⟨a5, c5, w5, hrun, ho5, hg5⟩ := (hso.stay hg3).app ⟨a2, r.n, c2⟩ r.xs (ho2.rd.kept hg3) (fun b off h0 he => by
        intro h
        have h1 := (ho2.below b (by rw [show a2 = some ⟨b, off, none⟩ from he]; rfl)).1
        obtain ⟨ss, h2, _⟩ := HO.out
        have := (h2.lt b h).2
        omega) ⟨w2.heap.size, 0, none⟩ (.inr ⟨w2.heap.size, 0, rfl, by simp, fun i hi => by rw [Nat.zero_add, cell_new]; simp⟩) (by omega) (Nat.le_trans HG.out.size (Nat.le_trans hg2.size (by simp)))
      have hgg : Gr w w5 := by
        obtain ⟨ss, h2, _⟩ := hso.stay hg3
        exact grownBy_trans ((HG.out.trans hg2).trans hg3) hg5 (by
          cases hv : (Value.slice a' k c').ownBlock with
          | none => exact .inr (.inl rfl)
          | some g => exact .inr (.inr ⟨g, rfl, (h2.lt g hv).1⟩))
      rw [← HTK.out] at ho5
      have HRUN := Lib.hid hrun
      have HO5 := Lib.hid ho5
      have HG5 := Lib.hid hgg
      clear hrun ho5 hgg hg5 hg3 hso ho2 hg2 ck c6
      go_wp2_with (at_builtin; refine wpList_app rfl _ _ _ rfl rfl rfl HRUN.out ?_)
      go_roundw
      case rel => exact ⟨a5, c5, k + 1, by omega, rfl, by go_num, HO5.out, HG5.out⟩
      case measure => (simp [intOf] <;> omega)
    · obtain rfl : k = n := by omega
      go_wp2_with fail
      go_ret
      have ho := HO.out
      rw [List.take_of_length_le (by rw [HLP.out]; omega)] at ho
      have hcap : k ≤ c' := by
        obtain ⟨ss, h2, _⟩ := ho
        rcases h2.2 with ⟨hv, h0⟩ | ⟨g, cap', cur, hv, _, _, hn, _⟩
        · omega
        · injection hv with _ _ e3; omega
      exact ⟨a', k, c', rfl, hcap, ho.rd hn, HG.out⟩
theorem entered_any (a : Option Addr) (len cap : Nat) (L : List Rec) (t b d : Int) (w : World) (hr : RdL w a len L) (hsz : ∀ r ∈ L, r.n ≤ 140737488351232) :
    Calls Try.prog 7 #[.slice a len cap, .int .i64 t, .int .i64 b, .int .i64 d] w (DataPost ((idxF (sel 1 t b d) 0 L).map (dat L)) w) := by
  have HR := Lib.hid hr
  have HSZ := Lib.hid hsz
  have hm := hr.2.1
  clear hr hsz
  go_enter Try.func7, Try.ntmps7
  go_wp2_with fail
  refine (flow_any a len cap L 1 t b d w HR.out).mono ?_
  rintro e w2 ⟨a', n, c', rfl, hn, ho, hg2⟩
  have HO := Lib.hid ho
  have HG := Lib.hid hg2
  have hn2 : n ≤ len := by rw [← HR.out.1]; exact hn
  clear ho hg2 hn
  go_wp2_with fail
  refine (data_any a len cap L a' n c' _ w2 (HR.out.kept HG.out) HO.out.rd (by have := idxF_inL (sel 1 t b d) L; rw [HR.out.1] at this; exact this) (by omega) HSZ.out).mono ?_
  rintro e w3 ⟨a3, n3, c3, rfl, hc3, hx3, hg3⟩
  have HX := Lib.hid hx3
  have HG3 := Lib.hid (HG.out.trans hg3)
  clear hx3 hg3
  go_wp2_with fail
  go_ret
  exact ⟨a3, n3, c3, rfl, hc3, HX.out, HG3.out⟩
theorem delivered_any (a : Option Addr) (len cap : Nat) (L : List Rec) (t b d : Int) (w : World) (hr : RdL w a len L) (hsz : ∀ r ∈ L, r.n ≤ 140737488351232) :
    Calls Try.prog 8 #[.slice a len cap, .int .i64 t, .int .i64 b, .int .i64 d] w (DataPost ((idxF (sel 2 t b d) 0 L).map (dat L)) w) := by
  have HR := Lib.hid hr
  have HSZ := Lib.hid hsz
  have hm := hr.2.1
  clear hr hsz
  go_enter Try.func8, Try.ntmps8
  go_wp2_with fail
  refine (flow_any a len cap L 2 t b d w HR.out).mono ?_
  rintro e w2 ⟨a', n, c', rfl, hn, ho, hg2⟩
  have HO := Lib.hid ho
  have HG := Lib.hid hg2
  have hn2 : n ≤ len := by rw [← HR.out.1]; exact hn
  clear ho hg2 hn
  go_wp2_with fail
  refine (data_any a len cap L a' n c' _ w2 (HR.out.kept HG.out) HO.out.rd (by have := idxF_inL (sel 2 t b d) L; rw [HR.out.1] at this; exact this) (by omega) HSZ.out).mono ?_
  rintro e w3 ⟨a3, n3, c3, rfl, hc3, hx3, hg3⟩
  have HX := Lib.hid hx3
  have HG3 := Lib.hid (HG.out.trans hg3)
  clear hx3 hg3
  go_wp2_with fail
  go_ret
  exact ⟨a3, n3, c3, rfl, hc3, HX.out, HG3.out⟩
def mat (L : List Rec) (i o : Int) : Bool := decide (i < o) && decide (dat L i = dat L o)
theorem equal_is {a b : Option Addr} {l c l' c' : Nat} {xs ys : List Int} {E : Bool} (hE : decide (xs = ys) = E) (w : World) (hx : Rd .u8 w a l xs) (hy : Rd .u8 w b l' ys) :
    Calls Try.prog 33 #[.slice a l c, .slice b l' c'] w fun e w' => e = .returned (.bool E) ∧ w = w' := hE ▸ equal_any a b l c l' c' xs ys w hx hy
set_option maxRecDepth 100000 in
set_option maxHeartbeats 1000000 in
theorem matches_any (a : Option Addr) (len cap : Nat) (L : List Rec) (i o : Nat) (w : World) (hr : RdL w a len L) (hi : i < len) (ho : o < len) :
    Calls Try.prog 17 #[.slice a len cap, .int .i64 i, .int .i64 o] w fun e w' => e = .returned (.bool (mat L i o)) ∧ Gr w w' := by
  obtain ⟨r, hri, hrr⟩ := hr.get hi
  obtain ⟨q, hqi, hqq⟩ := hr.get ho
  obtain ⟨b0, off, ea, hrg⟩ := hr.some (by omega)
  subst ea
  obtain ⟨E, hE⟩ : ∃ E, decide (r.xs = q.xs) = E := ⟨_, rfl⟩
  have ci : ∀ u, Gr w u → u.cell? ⟨b0, off + i * 7 + 6, none⟩ = some (.slice r.a r.n r.c) := fun u hu => hu.cell (hrg i r hri 6 _ rfl)
  have co : ∀ u, Gr w u → u.cell? ⟨b0, off + o * 7 + 6, none⟩ = some (.slice q.a q.n q.c) := fun u hu => hu.cell (hrg o q hqi 6 _ rfl)
  have HM := Lib.hid (show mat L i o = (decide ((i : Int) < o) && E) by rw [mat, dat_at hri, dat_at hqi, hE])
  have HE := Lib.hid hE
  have HRR := Lib.hid hrr
  have HQQ := Lib.hid hqq
  have hm := hr.2.1
  clear hrg hri hqi hE hrr hqq hr
  by_cases hlt : i < o
  · have hb : decide ((i : Int) < o) = true := decide_eq_true (by omega)
    have HB := Lib.hid hb
    clear hb
    go_enter Try.func17, Try.ntmps17
    go_upto_region 1 with (fail)
    refine Sched.wp_region_sched 17 [] [] (by kernel_rfl) (by kernel_rfl) ?_
    simp only [List.take_succ_cons, List.take_zero, List.drop_succ_cons, List.drop_zero]
    repeat (first | (refine Sched.walk1_no rfl rfl (fun K hK => ?_); simp only [Act.put, List.setIfInBounds_toArray, List.set_cons_zero, List.set_cons_succ]; refine hK _ ?_; clear hK K) | (refine Sched.walk1_gr rfl rfl rfl (fun K hK => ?_); apply Exists.intro; refine ⟨fun w1 hw1 => ?_, ?_⟩; (focus (go_simp; (try go_ints); (try (simp only [IntWalk.iteOmega]; go_simp)); first | done | ((go_at_call 33; (with_reducible exact gr_same (equal_is HE.out _ (rd_gr HRR.out hw1) (rd_gr HQQ.out hw1))))) | (with_reducible rfl) | (with_reducible exact ⟨rfl, rfl⟩))); simp only [Act.put, List.setIfInBounds_toArray, List.set_cons_zero, List.set_cons_succ]; refine hK _ ?_; clear hK K) | (refine Sched.walk1_pure rfl rfl rfl (fun K hK => ?_); apply Exists.intro; refine ⟨fun w1 => ?_, ?_⟩; (focus (go_simp; (try go_ints); (try (simp only [IntWalk.iteOmega]; go_simp)); first | done | (with_reducible rfl) | (with_reducible exact ⟨rfl, rfl⟩))); simp only [Act.put, List.setIfInBounds_toArray, List.set_cons_zero, List.set_cons_succ]; refine hK _ ?_; clear hK K) | (refine Sched.walk1_box rfl rfl ?_; apply Exists.intro; refine ⟨fun w1 hw1 => ?_, ?_⟩; (focus (go_simp; exact ⟨Gr.alloc _ _, rfl, by simp, heap_alloc_new _ _⟩))))
    refine Sched.walk1_nil ?_
    intro wq hwq
    dsimp only [Sched.EndN, List.nil_append, List.cons_append, Act.put]
    (try simp only [List.setIfInBounds_toArray, List.set_cons_zero, List.set_cons_succ])
    repeat (first | (refine Sched.walk2_no rfl (fun K hK => ?_); simp only [Act.put, List.setIfInBounds_toArray, List.set_cons_zero, List.set_cons_succ]; refine hK _ ?_; clear hK K) | (refine Sched.walk2_go rfl (fun K hK => ?_); go_simp; (try go_ints); (try (simp only [IntWalk.iteOmega]; go_simp)); first | (refine hK _ _ ?_; clear hK K) | fail))
    refine Sched.walk2_nil ?_
    have HQ := Lib.hid hwq
    clear ci co hwq
    go_wp2_with fail
    go_ret
    exact ⟨ret_bool (by rw [HM.out, HB.out]; rfl), HQ.out⟩
  · have hb : decide ((i : Int) < o) = false := decide_eq_false (by omega)
    have HB := Lib.hid hb
    clear hb
    go_enter Try.func17, Try.ntmps17
    go_upto_region 1 with (fail)
    refine Sched.wp_region_sched 17 [] [] (by kernel_rfl) (by kernel_rfl) ?_
    simp only [List.take_succ_cons, List.take_zero, List.drop_succ_cons, List.drop_zero]
    repeat (first | ((with_reducible refine Sched.walk1_no ?_ ?_ (fun K hK => ?_)); (focus rfl); (focus rfl); simp only [Act.put, List.setIfInBounds_toArray, List.set_cons_zero, List.set_cons_succ]; refine hK _ ?_; clear hK K) | ((with_reducible refine Sched.walk1_gr ?_ ?_ ?_ (fun K hK => ?_)); (focus rfl); (focus rfl); (focus rfl); apply Exists.intro; refine ⟨fun w1 hw1 => ?_, ?_⟩; (focus (go_simp; (try go_ints); (try (simp only [IntWalk.iteOmega]; go_simp)); first | done | fail | (with_reducible rfl) | (with_reducible exact ⟨rfl, rfl⟩))); simp only [Act.put, List.setIfInBounds_toArray, List.set_cons_zero, List.set_cons_succ]; refine hK _ ?_; clear hK K) | ((with_reducible refine Sched.walk1_pure ?_ ?_ ?_ (fun K hK => ?_)); (focus rfl); (focus rfl); (focus rfl); apply Exists.intro; refine ⟨fun w1 => ?_, ?_⟩; (focus (go_simp; (try go_ints); (try (simp only [IntWalk.iteOmega]; go_simp)); first | done | (with_reducible rfl) | (with_reducible exact ⟨rfl, rfl⟩))); simp only [Act.put, List.setIfInBounds_toArray, List.set_cons_zero, List.set_cons_succ]; refine hK _ ?_; clear hK K) | (refine Sched.walk1_box rfl rfl ?_; apply Exists.intro; refine ⟨fun w1 hw1 => ?_, ?_⟩; (focus (go_simp; exact ⟨Gr.alloc _ _, rfl, by simp, heap_alloc_new _ _⟩))))
    (with_reducible refine Sched.walk1_nil ?_)
    intro wq hwq
    dsimp only [Sched.EndN, List.nil_append, List.cons_append, Act.put]
    (try simp only [List.setIfInBounds_toArray, List.set_cons_zero, List.set_cons_succ])
    repeat (first | (refine Sched.walk2_no rfl (fun K hK => ?_); simp only [Act.put, List.setIfInBounds_toArray, List.set_cons_zero, List.set_cons_succ]; refine hK _ ?_; clear hK K) | (refine Sched.walk2_go rfl (fun K hK => ?_); go_simp; (try go_ints); (try (simp only [IntWalk.iteOmega]; go_simp)); first | (refine hK _ _ ?_; clear hK K) | fail))
    refine Sched.walk2_nil ?_
    have HQ := Lib.hid hwq
    clear ci co hwq
    go_wp2_with fail
    go_ret
    exact ⟨ret_bool (by rw [HM.out, HB.out]; rfl), HQ.out⟩
end Go.Proofs.Ytgackcjhiplplaa
