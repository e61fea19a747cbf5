/- Dice: dynamic parameters. -/
import Derived.Test.YtmojlengjoicoaaFlowD
import Derived.Test.YtmojlengjoicoaaSchedG
namespace Go.Proofs.Ytmojlengjoicoaa
open Go.ChangeShapes Go.WideShapes Go.ChangeAt Go.RowKit

/-- The dice at p turn, and blocks are added. -/
def DG (p : Nat) (w w' : World) : Prop := w.grownBy w' (some p) ∧ Die w' p
theorem okDG (p : Nat) : SchedG.OkG (DG p) where
  refl := fun h => ⟨grownBy_refl _ _, h.2⟩
  trans := fun h k => ⟨grown_trans' h.1 k.1, k.2⟩
  size := fun h => h.1.size
theorem DG.drew {p : Nat} {w : World} (h : Die w p) : DG p w w.drew := ⟨grownBy_drew (grownBy_refl w _), h.kept (grownBy_drew (grownBy_refl w none)) (by simp)⟩
theorem DG.cell {p : Nat} {w w' : World} (h : DG p w w') {b o : Nat} {v : Value} (hc : w.cell? ⟨b, o, none⟩ = some v) (hne : b ≠ p) : w'.cell? ⟨b, o, none⟩ = some v := by
  have hlt := cell_lt hc
  rw [← hc]
  exact World.cell?_of_block (h.1.block b hlt (by simpa using hne))
theorem DG.alloc {p : Nat} {w : World} (h : Die w p) (o : Obj) : DG p w (w.alloc o) := ⟨grown_weak (World.grownBy_alloc w o none) _, h.kept (World.grownBy_alloc w o none) (by simp)⟩
/-- A number of a range. -/
def NInt (lo hi : Int) : Sched.NPred := fun _ _ v _ => ∃ x : Int, v = .int .i64 x ∧ lo ≤ x ∧ x ≤ hi
theorem NInt.stable {G : World → World → Prop} (lo hi : Int) : SchedG.Stable G (NInt lo hi) := fun _ _ _ _ _ h _ => h
/-- A new row of cells, a value made of its number. -/
def NDRow (p : Nat) (f : Nat → Value) (o : Obj) : Sched.NPred := fun lo _ v w => v = f lo ∧ p < lo ∧ w.heap[lo]? = some o
theorem NDRow.stable (p : Nat) (f : Nat → Value) (o : Obj) : SchedG.Stable (DG p) (NDRow p f o) := by
  rintro lo hi v w w' ⟨h1, h2, h3⟩ hg
  exact ⟨h1, h2, blk_kept h3 hg.1 (by simp; omega)⟩
/-- A pointer to one of the first n cells of such a row. -/
def NDPtr (p n : Nat) (o : Obj) : Sched.NPred := fun _ _ v w => ∃ g j, v = .pointer (some ⟨g, j, none⟩) ∧ j < n ∧ p < g ∧ w.heap[g]? = some o
theorem NDPtr.stable (p n : Nat) (o : Obj) : SchedG.Stable (DG p) (NDPtr p n o) := by
  rintro lo hi v w w' ⟨g, j, h1, h2, h3, h4⟩ hg
  exact ⟨g, j, h1, h2, h3, blk_kept h4 hg.1 (by simp; omega)⟩
def NDyn : Sched.NPred := fun _ _ v _ => ∃ s f : Int, v = DVal s f ∧ (0 ≤ s ∧ s ≤ 65535) ∧ (0 ≤ f ∧ f ≤ 1)
theorem NDyn.stable {G : World → World → Prop} : SchedG.Stable G NDyn := fun _ _ _ _ _ h _ => h
abbrev strides : Obj := .cells #[.int .i64 0, .int .i64 1, .int .i64 160, .int .i64 65535, .int .i64 3000] 3
def DynPost (p : Nat) (kind : Int) (w : World) (e : Ending) (w' : World) : Prop := ∃ s f : Int, e = .returned (DVal s f) ∧ (0 ≤ s ∧ s ≤ 65535) ∧ (0 ≤ f ∧ f ≤ 1) ∧ (kind ≠ 2 → s = 0 ∧ f = 0) ∧ Die w' p ∧ w.grownBy w' (some p)
set_option maxRecDepth 100000 in
set_option maxHeartbeats 2000000 in
theorem dynamic_any (p : Nat) (kind : Int) (w : World) (hd : Die w p) : Calls Try.prog 19 #[.pointer (some ⟨p, 0, none⟩), .int .i64 kind] w (DynPost p kind w) := by
  have hplt := hd.lt
  have HD := Lib.hid hd
  clear hd
  go_enter Try.func19, Try.ntmps19
  go_upto_region 1 with (fail)
  obtain ⟨w1, hw1⟩ : ∃ y, y = w.alloc (.cells #[.int .i64 0, .int .i64 0] 33) := ⟨_, rfl⟩
  rw [← hw1]
  have HZ1 := Lib.hid (show DBlk w.heap.size 0 0 w1 by rw [hw1]; exact heap_alloc_new _ _)
  have hg1 : Gr w w1 := by rw [hw1]; exact Gr.alloc _ _
  have HD1 := Lib.hid (HD.out.kept hg1 (by simp))
  have HG1 := Lib.hid (grown_weak hg1 (some p))
  clear hw1 hg1
  by_cases hk : kind = 2
  · have hkb : (kind != 2) = false := by simpa using hk
    have HK := Lib.hid hk
    clear hk
    go_wp2_with fail
    refine SchedG.wp_region_schedg 8 [] [0, 2, 3, 4, 6, 7] (SchedD.nsel [(0, NDRow p (fun lo => .slice (some ⟨lo, 0, none⟩) 5 5) strides), (2, NInt 0 4), (3, NDPtr p 5 strides), (4, NInt 0 65535), (6, NInt 0 1), (7, NDyn)]) [(3, [(0, 8), (2, 10)]), (4, [(3, 11)]), (7, [(4, 12), (6, 14)])] (okDG p) (DG.drew HD1.out) (by kernel_rfl) (by kernel_rfl) ?_
    simp only [List.take_succ_cons, List.take_zero, List.drop_succ_cons, List.drop_zero]
    refine SchedG.walk1_new0 (NDRow p (fun lo => .slice (some ⟨lo, 0, none⟩) 5 5) strides) rfl rfl rfl rfl (NDRow.stable _ _ _) (fun u hu => ?_) ?_
    · go_simp
      exact ⟨DG.alloc hu.2 _, rfl, hu.2.lt, heap_alloc_new _ _⟩
    repeat (first | ((with_reducible refine SchedG.walk1_no ?_ ?_ ?_ (fun K hK => ?_)); (focus rfl); (focus rfl); (focus rfl); simp only [Act.put, List.setIfInBounds_toArray, List.set_cons_zero, List.set_cons_succ]; refine hK _ ?_; clear hK K) | ((with_reducible refine SchedG.walk1_gr ?_ ?_ ?_ ?_ (fun K hK => ?_)); (focus rfl); (focus rfl); (focus rfl); (focus rfl); apply Exists.intro; refine ⟨fun w1 hw1 => ?_, ?_⟩; (focus (go_simp; (try go_ints); (try (simp only [IntWalk.iteOmega]; go_simp)); first | done | fail | (with_reducible rfl) | (with_reducible exact ⟨rfl, rfl⟩))); simp only [Act.put, List.setIfInBounds_toArray, List.set_cons_zero, List.set_cons_succ]; refine hK _ ?_; clear hK K) | ((with_reducible refine SchedG.walk1_pure ?_ ?_ ?_ ?_ (fun K hK => ?_)); (focus rfl); (focus rfl); (focus rfl); (focus rfl); apply Exists.intro; refine ⟨fun w1 => ?_, ?_⟩; (focus (go_simp; (try go_ints); (try (simp only [IntWalk.iteOmega]; go_simp)); first | done | (with_reducible rfl) | (with_reducible exact ⟨rfl, rfl⟩))); simp only [Act.put, List.setIfInBounds_toArray, List.set_cons_zero, List.set_cons_succ]; refine hK _ ?_; clear hK K))
    refine SchedG.walk1_new0 (NInt 0 4) rfl rfl rfl rfl (NInt.stable _ _) (fun u hu => ?_) ?_
    · go_simp
      go_at_call 18
      refine (next_any p 5 u hu.2 (by omega) (by omega)).mono ?_
      rintro e w8 ⟨x, rfl, x1, x2, hdx, hgx⟩
      exact ⟨_, rfl, ⟨hgx, hdx⟩, x, rfl, x1, by omega⟩
    refine SchedG.walk1_new2 (NDPtr p 5 strides) (NDRow p (fun lo => .slice (some ⟨lo, 0, none⟩) 5 5) strides) (NInt 0 4) 0 8 2 10 rfl rfl rfl rfl rfl (NDPtr.stable _ _ _) (fun u hu lo1 hi1 u1 q1 lo2 hi2 u2 q2 => ?_) ?_
    · obtain ⟨rfl, hlt, hblk⟩ := q1
      obtain ⟨x, rfl, x1, x2⟩ := q2
      have hx : x = 0 ∨ x = 1 ∨ x = 2 ∨ x = 3 ∨ x = 4 := by omega
      refine ⟨rfl, ?_⟩
      rcases hx with rfl | rfl | rfl | rfl | rfl
      · go_simp
        exact ⟨(okDG p).refl hu, lo1, 0, rfl, by omega, hlt, hblk⟩
      · go_simp
        exact ⟨(okDG p).refl hu, lo1, 1, rfl, by omega, hlt, hblk⟩
      · go_simp
        exact ⟨(okDG p).refl hu, lo1, 2, rfl, by omega, hlt, hblk⟩
      · go_simp
        exact ⟨(okDG p).refl hu, lo1, 3, rfl, by omega, hlt, hblk⟩
      · go_simp
        exact ⟨(okDG p).refl hu, lo1, 4, rfl, by omega, hlt, hblk⟩
    refine SchedG.walk1_new1 (NInt 0 65535) (NDPtr p 5 strides) 3 11 rfl rfl rfl rfl (NInt.stable _ _) (fun u hu lo1 hi1 u1 q1 => ?_) ?_
    · obtain ⟨g, j, rfl, hj, hlt, hblk⟩ := q1
      have hj5 : j = 0 ∨ j = 1 ∨ j = 2 ∨ j = 3 ∨ j = 4 := by omega
      refine ⟨rfl, ?_⟩
      have hc := fun i => cell_of_block hblk i
      rcases hj5 with rfl | rfl | rfl | rfl | rfl
      · have h := hc 0
        clear hc
        go_simp
        exact ⟨(okDG p).refl hu, _, rfl, by omega, by omega⟩
      · have h := hc 1
        clear hc
        go_simp
        exact ⟨(okDG p).refl hu, _, rfl, by omega, by omega⟩
      · have h := hc 2
        clear hc
        go_simp
        exact ⟨(okDG p).refl hu, _, rfl, by omega, by omega⟩
      · have h := hc 3
        clear hc
        go_simp
        exact ⟨(okDG p).refl hu, _, rfl, by omega, by omega⟩
      · have h := hc 4
        clear hc
        go_simp
        exact ⟨(okDG p).refl hu, _, rfl, by omega, by omega⟩
    repeat (first | ((with_reducible refine SchedG.walk1_no ?_ ?_ ?_ (fun K hK => ?_)); (focus rfl); (focus rfl); (focus rfl); simp only [Act.put, List.setIfInBounds_toArray, List.set_cons_zero, List.set_cons_succ]; refine hK _ ?_; clear hK K) | ((with_reducible refine SchedG.walk1_gr ?_ ?_ ?_ ?_ (fun K hK => ?_)); (focus rfl); (focus rfl); (focus rfl); (focus rfl); apply Exists.intro; refine ⟨fun w1 hw1 => ?_, ?_⟩; (focus (go_simp; (try go_ints); (try (simp only [IntWalk.iteOmega]; go_simp)); first | done | fail | (with_reducible rfl) | (with_reducible exact ⟨rfl, rfl⟩))); simp only [Act.put, List.setIfInBounds_toArray, List.set_cons_zero, List.set_cons_succ]; refine hK _ ?_; clear hK K) | ((with_reducible refine SchedG.walk1_pure ?_ ?_ ?_ ?_ (fun K hK => ?_)); (focus rfl); (focus rfl); (focus rfl); (focus rfl); apply Exists.intro; refine ⟨fun w1 => ?_, ?_⟩; (focus (go_simp; (try go_ints); (try (simp only [IntWalk.iteOmega]; go_simp)); first | done | (with_reducible rfl) | (with_reducible exact ⟨rfl, rfl⟩))); simp only [Act.put, List.setIfInBounds_toArray, List.set_cons_zero, List.set_cons_succ]; refine hK _ ?_; clear hK K))
    refine SchedG.walk1_new0 (NInt 0 1) rfl rfl rfl rfl (NInt.stable _ _) (fun u hu => ?_) ?_
    · go_simp
      go_at_call 18
      refine (next_any p 2 u hu.2 (by omega) (by omega)).mono ?_
      rintro e w8 ⟨x, rfl, x1, x2, hdx, hgx⟩
      exact ⟨_, rfl, ⟨hgx, hdx⟩, x, rfl, x1, by omega⟩
    refine SchedG.walk1_new2 NDyn (NInt 0 65535) (NInt 0 1) 4 12 6 14 rfl rfl rfl rfl rfl NDyn.stable (fun u hu lo1 hi1 u1 q1 lo2 hi2 u2 q2 => ?_) ?_
    · obtain ⟨x, rfl, x1, x2⟩ := q1
      obtain ⟨y, rfl, y1, y2⟩ := q2
      refine ⟨rfl, ?_⟩
      go_simp
      exact ⟨(okDG p).refl hu, x, y, rfl, ⟨x1, x2⟩, ⟨y1, y2⟩⟩
    (with_reducible refine SchedG.walk1_nil ?_)
    intro wq hwq
    dsimp only [Sched.EndN]
    rintro lo1 hi1 u1 - - - - - lo2 hi2 u2 - - - - - lo3 hi3 u3 - - - - - lo4 hi4 u4 - - - - - lo5 hi5 u5 - - - - - lo6 hi6 u6 ⟨s, f, rfl, hs, hf⟩ - - - -
    have hzq : DBlk w.heap.size 0 0 wq := HZ1.out.dice hwq.1 (by omega)
    have HGE := Lib.hid (grown_new (grown_new (grown_trans' HG1.out hwq.1) (a := ⟨w.heap.size, 0, none⟩) (Nat.le_refl _) (.int .i64 s)) (a := ⟨w.heap.size, 1, none⟩) (Nat.le_refl _) (.int .i64 f))
    have HBE := Lib.hid ((hzq.set0 s).set1 f)
    have HDE := Lib.hid (die_set (v := .int .i64 f) (i := 1) (die_set (v := .int .i64 s) (i := 0) hwq.2 hplt) hplt)
    have z0 := hzq.c0
    have z1 := hzq.c1
    have g0 := hzq.fz 0
    have g1 := hzq.fz 1
    have HSF := Lib.hid (And.intro hs hf)
    clear hzq hwq hs hf
    dsimp only [Sched.EndN, List.nil_append, List.cons_append, Act.put]
    (try simp only [List.setIfInBounds_toArray, List.set_cons_zero, List.set_cons_succ])
    repeat (first | (refine Sched.walk2_no rfl (fun K hK => ?_); simp only [Act.put, List.setIfInBounds_toArray, List.set_cons_zero, List.set_cons_succ]; refine hK _ ?_; clear hK K) | (refine Sched.walk2_go rfl (fun K hK => ?_); go_simp; (try go_ints); (try (simp only [IntWalk.iteOmega]; go_simp)); first | (refine hK _ _ ?_; clear hK K) | fail))
    refine Sched.walk2_nil ?_
    clear z0 z1 g0 g1
    go_wp2_with fail
    have hbe := HBE.out
    unfold DBlk at hbe
    exact bodyPost_ret (v := DVal s f) (results_cell_row Try.results19 _ _ w.heap.size _ _ _ _ rfl hbe Try.underlying33 rfl (by kernel_rfl)) rfl ⟨s, f, rfl, HSF.out.1, HSF.out.2, fun h => absurd HK.out h, HDE.out, HGE.out⟩
  · have hkb : (kind != 2) = true := by simpa using hk
    have HK := Lib.hid hk
    have z0 := HZ1.out.c0
    have z1 := HZ1.out.c1
    have g0 := HZ1.out.fz 0
    have g1 := HZ1.out.fz 1
    clear hk
    have HGE := Lib.hid (grown_new (grown_new HG1.out (a := ⟨w.heap.size, 0, none⟩) (Nat.le_refl _) (.int .i64 0)) (a := ⟨w.heap.size, 1, none⟩) (Nat.le_refl _) (.int .i64 0))
    have HBE := Lib.hid ((HZ1.out.set0 0).set1 0)
    have HDE := Lib.hid (die_set (v := .int .i64 0) (i := 1) (die_set (v := .int .i64 0) (i := 0) HD1.out hplt) hplt)
    go_wp2_with fail
    have hbe := HBE.out
    unfold DBlk at hbe
    exact bodyPost_ret (v := DVal 0 0) (results_cell_row Try.results19 _ _ w.heap.size _ _ _ _ rfl hbe Try.underlying33 rfl (by kernel_rfl)) rfl ⟨0, 0, rfl, by omega, by omega, fun _ => ⟨rfl, rfl⟩, HDE.out, HGE.out⟩
end Go.Proofs.Ytmojlengjoicoaa
