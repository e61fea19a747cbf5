/- The law CodePlaces: its walk. -/
import Derived.Test.YtbdbllagbifkgaaCodePos
import Derived.Test.YtbdbllagbifkgaaCodeLaws
import Derived.Deep.Cut
namespace Go.Proofs.Ytbdbllagbifkgaa
open Go.ChangeShapes Go.WideShapes Go.ChangeAt Go.RowKit
open Cod

/-- Block g holds these values. -/
def Blk (g : Nat) (e : TypeId) (L : List Value) (w : World) : Prop := w.heap[g]? = some (.cells L.toArray e (0, 0))
theorem Blk.cell {g : Nat} {e : TypeId} {L : List Value} {w : World} (h : Blk g e L w) {i : Nat} {v : Value} (hi : L[i]? = some v) : w.cell? ⟨g, i, none⟩ = some v := by
  rw [cell_of_block h]; simpa using hi
theorem Blk.frozen {g : Nat} {e : TypeId} {L : List Value} {w : World} (h : Blk g e L w) (i : Nat) : w.frozen? ⟨g, i, none⟩ = false := frozen_of_block h i
theorem Blk.set {g : Nat} {e : TypeId} {L : List Value} {w : World} (h : Blk g e L w) (i : Nat) (v : Value) : Blk g e (L.set i v) (w.setCell ⟨g, i, none⟩ v) := by
  have := heap_setCell_eq h i v
  unfold Blk
  rw [this]
  simp
theorem Blk.kept {g : Nat} {e : TypeId} {L : List Value} {w w' : World} (h : Blk g e L w) (hg : Gr w w') : Blk g e L w' := by
  unfold Blk; rw [hg.block _ (heap_lt h) (by simp)]; exact h
theorem info_bool : (Try.prog.info? 4).map (fun i => (i.zero, i.size, i.bytes)) = some (some (.bool false), 1, 1) := by kernel_rfl
theorem make_bools (m : Nat) (hm : m ≤ 17592186044416) (w : World) : (Instr.makeSlice 31 (.int .i64 (m : Int)) (.int .i64 (m : Int))).run Try.prog w = .ok (.slice (some ⟨w.heap.size, 0, none⟩) m m) (w.alloc (.cells (Array.replicate m (.bool false)) 4)) := by
  obtain ⟨i0, hi, hz0, hz1, hz2⟩ := info_parts info_bool
  have := run_make (P := Try.prog) w 31 4 i0 _ Try.underlying31 hi hz0 .i64 .i64 m m (by omega) (by omega) (by rw [hz2]; omega) (by omega)
  rw [hz1] at this
  have e : madeCells (Value.bool false).cells m = Array.replicate m (.bool false) := by
    apply Array.ext
    · simp [madeCells]
    · intro i h1 h2
      have h3 : i % 1 = 0 := Nat.mod_one i
      simp [madeCells, Value.cells, h3]
  simp only [Int.toNat_natCast, Nat.mul_one] at this
  rw [e] at this
  exact this
def posN (t b k : Nat) : Nat := (b + k) % t
theorem posN_lt {t b k : Nat} (ht : 1 ≤ t) : posN t b k < t := Nat.mod_lt _ (by omega)
theorem posN_next (t b k : Nat) : (posN t b k + 1) % t = posN t b (k + 1) := by
  unfold posN; rw [Nat.mod_add_mod, Nat.add_assoc]
theorem posN_all {t b : Nat} (hb : b < t) (i : Nat) (hi : i < t) : ∃ j, j < t ∧ posN t b j = i := by
  unfold posN
  by_cases h : b ≤ i
  · exact ⟨i - b, by omega, by rw [show b + (i - b) = i by omega]; exact Nat.mod_eq_of_lt hi⟩
  · exact ⟨i + t - b, by omega, by rw [show b + (i + t - b) = i + t by omega, Nat.add_mod_right]; exact Nat.mod_eq_of_lt hi⟩
def SeenRel (w1 : World) (g t b c : Nat) (i : Value) (wr : World) : Prop :=
  ∃ (k : Nat) (L : List Value), k ≤ c ∧ i = .int .i64 k ∧ Blk g 4 L wr ∧ L.length = t ∧ (∀ j, j < k → L[posN t b j]? = some (.bool true)) ∧ Gr w1 wr
set_option maxRecDepth 100000 in
set_option maxHeartbeats 2000000 in
theorem places_walk (n z y : Int) (w : World) (hn : 0 ≤ n ∧ n ≤ 65535) (hz : 0 ≤ z ∧ z ≤ 255) (hy : 0 ≤ y ∧ y ≤ 255) :
    Calls Try.prog 10 #[.int .u16 n, .int .u8 z, .int .u8 y] w fun e w' => e = .returned (.bool true) ∧ Gr w w' := by
  obtain ⟨n1, n2⟩ := hn
  obtain ⟨z1, z2⟩ := hz
  obtain ⟨y1, y2⟩ := hy
  obtain ⟨t, ht⟩ : ∃ t : Nat, 6 + 2 * (n % 300) = t := ⟨(6 + 2 * (n % 300)).toNat, by omega⟩
  have t1 : 6 ≤ t := by omega
  have t2 : t ≤ 604 := by omega
  obtain ⟨c, hc⟩ : ∃ c : Nat, (t : Int) + y = c := ⟨((t : Int) + y).toNat, by omega⟩
  have c1 : t ≤ c := by omega
  have c2 : c ≤ 859 := by omega
  have hmk := fun u => make_bools t (by omega) u
  have v4 : z % 4 = 0 ∨ z % 4 = 1 ∨ z % 4 = 2 ∨ z % 4 = 3 := by omega
  rcases v4 with hv | hv | hv | hv
  · go_enter Try.func10, Try.ntmps10
    go_wp2_with fail
    obtain ⟨b, hb⟩ : ∃ b : Nat, 0 * t / 4 = b := ⟨_, rfl⟩
    have hbt : b < t := by omega
    have hspell : (0 : Int) = (b : Int) := by omega
    have HSP := Lib.hid hspell
    have HBE := Lib.hid hb
    clear hspell hb
    refine (positions_yes t 0 c w (by omega) (by omega) (by omega) (by omega) (by omega)).mono ?_
    rintro e w1 ⟨g, rfl, ho1, hg1⟩
    obtain ⟨_, -, hgB, -, -, -⟩ := ho1.some (by omega)
    have hcp : ∀ k, k < c → w1.cell? ⟨g, k, none⟩ = some (.int .i64 (posN t b k : Nat)) := fun k hk => by
      have := (ho1.at k hk).1
      rw [posL_at _ _ _ _ hk, HBE.out] at this
      exact this
    have HCP := Lib.hid hcp
    have HG1 := Lib.hid hg1
    have c0 := hcp 0 (by omega)
    have hp0 : posN t b 0 = b := by unfold posN; rw [Nat.add_zero]; exact Nat.mod_eq_of_lt hbt
    rw [hp0, ← HSP.out] at c0
    clear ho1 hg1 hcp hp0
    have hcc : ((c : Int) != (c : Int)) = false := by simp
    go_wp2_with fail
    clear c0 hcc ht hc hv
    obtain ⟨w2, hw2⟩ : ∃ y, y = w1.alloc (.cells (Array.replicate t (.bool false)) 4) := ⟨_, rfl⟩
    have hb2 : Blk w1.heap.size 4 (List.replicate t (.bool false)) w2 := by unfold Blk; rw [hw2, heap_alloc_new]; simp
    rw [← hw2]
    have HG2 := Lib.hid (show Gr w1 w2 by rw [hw2]; exact Gr.alloc _ _)
    have HB2 := Lib.hid hb2
    clear hw2 hb2 hmk
    go_loopw [13] (fun i wr => SeenRel w1 w1.heap.size t b c i wr) (fun i _ => c - (intOf i).toNat)
    case atStart => exact ⟨0, _, by omega, rfl, HB2.out, by simp, fun j hj => by omega, HG2.out⟩
    case round =>
      clear HB2 HG2
      obtain ⟨k, L, hk, rfl, hblk, hll, hse, hg⟩ := hrel
      have HBL := Lib.hid hblk
      have HLL := Lib.hid hll
      have HSE := Lib.hid hse
      have HG := Lib.hid hg
      clear hblk hll hse hg
      by_cases hlt : k < c
      · obtain ⟨X, hX⟩ : ∃ X, posN t b k = X := ⟨_, rfl⟩
        have hXt : X < t := by rw [← hX]; exact posN_lt (by omega)
        have q1 : ∀ u, Gr wr u → u.cell? ⟨g, k, none⟩ = some (.int .i64 (X : Int)) := fun u h => by rw [← hX]; exact (HG.out.trans h).cell (HCP.out k hlt)
        have hLX : L[X]? = some (L[X]?.getD undef) := by rw [List.getElem?_eq_getElem (by rw [HLL.out]; exact hXt)]; rfl
        obtain ⟨V, hV⟩ : ∃ V, L[X]?.getD undef = V := ⟨_, rfl⟩
        rw [hV] at hLX
        have HXE := Lib.hid hX
        have HLX := Lib.hid hLX
        have HQ1 := Lib.hid q1
        clear hX hV hLX
        have d1 : decide (t ≤ X) = false := by simp; omega
        by_cases hk0 : k = 0
        · subst hk0
          have hz0 : ((0 : Nat) : Int) = 0 := rfl
          rw [hz0]
          clear hz0
          go_wp2_with fail
          refine Sched.wp_region_sched 32 [] [] (by kernel_rfl) (by kernel_rfl) ?_
          simp only [List.take_succ_cons, List.take_zero, List.drop_succ_cons, List.drop_zero]
          repeat (first | ((with_reducible refine Sched.walk1_no ?_ ?_ (fun K hK => ?_)); (focus rfl); (focus rfl); simp only [Act.put, List.setIfInBounds_toArray, List.set_cons_zero, List.set_cons_succ]; refine hK _ ?_; clear hK K) | ((with_reducible refine Sched.walk1_gr ?_ ?_ ?_ (fun K hK => ?_)); (focus rfl); (focus rfl); (focus rfl); apply Exists.intro; refine ⟨fun w1 hw1 => ?_, ?_⟩; (focus (go_simp; (try go_ints); (try (simp only [IntWalk.iteOmega]; go_simp)); first | done | fail | (with_reducible rfl) | (with_reducible exact ⟨rfl, rfl⟩))); simp only [Act.put, List.setIfInBounds_toArray, List.set_cons_zero, List.set_cons_succ]; refine hK _ ?_; clear hK K) | ((with_reducible refine Sched.walk1_pure ?_ ?_ ?_ (fun K hK => ?_)); (focus rfl); (focus rfl); (focus rfl); apply Exists.intro; refine ⟨fun w1 => ?_, ?_⟩; (focus (go_simp; (try go_ints); (try (simp only [IntWalk.iteOmega]; go_simp)); first | done | (with_reducible rfl) | (with_reducible exact ⟨rfl, rfl⟩))); simp only [Act.put, List.setIfInBounds_toArray, List.set_cons_zero, List.set_cons_succ]; refine hK _ ?_; clear hK K) | (refine Sched.walk1_box rfl rfl ?_; apply Exists.intro; refine ⟨fun w1 hw1 => ?_, ?_⟩; (focus (go_simp; exact ⟨Gr.alloc _ _, rfl, by simp, heap_alloc_new _ _⟩))))
          (with_reducible refine Sched.walk1_nil ?_)
          intro wq hwq
          dsimp only [Sched.EndN, List.nil_append, List.cons_append, Act.put]
          (try simp only [List.setIfInBounds_toArray, List.set_cons_zero, List.set_cons_succ])
          repeat (first | (refine Sched.walk2_no rfl (fun K hK => ?_); simp only [Act.put, List.setIfInBounds_toArray, List.set_cons_zero, List.set_cons_succ]; refine hK _ ?_; clear hK K) | (refine Sched.walk2_go rfl (fun K hK => ?_); go_simp; (try go_ints); (try (simp only [IntWalk.iteOmega]; go_simp)); first | (refine hK _ _ ?_; clear hK K) | fail))
          refine Sched.walk2_nil ?_
          clear d1
          have qq := HQ1.out wq hwq
          have hbk := HBL.out.kept hwq
          have cX := hbk.cell HLX.out
          have fX := hbk.frozen X
          have HBK := Lib.hid hbk
          have HW := Lib.hid hwq
          have hlx : X < L.length := by rw [HLL.out]; exact hXt
          have HLXL := Lib.hid hlx
          clear hwq q1 hbk hlx
          go_wp2_with fail
          go_roundw
          case rel => exact ⟨0 + 1, _, by omega, by go_num, HBK.out.set X (.bool true), by rw [List.length_set]; exact HLL.out, fun i hi => by
            by_cases hx : posN t b i = X
            · rw [hx, List.getElem?_set_self HLXL.out]
            · rw [List.getElem?_set_ne (fun e => hx e.symm)]
              refine HSE.out i ?_
              by_cases h : i < 0
              · exact h
              · obtain rfl : i = 0 := by omega
                exact absurd HXE.out hx, grown_set (HG.out.trans HW.out) (a := ⟨w1.heap.size, X, none⟩) (Nat.le_refl _) _⟩
          case measure => (simp [intOf] <;> omega)
        · obtain ⟨j, rfl⟩ : ∃ j, k = j + 1 := ⟨k - 1, by omega⟩
          obtain ⟨Y, hY⟩ : ∃ Y, posN t b j = Y := ⟨_, rfl⟩
          have hXY : (Y + 1) % t = X := by rw [← hY, posN_next]; exact HXE.out
          have hne : ((X : Int) != ((Y : Int) + 1) % (t : Int)) = false := by
            rw [← hXY]; push_cast; simp
          have hYt : Y < t := by rw [← hY]; exact posN_lt (by omega)
          have q2 : ∀ u, Gr wr u → u.cell? ⟨g, j, none⟩ = some (.int .i64 (Y : Int)) := fun u h => by rw [← hY]; exact (HG.out.trans h).cell (HCP.out j (by omega))
          have hk1 : 1 ≤ j + 1 := by omega
          clear hY hXY hk0
          push_cast
          push_cast at q1
          have hj1 : (j : Int) + 1 - 1 = (j : Int) := by omega
          go_wp2_with fail
          refine Sched.wp_region_sched 32 [] [] (by kernel_rfl) (by kernel_rfl) ?_
          simp only [List.take_succ_cons, List.take_zero, List.drop_succ_cons, List.drop_zero]
          repeat (first | ((with_reducible refine Sched.walk1_no ?_ ?_ (fun K hK => ?_)); (focus rfl); (focus rfl); simp only [Act.put, List.setIfInBounds_toArray, List.set_cons_zero, List.set_cons_succ]; refine hK _ ?_; clear hK K) | ((with_reducible refine Sched.walk1_gr ?_ ?_ ?_ (fun K hK => ?_)); (focus rfl); (focus rfl); (focus rfl); apply Exists.intro; refine ⟨fun w1 hw1 => ?_, ?_⟩; (focus (go_simp; (try go_ints); (try (simp only [IntWalk.iteOmega]; go_simp)); first | done | fail | (with_reducible rfl) | (with_reducible exact ⟨rfl, rfl⟩))); simp only [Act.put, List.setIfInBounds_toArray, List.set_cons_zero, List.set_cons_succ]; refine hK _ ?_; clear hK K) | ((with_reducible refine Sched.walk1_pure ?_ ?_ ?_ (fun K hK => ?_)); (focus rfl); (focus rfl); (focus rfl); apply Exists.intro; refine ⟨fun w1 => ?_, ?_⟩; (focus (go_simp; (try go_ints); (try (simp only [IntWalk.iteOmega]; go_simp)); first | done | (with_reducible rfl) | (with_reducible exact ⟨rfl, rfl⟩))); simp only [Act.put, List.setIfInBounds_toArray, List.set_cons_zero, List.set_cons_succ]; refine hK _ ?_; clear hK K) | (refine Sched.walk1_box rfl rfl ?_; apply Exists.intro; refine ⟨fun w1 hw1 => ?_, ?_⟩; (focus (go_simp; exact ⟨Gr.alloc _ _, rfl, by simp, heap_alloc_new _ _⟩))))
          (with_reducible refine Sched.walk1_nil ?_)
          intro wq hwq
          dsimp only [Sched.EndN, List.nil_append, List.cons_append, Act.put]
          (try simp only [List.setIfInBounds_toArray, List.set_cons_zero, List.set_cons_succ])
          repeat (first | (refine Sched.walk2_no rfl (fun K hK => ?_); simp only [Act.put, List.setIfInBounds_toArray, List.set_cons_zero, List.set_cons_succ]; refine hK _ ?_; clear hK K) | (refine Sched.walk2_go rfl (fun K hK => ?_); go_simp; (try go_ints); (try (simp only [IntWalk.iteOmega]; go_simp)); first | (refine hK _ _ ?_; clear hK K) | fail))
          refine Sched.walk2_nil ?_
          clear q2 hne hj1 d1
          have qq := HQ1.out wq hwq
          have hbk := HBL.out.kept hwq
          have cX := hbk.cell HLX.out
          have fX := hbk.frozen X
          have HBK := Lib.hid hbk
          have HW := Lib.hid hwq
          have hlx : X < L.length := by rw [HLL.out]; exact hXt
          have HLXL := Lib.hid hlx
          clear hwq q1 hbk hlx
          go_wp2_with fail
          go_roundw
          case rel => exact ⟨j + 1 + 1, _, by omega, by go_num, HBK.out.set X (.bool true), by rw [List.length_set]; exact HLL.out, fun i hi => by
            by_cases hx : posN t b i = X
            · rw [hx, List.getElem?_set_self HLXL.out]
            · rw [List.getElem?_set_ne (fun e => hx e.symm)]
              refine HSE.out i ?_
              by_cases h : i < j + 1
              · exact h
              · obtain rfl : i = j + 1 := by omega
                exact absurd HXE.out hx, grown_set (HG.out.trans HW.out) (a := ⟨w1.heap.size, X, none⟩) (Nat.le_refl _) _⟩
          case measure => (simp [intOf] <;> omega)
      · obtain rfl : k = c := by omega
        have hall : ∀ i, i < t → wr.cell? ⟨w1.heap.size, i, none⟩ = some (.bool true) := fun i hi => by
          obtain ⟨j, hj, e⟩ := posN_all hbt i hi
          have := HSE.out j (by omega)
          rw [e] at this
          exact HBL.out.cell this
        have HALL := Lib.hid hall
        have HGW := Lib.hid (HG1.out.trans HG.out)
        clear hall
        go_wp2_with fail
        obtain ⟨wo, rfl⟩ : ∃ wo : World, wo = wr := ⟨_, rfl⟩
        go_loopw [14] (fun i wr => ∃ q : Nat, q ≤ t ∧ i = .int .i64 q ∧ Gr wo wr) (fun i _ => t - (intOf i).toNat)
        case atStart => exact ⟨0, by omega, rfl, Gr.refl _⟩
        case round =>
          obtain ⟨q, hq, rfl, hgw⟩ := hrel
          have HGO := Lib.hid hgw
          clear hgw
          by_cases hlq : q < t
          · have cq := HGO.out.cell (HALL.out q hlq)
            go_wp2_with fail
            go_roundw
            case rel => exact ⟨q + 1, by omega, by go_num, HGO.out⟩
            case measure => (simp [intOf] <;> omega)
          · obtain rfl : q = t := by omega
            go_wp2_with fail
            refine (awake28 _).mono ?_
            rintro e w9 ⟨rfl, hg9⟩
            have HG9 := Lib.hid hg9
            clear hg9
            go_wp2_with fail
            go_ret
            exact ⟨rfl, HGW.out.trans (HGO.out.trans HG9.out)⟩
  · go_enter Try.func10, Try.ntmps10
    go_wp2_with fail
    obtain ⟨b, hb⟩ : ∃ b : Nat, 1 * t / 4 = b := ⟨_, rfl⟩
    have hbt : b < t := by omega
    have hspell : (t : Int) / 4 = (b : Int) := by omega
    have HSP := Lib.hid hspell
    have HBE := Lib.hid hb
    clear hspell hb
    refine (positions_yes t 1 c w (by omega) (by omega) (by omega) (by omega) (by omega)).mono ?_
    rintro e w1 ⟨g, rfl, ho1, hg1⟩
    obtain ⟨_, -, hgB, -, -, -⟩ := ho1.some (by omega)
    have hcp : ∀ k, k < c → w1.cell? ⟨g, k, none⟩ = some (.int .i64 (posN t b k : Nat)) := fun k hk => by
      have := (ho1.at k hk).1
      rw [posL_at _ _ _ _ hk, HBE.out] at this
      exact this
    have HCP := Lib.hid hcp
    have HG1 := Lib.hid hg1
    have c0 := hcp 0 (by omega)
    have hp0 : posN t b 0 = b := by unfold posN; rw [Nat.add_zero]; exact Nat.mod_eq_of_lt hbt
    rw [hp0, ← HSP.out] at c0
    clear ho1 hg1 hcp hp0
    have hcc : ((c : Int) != (c : Int)) = false := by simp
    go_wp2_with fail
    clear c0 hcc ht hc hv
    obtain ⟨w2, hw2⟩ : ∃ y, y = w1.alloc (.cells (Array.replicate t (.bool false)) 4) := ⟨_, rfl⟩
    have hb2 : Blk w1.heap.size 4 (List.replicate t (.bool false)) w2 := by unfold Blk; rw [hw2, heap_alloc_new]; simp
    rw [← hw2]
    have HG2 := Lib.hid (show Gr w1 w2 by rw [hw2]; exact Gr.alloc _ _)
    have HB2 := Lib.hid hb2
    clear hw2 hb2 hmk
    go_loopw [13] (fun i wr => SeenRel w1 w1.heap.size t b c i wr) (fun i _ => c - (intOf i).toNat)
    case atStart => exact ⟨0, _, by omega, rfl, HB2.out, by simp, fun j hj => by omega, HG2.out⟩
    case round =>
      clear HB2 HG2
      obtain ⟨k, L, hk, rfl, hblk, hll, hse, hg⟩ := hrel
      have HBL := Lib.hid hblk
      have HLL := Lib.hid hll
      have HSE := Lib.hid hse
      have HG := Lib.hid hg
      clear hblk hll hse hg
      by_cases hlt : k < c
      · obtain ⟨X, hX⟩ : ∃ X, posN t b k = X := ⟨_, rfl⟩
        have hXt : X < t := by rw [← hX]; exact posN_lt (by omega)
        have q1 : ∀ u, Gr wr u → u.cell? ⟨g, k, none⟩ = some (.int .i64 (X : Int)) := fun u h => by rw [← hX]; exact (HG.out.trans h).cell (HCP.out k hlt)
        have hLX : L[X]? = some (L[X]?.getD undef) := by rw [List.getElem?_eq_getElem (by rw [HLL.out]; exact hXt)]; rfl
        obtain ⟨V, hV⟩ : ∃ V, L[X]?.getD undef = V := ⟨_, rfl⟩
        rw [hV] at hLX
        have HXE := Lib.hid hX
        have HLX := Lib.hid hLX
        have HQ1 := Lib.hid q1
        clear hX hV hLX
        have d1 : decide (t ≤ X) = false := by simp; omega
        by_cases hk0 : k = 0
        · subst hk0
          have hz0 : ((0 : Nat) : Int) = 0 := rfl
          rw [hz0]
          clear hz0
          go_wp2_with fail
          refine Sched.wp_region_sched 32 [] [] (by kernel_rfl) (by kernel_rfl) ?_
          simp only [List.take_succ_cons, List.take_zero, List.drop_succ_cons, List.drop_zero]
          repeat (first | ((with_reducible refine Sched.walk1_no ?_ ?_ (fun K hK => ?_)); (focus rfl); (focus rfl); simp only [Act.put, List.setIfInBounds_toArray, List.set_cons_zero, List.set_cons_succ]; refine hK _ ?_; clear hK K) | ((with_reducible refine Sched.walk1_gr ?_ ?_ ?_ (fun K hK => ?_)); (focus rfl); (focus rfl); (focus rfl); apply Exists.intro; refine ⟨fun w1 hw1 => ?_, ?_⟩; (focus (go_simp; (try go_ints); (try (simp only [IntWalk.iteOmega]; go_simp)); first | done | fail | (with_reducible rfl) | (with_reducible exact ⟨rfl, rfl⟩))); simp only [Act.put, List.setIfInBounds_toArray, List.set_cons_zero, List.set_cons_succ]; refine hK _ ?_; clear hK K) | ((with_reducible refine Sched.walk1_pure ?_ ?_ ?_ (fun K hK => ?_)); (focus rfl); (focus rfl); (focus rfl); apply Exists.intro; refine ⟨fun w1 => ?_, ?_⟩; (focus (go_simp; (try go_ints); (try (simp only [IntWalk.iteOmega]; go_simp)); first | done | (with_reducible rfl) | (with_reducible exact ⟨rfl, rfl⟩))); simp only [Act.put, List.setIfInBounds_toArray, List.set_cons_zero, List.set_cons_succ]; refine hK _ ?_; clear hK K) | (refine Sched.walk1_box rfl rfl ?_; apply Exists.intro; refine ⟨fun w1 hw1 => ?_, ?_⟩; (focus (go_simp; exact ⟨Gr.alloc _ _, rfl, by simp, heap_alloc_new _ _⟩))))
          (with_reducible refine Sched.walk1_nil ?_)
          intro wq hwq
          dsimp only [Sched.EndN, List.nil_append, List.cons_append, Act.put]
          (try simp only [List.setIfInBounds_toArray, List.set_cons_zero, List.set_cons_succ])
          repeat (first | (refine Sched.walk2_no rfl (fun K hK => ?_); simp only [Act.put, List.setIfInBounds_toArray, List.set_cons_zero, List.set_cons_succ]; refine hK _ ?_; clear hK K) | (refine Sched.walk2_go rfl (fun K hK => ?_); go_simp; (try go_ints); (try (simp only [IntWalk.iteOmega]; go_simp)); first | (refine hK _ _ ?_; clear hK K) | fail))
          refine Sched.walk2_nil ?_
          clear d1
          have qq := HQ1.out wq hwq
          have hbk := HBL.out.kept hwq
          have cX := hbk.cell HLX.out
          have fX := hbk.frozen X
          have HBK := Lib.hid hbk
          have HW := Lib.hid hwq
          have hlx : X < L.length := by rw [HLL.out]; exact hXt
          have HLXL := Lib.hid hlx
          clear hwq q1 hbk hlx
          go_wp2_with fail
          go_roundw
          case rel => exact ⟨0 + 1, _, by omega, by go_num, HBK.out.set X (.bool true), by rw [List.length_set]; exact HLL.out, fun i hi => by
            by_cases hx : posN t b i = X
            · rw [hx, List.getElem?_set_self HLXL.out]
            · rw [List.getElem?_set_ne (fun e => hx e.symm)]
              refine HSE.out i ?_
              by_cases h : i < 0
              · exact h
              · obtain rfl : i = 0 := by omega
                exact absurd HXE.out hx, grown_set (HG.out.trans HW.out) (a := ⟨w1.heap.size, X, none⟩) (Nat.le_refl _) _⟩
          case measure => (simp [intOf] <;> omega)
        · obtain ⟨j, rfl⟩ : ∃ j, k = j + 1 := ⟨k - 1, by omega⟩
          obtain ⟨Y, hY⟩ : ∃ Y, posN t b j = Y := ⟨_, rfl⟩
          have hXY : (Y + 1) % t = X := by rw [← hY, posN_next]; exact HXE.out
          have hne : ((X : Int) != ((Y : Int) + 1) % (t : Int)) = false := by
            rw [← hXY]; push_cast; simp
          have hYt : Y < t := by rw [← hY]; exact posN_lt (by omega)
          have q2 : ∀ u, Gr wr u → u.cell? ⟨g, j, none⟩ = some (.int .i64 (Y : Int)) := fun u h => by rw [← hY]; exact (HG.out.trans h).cell (HCP.out j (by omega))
          have hk1 : 1 ≤ j + 1 := by omega
          clear hY hXY hk0
          push_cast
          push_cast at q1
          have hj1 : (j : Int) + 1 - 1 = (j : Int) := by omega
          go_wp2_with fail
          refine Sched.wp_region_sched 32 [] [] (by kernel_rfl) (by kernel_rfl) ?_
          simp only [List.take_succ_cons, List.take_zero, List.drop_succ_cons, List.drop_zero]
          repeat (first | ((with_reducible refine Sched.walk1_no ?_ ?_ (fun K hK => ?_)); (focus rfl); (focus rfl); simp only [Act.put, List.setIfInBounds_toArray, List.set_cons_zero, List.set_cons_succ]; refine hK _ ?_; clear hK K) | ((with_reducible refine Sched.walk1_gr ?_ ?_ ?_ (fun K hK => ?_)); (focus rfl); (focus rfl); (focus rfl); apply Exists.intro; refine ⟨fun w1 hw1 => ?_, ?_⟩; (focus (go_simp; (try go_ints); (try (simp only [IntWalk.iteOmega]; go_simp)); first | done | fail | (with_reducible rfl) | (with_reducible exact ⟨rfl, rfl⟩))); simp only [Act.put, List.setIfInBounds_toArray, List.set_cons_zero, List.set_cons_succ]; refine hK _ ?_; clear hK K) | ((with_reducible refine Sched.walk1_pure ?_ ?_ ?_ (fun K hK => ?_)); (focus rfl); (focus rfl); (focus rfl); apply Exists.intro; refine ⟨fun w1 => ?_, ?_⟩; (focus (go_simp; (try go_ints); (try (simp only [IntWalk.iteOmega]; go_simp)); first | done | (with_reducible rfl) | (with_reducible exact ⟨rfl, rfl⟩))); simp only [Act.put, List.setIfInBounds_toArray, List.set_cons_zero, List.set_cons_succ]; refine hK _ ?_; clear hK K) | (refine Sched.walk1_box rfl rfl ?_; apply Exists.intro; refine ⟨fun w1 hw1 => ?_, ?_⟩; (focus (go_simp; exact ⟨Gr.alloc _ _, rfl, by simp, heap_alloc_new _ _⟩))))
          (with_reducible refine Sched.walk1_nil ?_)
          intro wq hwq
          dsimp only [Sched.EndN, List.nil_append, List.cons_append, Act.put]
          (try simp only [List.setIfInBounds_toArray, List.set_cons_zero, List.set_cons_succ])
          repeat (first | (refine Sched.walk2_no rfl (fun K hK => ?_); simp only [Act.put, List.setIfInBounds_toArray, List.set_cons_zero, List.set_cons_succ]; refine hK _ ?_; clear hK K) | (refine Sched.walk2_go rfl (fun K hK => ?_); go_simp; (try go_ints); (try (simp only [IntWalk.iteOmega]; go_simp)); first | (refine hK _ _ ?_; clear hK K) | fail))
          refine Sched.walk2_nil ?_
          clear q2 hne hj1 d1
          have qq := HQ1.out wq hwq
          have hbk := HBL.out.kept hwq
          have cX := hbk.cell HLX.out
          have fX := hbk.frozen X
          have HBK := Lib.hid hbk
          have HW := Lib.hid hwq
          have hlx : X < L.length := by rw [HLL.out]; exact hXt
          have HLXL := Lib.hid hlx
          clear hwq q1 hbk hlx
          go_wp2_with fail
          go_roundw
          case rel => exact ⟨j + 1 + 1, _, by omega, by go_num, HBK.out.set X (.bool true), by rw [List.length_set]; exact HLL.out, fun i hi => by
            by_cases hx : posN t b i = X
            · rw [hx, List.getElem?_set_self HLXL.out]
            · rw [List.getElem?_set_ne (fun e => hx e.symm)]
              refine HSE.out i ?_
              by_cases h : i < j + 1
              · exact h
              · obtain rfl : i = j + 1 := by omega
                exact absurd HXE.out hx, grown_set (HG.out.trans HW.out) (a := ⟨w1.heap.size, X, none⟩) (Nat.le_refl _) _⟩
          case measure => (simp [intOf] <;> omega)
      · obtain rfl : k = c := by omega
        have hall : ∀ i, i < t → wr.cell? ⟨w1.heap.size, i, none⟩ = some (.bool true) := fun i hi => by
          obtain ⟨j, hj, e⟩ := posN_all hbt i hi
          have := HSE.out j (by omega)
          rw [e] at this
          exact HBL.out.cell this
        have HALL := Lib.hid hall
        have HGW := Lib.hid (HG1.out.trans HG.out)
        clear hall
        go_wp2_with fail
        obtain ⟨wo, rfl⟩ : ∃ wo : World, wo = wr := ⟨_, rfl⟩
        go_loopw [14] (fun i wr => ∃ q : Nat, q ≤ t ∧ i = .int .i64 q ∧ Gr wo wr) (fun i _ => t - (intOf i).toNat)
        case atStart => exact ⟨0, by omega, rfl, Gr.refl _⟩
        case round =>
          obtain ⟨q, hq, rfl, hgw⟩ := hrel
          have HGO := Lib.hid hgw
          clear hgw
          by_cases hlq : q < t
          · have cq := HGO.out.cell (HALL.out q hlq)
            go_wp2_with fail
            go_roundw
            case rel => exact ⟨q + 1, by omega, by go_num, HGO.out⟩
            case measure => (simp [intOf] <;> omega)
          · obtain rfl : q = t := by omega
            go_wp2_with fail
            refine (awake28 _).mono ?_
            rintro e w9 ⟨rfl, hg9⟩
            have HG9 := Lib.hid hg9
            clear hg9
            go_wp2_with fail
            go_ret
            exact ⟨rfl, HGW.out.trans (HGO.out.trans HG9.out)⟩
  · go_enter Try.func10, Try.ntmps10
    go_wp2_with fail
    obtain ⟨b, hb⟩ : ∃ b : Nat, 2 * t / 4 = b := ⟨_, rfl⟩
    have hbt : b < t := by omega
    have hspell : 2 * (t : Int) / 4 = (b : Int) := by omega
    have HSP := Lib.hid hspell
    have HBE := Lib.hid hb
    clear hspell hb
    refine (positions_yes t 2 c w (by omega) (by omega) (by omega) (by omega) (by omega)).mono ?_
    rintro e w1 ⟨g, rfl, ho1, hg1⟩
    obtain ⟨_, -, hgB, -, -, -⟩ := ho1.some (by omega)
    have hcp : ∀ k, k < c → w1.cell? ⟨g, k, none⟩ = some (.int .i64 (posN t b k : Nat)) := fun k hk => by
      have := (ho1.at k hk).1
      rw [posL_at _ _ _ _ hk, HBE.out] at this
      exact this
    have HCP := Lib.hid hcp
    have HG1 := Lib.hid hg1
    have c0 := hcp 0 (by omega)
    have hp0 : posN t b 0 = b := by unfold posN; rw [Nat.add_zero]; exact Nat.mod_eq_of_lt hbt
    rw [hp0, ← HSP.out] at c0
    clear ho1 hg1 hcp hp0
    have hcc : ((c : Int) != (c : Int)) = false := by simp
    go_wp2_with fail
    clear c0 hcc ht hc hv
    obtain ⟨w2, hw2⟩ : ∃ y, y = w1.alloc (.cells (Array.replicate t (.bool false)) 4) := ⟨_, rfl⟩
    have hb2 : Blk w1.heap.size 4 (List.replicate t (.bool false)) w2 := by unfold Blk; rw [hw2, heap_alloc_new]; simp
    rw [← hw2]
    have HG2 := Lib.hid (show Gr w1 w2 by rw [hw2]; exact Gr.alloc _ _)
    have HB2 := Lib.hid hb2
    clear hw2 hb2 hmk
    go_loopw [13] (fun i wr => SeenRel w1 w1.heap.size t b c i wr) (fun i _ => c - (intOf i).toNat)
    case atStart => exact ⟨0, _, by omega, rfl, HB2.out, by simp, fun j hj => by omega, HG2.out⟩
    case round =>
      clear HB2 HG2
      obtain ⟨k, L, hk, rfl, hblk, hll, hse, hg⟩ := hrel
      have HBL := Lib.hid hblk
      have HLL := Lib.hid hll
      have HSE := Lib.hid hse
      have HG := Lib.hid hg
      clear hblk hll hse hg
      by_cases hlt : k < c
      · obtain ⟨X, hX⟩ : ∃ X, posN t b k = X := ⟨_, rfl⟩
        have hXt : X < t := by rw [← hX]; exact posN_lt (by omega)
        have q1 : ∀ u, Gr wr u → u.cell? ⟨g, k, none⟩ = some (.int .i64 (X : Int)) := fun u h => by rw [← hX]; exact (HG.out.trans h).cell (HCP.out k hlt)
        have hLX : L[X]? = some (L[X]?.getD undef) := by rw [List.getElem?_eq_getElem (by rw [HLL.out]; exact hXt)]; rfl
        obtain ⟨V, hV⟩ : ∃ V, L[X]?.getD undef = V := ⟨_, rfl⟩
        rw [hV] at hLX
        have HXE := Lib.hid hX
        have HLX := Lib.hid hLX
        have HQ1 := Lib.hid q1
        clear hX hV hLX
        have d1 : decide (t ≤ X) = false := by simp; omega
        by_cases hk0 : k = 0
        · subst hk0
          have hz0 : ((0 : Nat) : Int) = 0 := rfl
          rw [hz0]
          clear hz0
          go_wp2_with fail
          refine Sched.wp_region_sched 32 [] [] (by kernel_rfl) (by kernel_rfl) ?_
          simp only [List.take_succ_cons, List.take_zero, List.drop_succ_cons, List.drop_zero]
          repeat (first | ((with_reducible refine Sched.walk1_no ?_ ?_ (fun K hK => ?_)); (focus rfl); (focus rfl); simp only [Act.put, List.setIfInBounds_toArray, List.set_cons_zero, List.set_cons_succ]; refine hK _ ?_; clear hK K) | ((with_reducible refine Sched.walk1_gr ?_ ?_ ?_ (fun K hK => ?_)); (focus rfl); (focus rfl); (focus rfl); apply Exists.intro; refine ⟨fun w1 hw1 => ?_, ?_⟩; (focus (go_simp; (try go_ints); (try (simp only [IntWalk.iteOmega]; go_simp)); first | done | fail | (with_reducible rfl) | (with_reducible exact ⟨rfl, rfl⟩))); simp only [Act.put, List.setIfInBounds_toArray, List.set_cons_zero, List.set_cons_succ]; refine hK _ ?_; clear hK K) | ((with_reducible refine Sched.walk1_pure ?_ ?_ ?_ (fun K hK => ?_)); (focus rfl); (focus rfl); (focus rfl); apply Exists.intro; refine ⟨fun w1 => ?_, ?_⟩; (focus (go_simp; (try go_ints); (try (simp only [IntWalk.iteOmega]; go_simp)); first | done | (with_reducible rfl) | (with_reducible exact ⟨rfl, rfl⟩))); simp only [Act.put, List.setIfInBounds_toArray, List.set_cons_zero, List.set_cons_succ]; refine hK _ ?_; clear hK K) | (refine Sched.walk1_box rfl rfl ?_; apply Exists.intro; refine ⟨fun w1 hw1 => ?_, ?_⟩; (focus (go_simp; exact ⟨Gr.alloc _ _, rfl, by simp, heap_alloc_new _ _⟩))))
          (with_reducible refine Sched.walk1_nil ?_)
          intro wq hwq
          dsimp only [Sched.EndN, List.nil_append, List.cons_append, Act.put]
          (try simp only [List.setIfInBounds_toArray, List.set_cons_zero, List.set_cons_succ])
          repeat (first | (refine Sched.walk2_no rfl (fun K hK => ?_); simp only [Act.put, List.setIfInBounds_toArray, List.set_cons_zero, List.set_cons_succ]; refine hK _ ?_; clear hK K) | (refine Sched.walk2_go rfl (fun K hK => ?_); go_simp; (try go_ints); (try (simp only [IntWalk.iteOmega]; go_simp)); first | (refine hK _ _ ?_; clear hK K) | fail))
          refine Sched.walk2_nil ?_
          clear d1
          have qq := HQ1.out wq hwq
          have hbk := HBL.out.kept hwq
          have cX := hbk.cell HLX.out
          have fX := hbk.frozen X
          have HBK := Lib.hid hbk
          have HW := Lib.hid hwq
          have hlx : X < L.length := by rw [HLL.out]; exact hXt
          have HLXL := Lib.hid hlx
          clear hwq q1 hbk hlx
          go_wp2_with fail
          go_roundw
          case rel => exact ⟨0 + 1, _, by omega, by go_num, HBK.out.set X (.bool true), by rw [List.length_set]; exact HLL.out, fun i hi => by
            by_cases hx : posN t b i = X
            · rw [hx, List.getElem?_set_self HLXL.out]
            · rw [List.getElem?_set_ne (fun e => hx e.symm)]
              refine HSE.out i ?_
              by_cases h : i < 0
              · exact h
              · obtain rfl : i = 0 := by omega
                exact absurd HXE.out hx, grown_set (HG.out.trans HW.out) (a := ⟨w1.heap.size, X, none⟩) (Nat.le_refl _) _⟩
          case measure => (simp [intOf] <;> omega)
        · obtain ⟨j, rfl⟩ : ∃ j, k = j + 1 := ⟨k - 1, by omega⟩
          obtain ⟨Y, hY⟩ : ∃ Y, posN t b j = Y := ⟨_, rfl⟩
          have hXY : (Y + 1) % t = X := by rw [← hY, posN_next]; exact HXE.out
          have hne : ((X : Int) != ((Y : Int) + 1) % (t : Int)) = false := by
            rw [← hXY]; push_cast; simp
          have hYt : Y < t := by rw [← hY]; exact posN_lt (by omega)
          have q2 : ∀ u, Gr wr u → u.cell? ⟨g, j, none⟩ = some (.int .i64 (Y : Int)) := fun u h => by rw [← hY]; exact (HG.out.trans h).cell (HCP.out j (by omega))
          have hk1 : 1 ≤ j + 1 := by omega
          clear hY hXY hk0
          push_cast
          push_cast at q1
          have hj1 : (j : Int) + 1 - 1 = (j : Int) := by omega
          go_wp2_with fail
          refine Sched.wp_region_sched 32 [] [] (by kernel_rfl) (by kernel_rfl) ?_
          simp only [List.take_succ_cons, List.take_zero, List.drop_succ_cons, List.drop_zero]
          repeat (first | ((with_reducible refine Sched.walk1_no ?_ ?_ (fun K hK => ?_)); (focus rfl); (focus rfl); simp only [Act.put, List.setIfInBounds_toArray, List.set_cons_zero, List.set_cons_succ]; refine hK _ ?_; clear hK K) | ((with_reducible refine Sched.walk1_gr ?_ ?_ ?_ (fun K hK => ?_)); (focus rfl); (focus rfl); (focus rfl); apply Exists.intro; refine ⟨fun w1 hw1 => ?_, ?_⟩; (focus (go_simp; (try go_ints); (try (simp only [IntWalk.iteOmega]; go_simp)); first | done | fail | (with_reducible rfl) | (with_reducible exact ⟨rfl, rfl⟩))); simp only [Act.put, List.setIfInBounds_toArray, List.set_cons_zero, List.set_cons_succ]; refine hK _ ?_; clear hK K) | ((with_reducible refine Sched.walk1_pure ?_ ?_ ?_ (fun K hK => ?_)); (focus rfl); (focus rfl); (focus rfl); apply Exists.intro; refine ⟨fun w1 => ?_, ?_⟩; (focus (go_simp; (try go_ints); (try (simp only [IntWalk.iteOmega]; go_simp)); first | done | (with_reducible rfl) | (with_reducible exact ⟨rfl, rfl⟩))); simp only [Act.put, List.setIfInBounds_toArray, List.set_cons_zero, List.set_cons_succ]; refine hK _ ?_; clear hK K) | (refine Sched.walk1_box rfl rfl ?_; apply Exists.intro; refine ⟨fun w1 hw1 => ?_, ?_⟩; (focus (go_simp; exact ⟨Gr.alloc _ _, rfl, by simp, heap_alloc_new _ _⟩))))
          (with_reducible refine Sched.walk1_nil ?_)
          intro wq hwq
          dsimp only [Sched.EndN, List.nil_append, List.cons_append, Act.put]
          (try simp only [List.setIfInBounds_toArray, List.set_cons_zero, List.set_cons_succ])
          repeat (first | (refine Sched.walk2_no rfl (fun K hK => ?_); simp only [Act.put, List.setIfInBounds_toArray, List.set_cons_zero, List.set_cons_succ]; refine hK _ ?_; clear hK K) | (refine Sched.walk2_go rfl (fun K hK => ?_); go_simp; (try go_ints); (try (simp only [IntWalk.iteOmega]; go_simp)); first | (refine hK _ _ ?_; clear hK K) | fail))
          refine Sched.walk2_nil ?_
          clear q2 hne hj1 d1
          have qq := HQ1.out wq hwq
          have hbk := HBL.out.kept hwq
          have cX := hbk.cell HLX.out
          have fX := hbk.frozen X
          have HBK := Lib.hid hbk
          have HW := Lib.hid hwq
          have hlx : X < L.length := by rw [HLL.out]; exact hXt
          have HLXL := Lib.hid hlx
          clear hwq q1 hbk hlx
          go_wp2_with fail
          go_roundw
          case rel => exact ⟨j + 1 + 1, _, by omega, by go_num, HBK.out.set X (.bool true), by rw [List.length_set]; exact HLL.out, fun i hi => by
            by_cases hx : posN t b i = X
            · rw [hx, List.getElem?_set_self HLXL.out]
            · rw [List.getElem?_set_ne (fun e => hx e.symm)]
              refine HSE.out i ?_
              by_cases h : i < j + 1
              · exact h
              · obtain rfl : i = j + 1 := by omega
                exact absurd HXE.out hx, grown_set (HG.out.trans HW.out) (a := ⟨w1.heap.size, X, none⟩) (Nat.le_refl _) _⟩
          case measure => (simp [intOf] <;> omega)
      · obtain rfl : k = c := by omega
        have hall : ∀ i, i < t → wr.cell? ⟨w1.heap.size, i, none⟩ = some (.bool true) := fun i hi => by
          obtain ⟨j, hj, e⟩ := posN_all hbt i hi
          have := HSE.out j (by omega)
          rw [e] at this
          exact HBL.out.cell this
        have HALL := Lib.hid hall
        have HGW := Lib.hid (HG1.out.trans HG.out)
        clear hall
        go_wp2_with fail
        obtain ⟨wo, rfl⟩ : ∃ wo : World, wo = wr := ⟨_, rfl⟩
        go_loopw [14] (fun i wr => ∃ q : Nat, q ≤ t ∧ i = .int .i64 q ∧ Gr wo wr) (fun i _ => t - (intOf i).toNat)
        case atStart => exact ⟨0, by omega, rfl, Gr.refl _⟩
        case round =>
          obtain ⟨q, hq, rfl, hgw⟩ := hrel
          have HGO := Lib.hid hgw
          clear hgw
          by_cases hlq : q < t
          · have cq := HGO.out.cell (HALL.out q hlq)
            go_wp2_with fail
            go_roundw
            case rel => exact ⟨q + 1, by omega, by go_num, HGO.out⟩
            case measure => (simp [intOf] <;> omega)
          · obtain rfl : q = t := by omega
            go_wp2_with fail
            refine (awake28 _).mono ?_
            rintro e w9 ⟨rfl, hg9⟩
            have HG9 := Lib.hid hg9
            clear hg9
            go_wp2_with fail
            go_ret
            exact ⟨rfl, HGW.out.trans (HGO.out.trans HG9.out)⟩
  · go_enter Try.func10, Try.ntmps10
    go_wp2_with fail
    obtain ⟨b, hb⟩ : ∃ b : Nat, 3 * t / 4 = b := ⟨_, rfl⟩
    have hbt : b < t := by omega
    have hspell : 3 * (t : Int) / 4 = (b : Int) := by omega
    have HSP := Lib.hid hspell
    have HBE := Lib.hid hb
    clear hspell hb
    refine (positions_yes t 3 c w (by omega) (by omega) (by omega) (by omega) (by omega)).mono ?_
    rintro e w1 ⟨g, rfl, ho1, hg1⟩
    obtain ⟨_, -, hgB, -, -, -⟩ := ho1.some (by omega)
    have hcp : ∀ k, k < c → w1.cell? ⟨g, k, none⟩ = some (.int .i64 (posN t b k : Nat)) := fun k hk => by
      have := (ho1.at k hk).1
      rw [posL_at _ _ _ _ hk, HBE.out] at this
      exact this
    have HCP := Lib.hid hcp
    have HG1 := Lib.hid hg1
    have c0 := hcp 0 (by omega)
    have hp0 : posN t b 0 = b := by unfold posN; rw [Nat.add_zero]; exact Nat.mod_eq_of_lt hbt
    rw [hp0, ← HSP.out] at c0
    clear ho1 hg1 hcp hp0
    have hcc : ((c : Int) != (c : Int)) = false := by simp
    go_wp2_with fail
    clear c0 hcc ht hc hv
    obtain ⟨w2, hw2⟩ : ∃ y, y = w1.alloc (.cells (Array.replicate t (.bool false)) 4) := ⟨_, rfl⟩
    have hb2 : Blk w1.heap.size 4 (List.replicate t (.bool false)) w2 := by unfold Blk; rw [hw2, heap_alloc_new]; simp
    rw [← hw2]
    have HG2 := Lib.hid (show Gr w1 w2 by rw [hw2]; exact Gr.alloc _ _)
    have HB2 := Lib.hid hb2
    clear hw2 hb2 hmk
    go_loopw [13] (fun i wr => SeenRel w1 w1.heap.size t b c i wr) (fun i _ => c - (intOf i).toNat)
    case atStart => exact ⟨0, _, by omega, rfl, HB2.out, by simp, fun j hj => by omega, HG2.out⟩
    case round =>
      clear HB2 HG2
      obtain ⟨k, L, hk, rfl, hblk, hll, hse, hg⟩ := hrel
      have HBL := Lib.hid hblk
      have HLL := Lib.hid hll
      have HSE := Lib.hid hse
      have HG := Lib.hid hg
      clear hblk hll hse hg
      by_cases hlt : k < c
      · obtain ⟨X, hX⟩ : ∃ X, posN t b k = X := ⟨_, rfl⟩
        have hXt : X < t := by rw [← hX]; exact posN_lt (by omega)
        have q1 : ∀ u, Gr wr u → u.cell? ⟨g, k, none⟩ = some (.int .i64 (X : Int)) := fun u h => by rw [← hX]; exact (HG.out.trans h).cell (HCP.out k hlt)
        have hLX : L[X]? = some (L[X]?.getD undef) := by rw [List.getElem?_eq_getElem (by rw [HLL.out]; exact hXt)]; rfl
        obtain ⟨V, hV⟩ : ∃ V, L[X]?.getD undef = V := ⟨_, rfl⟩
        rw [hV] at hLX
        have HXE := Lib.hid hX
        have HLX := Lib.hid hLX
        have HQ1 := Lib.hid q1
        clear hX hV hLX
        have d1 : decide (t ≤ X) = false := by simp; omega
        by_cases hk0 : k = 0
        · subst hk0
          have hz0 : ((0 : Nat) : Int) = 0 := rfl
          rw [hz0]
          clear hz0
          go_wp2_with fail
          refine Sched.wp_region_sched 32 [] [] (by kernel_rfl) (by kernel_rfl) ?_
          simp only [List.take_succ_cons, List.take_zero, List.drop_succ_cons, List.drop_zero]
          repeat (first | ((with_reducible refine Sched.walk1_no ?_ ?_ (fun K hK => ?_)); (focus rfl); (focus rfl); simp only [Act.put, List.setIfInBounds_toArray, List.set_cons_zero, List.set_cons_succ]; refine hK _ ?_; clear hK K) | ((with_reducible refine Sched.walk1_gr ?_ ?_ ?_ (fun K hK => ?_)); (focus rfl); (focus rfl); (focus rfl); apply Exists.intro; refine ⟨fun w1 hw1 => ?_, ?_⟩; (focus (go_simp; (try go_ints); (try (simp only [IntWalk.iteOmega]; go_simp)); first | done | fail | (with_reducible rfl) | (with_reducible exact ⟨rfl, rfl⟩))); simp only [Act.put, List.setIfInBounds_toArray, List.set_cons_zero, List.set_cons_succ]; refine hK _ ?_; clear hK K) | ((with_reducible refine Sched.walk1_pure ?_ ?_ ?_ (fun K hK => ?_)); (focus rfl); (focus rfl); (focus rfl); apply Exists.intro; refine ⟨fun w1 => ?_, ?_⟩; (focus (go_simp; (try go_ints); (try (simp only [IntWalk.iteOmega]; go_simp)); first | done | (with_reducible rfl) | (with_reducible exact ⟨rfl, rfl⟩))); simp only [Act.put, List.setIfInBounds_toArray, List.set_cons_zero, List.set_cons_succ]; refine hK _ ?_; clear hK K) | (refine Sched.walk1_box rfl rfl ?_; apply Exists.intro; refine ⟨fun w1 hw1 => ?_, ?_⟩; (focus (go_simp; exact ⟨Gr.alloc _ _, rfl, by simp, heap_alloc_new _ _⟩))))
          (with_reducible refine Sched.walk1_nil ?_)
          intro wq hwq
          dsimp only [Sched.EndN, List.nil_append, List.cons_append, Act.put]
          (try simp only [List.setIfInBounds_toArray, List.set_cons_zero, List.set_cons_succ])
          repeat (first | (refine Sched.walk2_no rfl (fun K hK => ?_); simp only [Act.put, List.setIfInBounds_toArray, List.set_cons_zero, List.set_cons_succ]; refine hK _ ?_; clear hK K) | (refine Sched.walk2_go rfl (fun K hK => ?_); go_simp; (try go_ints); (try (simp only [IntWalk.iteOmega]; go_simp)); first | (refine hK _ _ ?_; clear hK K) | fail))
          refine Sched.walk2_nil ?_
          clear d1
          have qq := HQ1.out wq hwq
          have hbk := HBL.out.kept hwq
          have cX := hbk.cell HLX.out
          have fX := hbk.frozen X
          have HBK := Lib.hid hbk
          have HW := Lib.hid hwq
          have hlx : X < L.length := by rw [HLL.out]; exact hXt
          have HLXL := Lib.hid hlx
          clear hwq q1 hbk hlx
          go_wp2_with fail
          go_roundw
          case rel => exact ⟨0 + 1, _, by omega, by go_num, HBK.out.set X (.bool true), by rw [List.length_set]; exact HLL.out, fun i hi => by
            by_cases hx : posN t b i = X
            · rw [hx, List.getElem?_set_self HLXL.out]
            · rw [List.getElem?_set_ne (fun e => hx e.symm)]
              refine HSE.out i ?_
              by_cases h : i < 0
              · exact h
              · obtain rfl : i = 0 := by omega
                exact absurd HXE.out hx, grown_set (HG.out.trans HW.out) (a := ⟨w1.heap.size, X, none⟩) (Nat.le_refl _) _⟩
          case measure => (simp [intOf] <;> omega)
        · obtain ⟨j, rfl⟩ : ∃ j, k = j + 1 := ⟨k - 1, by omega⟩
          obtain ⟨Y, hY⟩ : ∃ Y, posN t b j = Y := ⟨_, rfl⟩
          have hXY : (Y + 1) % t = X := by rw [← hY, posN_next]; exact HXE.out
          have hne : ((X : Int) != ((Y : Int) + 1) % (t : Int)) = false := by
            rw [← hXY]; push_cast; simp
          have hYt : Y < t := by rw [← hY]; exact posN_lt (by omega)
          have q2 : ∀ u, Gr wr u → u.cell? ⟨g, j, none⟩ = some (.int .i64 (Y : Int)) := fun u h => by rw [← hY]; exact (HG.out.trans h).cell (HCP.out j (by omega))
          have hk1 : 1 ≤ j + 1 := by omega
          clear hY hXY hk0
          push_cast
          push_cast at q1
          have hj1 : (j : Int) + 1 - 1 = (j : Int) := by omega
          go_wp2_with fail
          refine Sched.wp_region_sched 32 [] [] (by kernel_rfl) (by kernel_rfl) ?_
          simp only [List.take_succ_cons, List.take_zero, List.drop_succ_cons, List.drop_zero]
          repeat (first | ((with_reducible refine Sched.walk1_no ?_ ?_ (fun K hK => ?_)); (focus rfl); (focus rfl); simp only [Act.put, List.setIfInBounds_toArray, List.set_cons_zero, List.set_cons_succ]; refine hK _ ?_; clear hK K) | ((with_reducible refine Sched.walk1_gr ?_ ?_ ?_ (fun K hK => ?_)); (focus rfl); (focus rfl); (focus rfl); apply Exists.intro; refine ⟨fun w1 hw1 => ?_, ?_⟩; (focus (go_simp; (try go_ints); (try (simp only [IntWalk.iteOmega]; go_simp)); first | done | fail | (with_reducible rfl) | (with_reducible exact ⟨rfl, rfl⟩))); simp only [Act.put, List.setIfInBounds_toArray, List.set_cons_zero, List.set_cons_succ]; refine hK _ ?_; clear hK K) | ((with_reducible refine Sched.walk1_pure ?_ ?_ ?_ (fun K hK => ?_)); (focus rfl); (focus rfl); (focus rfl); apply Exists.intro; refine ⟨fun w1 => ?_, ?_⟩; (focus (go_simp; (try go_ints); (try (simp only [IntWalk.iteOmega]; go_simp)); first | done | (with_reducible rfl) | (with_reducible exact ⟨rfl, rfl⟩))); simp only [Act.put, List.setIfInBounds_toArray, List.set_cons_zero, List.set_cons_succ]; refine hK _ ?_; clear hK K) | (refine Sched.walk1_box rfl rfl ?_; apply Exists.intro; refine ⟨fun w1 hw1 => ?_, ?_⟩; (focus (go_simp; exact ⟨Gr.alloc _ _, rfl, by simp, heap_alloc_new _ _⟩))))
          (with_reducible refine Sched.walk1_nil ?_)
          intro wq hwq
          dsimp only [Sched.EndN, List.nil_append, List.cons_append, Act.put]
          (try simp only [List.setIfInBounds_toArray, List.set_cons_zero, List.set_cons_succ])
          repeat (first | (refine Sched.walk2_no rfl (fun K hK => ?_); simp only [Act.put, List.setIfInBounds_toArray, List.set_cons_zero, List.set_cons_succ]; refine hK _ ?_; clear hK K) | (refine Sched.walk2_go rfl (fun K hK => ?_); go_simp; (try go_ints); (try (simp only [IntWalk.iteOmega]; go_simp)); first | (refine hK _ _ ?_; clear hK K) | fail))
          refine Sched.walk2_nil ?_
          clear q2 hne hj1 d1
          have qq := HQ1.out wq hwq
          have hbk := HBL.out.kept hwq
          have cX := hbk.cell HLX.out
          have fX := hbk.frozen X
          have HBK := Lib.hid hbk
          have HW := Lib.hid hwq
          have hlx : X < L.length := by rw [HLL.out]; exact hXt
          have HLXL := Lib.hid hlx
          clear hwq q1 hbk hlx
          go_wp2_with fail
          go_roundw
          case rel => exact ⟨j + 1 + 1, _, by omega, by go_num, HBK.out.set X (.bool true), by rw [List.length_set]; exact HLL.out, fun i hi => by
            by_cases hx : posN t b i = X
            · rw [hx, List.getElem?_set_self HLXL.out]
            · rw [List.getElem?_set_ne (fun e => hx e.symm)]
              refine HSE.out i ?_
              by_cases h : i < j + 1
              · exact h
              · obtain rfl : i = j + 1 := by omega
                exact absurd HXE.out hx, grown_set (HG.out.trans HW.out) (a := ⟨w1.heap.size, X, none⟩) (Nat.le_refl _) _⟩
          case measure => (simp [intOf] <;> omega)
      · obtain rfl : k = c := by omega
        have hall : ∀ i, i < t → wr.cell? ⟨w1.heap.size, i, none⟩ = some (.bool true) := fun i hi => by
          obtain ⟨j, hj, e⟩ := posN_all hbt i hi
          have := HSE.out j (by omega)
          rw [e] at this
          exact HBL.out.cell this
        have HALL := Lib.hid hall
        have HGW := Lib.hid (HG1.out.trans HG.out)
        clear hall
        go_wp2_with fail
        obtain ⟨wo, rfl⟩ : ∃ wo : World, wo = wr := ⟨_, rfl⟩
        go_loopw [14] (fun i wr => ∃ q : Nat, q ≤ t ∧ i = .int .i64 q ∧ Gr wo wr) (fun i _ => t - (intOf i).toNat)
        case atStart => exact ⟨0, by omega, rfl, Gr.refl _⟩
        case round =>
          obtain ⟨q, hq, rfl, hgw⟩ := hrel
          have HGO := Lib.hid hgw
          clear hgw
          by_cases hlq : q < t
          · have cq := HGO.out.cell (HALL.out q hlq)
            go_wp2_with fail
            go_roundw
            case rel => exact ⟨q + 1, by omega, by go_num, HGO.out⟩
            case measure => (simp [intOf] <;> omega)
          · obtain rfl : q = t := by omega
            go_wp2_with fail
            refine (awake28 _).mono ?_
            rintro e w9 ⟨rfl, hg9⟩
            have HG9 := Lib.hid hg9
            clear hg9
            go_wp2_with fail
            go_ret
            exact ⟨rfl, HGW.out.trans (HGO.out.trans HG9.out)⟩
theorem places_fit (n z y : Int) (w : World) (hn : 0 ≤ n ∧ n ≤ 65535) (hz : 0 ≤ z ∧ z ≤ 255) (hy : 0 ≤ y ∧ y ≤ 255) :
    Calls Try.prog 10 #[.int .u16 n, .int .u8 z, .int .u8 y] w fun e w' => e = .returned (.bool true) ∧ Below w.heap.size w w' :=
  (places_walk n z y w hn hz hy).mono fun _ _ ⟨he, hg⟩ => ⟨he, Below.of_none hg⟩
end Go.Proofs.Ytbdbllagbifkgaa
