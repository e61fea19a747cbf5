/- AuditImplies (layer 44). -/
import Derived.Test.YtgackcjhiplplaaAudI
import Derived.Test.YtgackcjhiplplaaRdBool
namespace Go.Proofs.Ytgackcjhiplplaa
open Go.ChangeShapes Go.WideShapes Go.ChangeAt Go.RowKit

def recOf (tick kind : Int) (g : Nat) (x : Int) : Rec := ⟨tick, kind, 0, 0, 0, 0, some ⟨g, 0, none⟩, 1, 1, [x]⟩
def ImpRel (w : World) (len : Nat) (ins : List Int) (s k i : Value) (wr : World) : Prop :=
  ∃ (a : Option Addr) (cap n q j : Nat) (L : List Rec), j ≤ len ∧ n = j + q ∧ s = .slice a n cap ∧ k = .int .i64 q ∧ i = .int .i64 j ∧ OwnL w.heap.size wr a n cap L ∧ LogI ins j q L ∧ Gr w wr ∧ (∀ r ∈ L, r.n = 1)
/-- One record is put behind, its data new. -/
theorem OwnL.push {w wr : World} {a : Option Addr} {n cap : Nat} {L : List Rec} (ho : OwnL w.heap.size wr a n cap L) (hg : Gr w wr) (tick kind x : Int) (hx : 0 ≤ x ∧ x ≤ 255) (hn : n ≤ 1000) (N : Nat) (hN : N = n + 1) :
    ∃ a' cap' w', (Builtin.append_ #[25, 25] 25 #[.slice a n cap, .slice (some ⟨wr.heap.size + 1, 0, none⟩) 1 1]).run Try.prog ((wr.alloc (.cells #[.int .u8 x] 5)).alloc (.cells #[.int .i64 tick, .int .i64 kind, .int .i64 0, .int .i64 0, .int .i64 0, .int .i64 0, .slice (some ⟨wr.heap.size, 0, none⟩) 1 1] 27)) = .ok (.slice a' N cap') w' ∧
      OwnL w.heap.size w' a' N cap' (L ++ [recOf tick kind wr.heap.size x]) ∧ Gr w w' := by
  have g1 : Gr wr (wr.alloc (.cells #[.int .u8 x] 5)) := Gr.alloc _ _
  have g2 : Gr (wr.alloc (.cells #[.int .u8 x] 5)) ((wr.alloc (.cells #[.int .u8 x] 5)).alloc (.cells #[.int .i64 tick, .int .i64 kind, .int .i64 0, .int .i64 0, .int .i64 0, .int .i64 0, .slice (some ⟨wr.heap.size, 0, none⟩) 1 1] 27)) := Gr.alloc _ _
  have hrd : Rd .u8 (wr.alloc (.cells #[.int .u8 x] 5)) (some ⟨wr.heap.size, 0, none⟩) 1 [x] := rd_blk1 (heap_alloc_new _ _) hx
  have ho2 := (ho.stay g1).stay g2
  obtain ⟨a', cap', w', h1, h2, h3⟩ := ho2.app [recOf tick kind wr.heap.size x] 1 rfl (by intro r hr; simp at hr; subst hr; exact hrd.kept g2) (by
    intro r hr b off _ he
    simp at hr; subst hr
    injection he with he
    injection he with he
    intro hown
    have := (ho.1.lt b hown).2
    omega) ⟨wr.heap.size + 1, 0, none⟩ (.inr ⟨wr.heap.size + 1, 0, rfl, by simp, fun i hi => by
      rw [cell_of_block (heap_alloc2_new _ _ _), Nat.zero_add]
      simp [recOf]⟩) (by omega) (Nat.le_trans hg.size (by simp; omega)) N hN (by omega)
  exact ⟨a', cap', w', h1, h2, OwnL.grown ((hg.trans g1).trans g2) ho2 (Nat.le_refl _) h3⟩
set_option maxRecDepth 100000 in
set_option maxHeartbeats 4000000 in
theorem imp_walk (a : Option Addr) (len cap : Nat) (ins : List Int) (b : Option Addr) (lb cb : Nat) (outs : List Bool) (n : Int) (w : World) (hr : Rd .u8 w a len ins) (ho : RdB w b lb outs) (hn : 0 ≤ n ∧ n ≤ 255) (hl : len ≤ 60) (hlb : lb ≤ 9223372036854775807) :
    Calls Try.prog 3 #[.slice a len cap, .slice b lb cb, .int .u8 n] w fun e w' => e = .returned (.bool true) ∧ Gr w w' := by
  have HR := Lib.hid hr
  have HO := Lib.hid ho
  have HIB := Lib.hid hr.bytes
  have HIL := Lib.hid hr.1
  obtain ⟨n1, n2⟩ := hn
  clear hr ho
  go_enter Try.func3, Try.ntmps3
  go_wp2_with fail
  go_loopw [7, 8, 9] (fun s k i wr => ImpRel w len ins s k i wr) (fun _ _ i _ => len - (intOf i).toNat)
  case atStart => exact ⟨none, 0, 0, 0, 0, [], by omega, rfl, rfl, rfl, rfl, OwnL.nil _ _, LogI.start _, Gr.refl _, by simp⟩
  case round =>
    obtain ⟨a', cap', nn, q, j, L, hj, hnn, rfl, rfl, rfl, hol, hli, hg, hr1⟩ := hrel
    have HOL := Lib.hid hol
    have HLI := Lib.hid hli
    have HG := Lib.hid hg
    have HR1 := Lib.hid hr1
    have HNN := Lib.hid hnn
    have hqj := hli.hk
    have hn120 : nn ≤ 120 := by omega
    clear hol hli hg hr1 hnn
    by_cases hlt : j < len
    · obtain ⟨b1, o1, e1, -, hc1⟩ := HR.out.some (by omega)
      subst e1
      obtain ⟨y, hy⟩ : ∃ y, ins[j]?.getD 0 = y := ⟨_, rfl⟩
      have cj := HG.out.cell (hc1 j hlt)
      rw [hy] at cj
      obtain ⟨y1, y2⟩ := hy ▸ getD_byte44 HIB.out j
      obtain ⟨x, hx⟩ : ∃ x, y % 3 = x := ⟨_, rfl⟩
      have hxr : 0 ≤ x ∧ x ≤ 255 := by omega
      obtain ⟨x1, x2⟩ := hxr
      obtain ⟨a2, c2, w2, hrun, ho2, hg2⟩ := HOL.out.push HG.out j 1 x ⟨x1, x2⟩ (by omega) (nn + 1) rfl
      have HRUN := Lib.hid hrun
      have HO2 := Lib.hid ho2
      have HG2 := Lib.hid hg2
      have HL2 := Lib.hid (HLI.out.entered (recOf j 1 wr.heap.size x) rfl rfl (by rw [hy, hx]; rfl))
      have HC1 := Lib.hid hc1
      clear hrun ho2 hg2 hc1 hy
      go_upto_region 9 with (at_builtin; refine wpList_app rfl _ _ _ rfl rfl rfl HRUN.out ?_)
      clear HRUN cj
      have hrn : ∀ r ∈ L ++ [recOf j 1 wr.heap.size x], r.n = 1 := by
        intro r hr
        rcases List.mem_append.1 hr with h | h
        · exact HR1.out r h
        · simp at h; subst h; rfl
      have HRN := Lib.hid hrn
      clear hrn hx
      by_cases hjb : j < lb
      · obtain ⟨B, hB⟩ : ∃ B, outs[j]?.getD false = B := ⟨_, rfl⟩
        obtain ⟨b2, o2, e2, -, hc2⟩ := HO.out.some (by omega)
        subst e2
        have cb2 := HG2.out.cell (hc2 j hjb)
        rw [hB] at cb2
        clear hc2 hB
        cases B
        · go_wp2_with fail
          go_roundw
          case rel => exact ⟨a2, c2, nn + 1, q, j + 1, _, by omega, by have := HNN.out; omega, rfl, rfl, by go_num, HO2.out, HL2.out, HG2.out, HRN.out⟩
          case measure => (simp [intOf] <;> omega)
        · obtain ⟨z, hz⟩ : ∃ z, ins[q]?.getD 0 = z := ⟨_, rfl⟩
          have cq := HG2.out.cell (HC1.out q (by omega))
          rw [hz] at cq
          obtain ⟨z1, z2⟩ := hz ▸ getD_byte44 HIB.out q
          obtain ⟨v, hv⟩ : ∃ v, z % 3 = v := ⟨_, rfl⟩
          have hvr : 0 ≤ v ∧ v ≤ 255 := by omega
          obtain ⟨v1, v2⟩ := hvr
          obtain ⟨a3, c3, w3, hrun3, ho3, hg3⟩ := HO2.out.push HG2.out j 2 v ⟨v1, v2⟩ (by omega) (nn + 1 + 1) rfl
          have HRUN3 := Lib.hid hrun3
          have HO3 := Lib.hid ho3
          have HG3 := Lib.hid hg3
          have HL3 := Lib.hid (HL2.out.out (recOf j 2 w2.heap.size v) rfl rfl (by omega) (by rw [hz, hv]; rfl))
          have hrn3 : ∀ r ∈ L ++ [recOf j 1 wr.heap.size x] ++ [recOf j 2 w2.heap.size v], r.n = 1 := by
            intro r hr
            rcases List.mem_append.1 hr with h | h
            · exact HRN.out r h
            · simp at h; subst h; rfl
          have HRN3 := Lib.hid hrn3
          clear hrun3 ho3 hg3 hz hrn3
          go_upto_region 11 with (at_builtin; refine wpList_app rfl _ _ _ rfl rfl rfl HRUN3.out ?_)
          clear HRUN3
          go_wp2_with fail
          go_roundw
          case rel => exact ⟨a3, c3, nn + 1 + 1, q + 1, j + 1, _, by omega, by have := HNN.out; omega, rfl, by go_num, by go_num, HO3.out, HL3.out, HG3.out, HRN3.out⟩
          case measure => (simp [intOf] <;> omega)
      · go_wp2_with fail
        go_roundw
        case rel => exact ⟨a2, c2, nn + 1, q, j + 1, _, by omega, by have := HNN.out; omega, rfl, rfl, by go_num, HO2.out, HL2.out, HG2.out, HRN.out⟩
        case measure => (simp [intOf] <;> omega)
    · obtain rfl : j = len := by omega
      have hcap := HOL.out.le_cap
      obtain ⟨m, hm⟩ : ∃ m : Nat, n % ((nn : Int) + 1) = m := ⟨(n % ((nn : Int) + 1)).toNat, by have := Int.emod_nonneg n (show (nn : Int) + 1 ≠ 0 by omega); omega⟩
      have hmn : m ≤ nn := by have := Int.emod_lt_of_pos n (show 0 < (nn : Int) + 1 by omega); omega
      have hmc : m ≤ cap' := by omega
      have HRL := Lib.hid (HOL.out.rd (by omega))
      have HRT := Lib.hid (HRL.out.take m hmn)
      have HSZ := Lib.hid (show ∀ r ∈ L, r.n ≤ 140737488351232 from fun r hr => by rw [HR1.out r hr]; omega)
      have HORD := Lib.hid HLI.out.ord
      have HORT := Lib.hid (ord_take HLI.out.ord m)
      have HAMO := Lib.hid (show decide (amo L (idxF (sel 2 0 0 0) 0 L) 0 (idxF (sel 1 0 0 0) 0 L) = (idxF (sel 2 0 0 0) 0 L).length) = true from decide_eq_true (ord_among HLI.out.ord))
      have HBEG := Lib.hid HLI.out.begins
      have HPL := Lib.hid HLI.out.hP
      have HQL := Lib.hid HLI.out.hQ
      clear HOL HR1 HNN
      go_upto_region 13 with (fail)
      go_wp2_with fail
      refine (entered_any _ nn cap' L 0 0 0 wr HRL.out HSZ.out).mono ?_
      rintro e w1 ⟨a1, n1', c1, rfl, hc1, hx1, hg1⟩
      have HX1 := Lib.hid hx1
      have HG1 := Lib.hid (HG.out.trans hg1)
      have HRL1 := Lib.hid (HRL.out.kept hg1)
      have HRT1 := Lib.hid (HRT.out.kept hg1)
      clear hx1 hg1 HRL HRT HG
      go_wp2_with fail
      refine (delivered_any _ nn cap' L 0 0 0 w1 HRL1.out HSZ.out).mono ?_
      rintro e w2 ⟨a2, n2', c2, rfl, hc2, hx2, hg2⟩
      have HX2 := Lib.hid (HX1.out.kept hg2)
      have HY2 := Lib.hid hx2
      have HG2 := Lib.hid (HG1.out.trans hg2)
      have HRL2 := Lib.hid (HRL1.out.kept hg2)
      have HRT2 := Lib.hid (HRT1.out.kept hg2)
      obtain rfl : n1' = j := by have := HX1.out.1; rw [List.length_map, HPL.out] at this; exact this.symm
      obtain rfl : n2' = q := by have := hx2.1; rw [List.length_map, HQL.out] at this; exact this.symm
      clear hx2 hg2 HRL1 HRT1 HG1 HX1
      go_wp2_with fail
      refine (inorder_is HORD.out w2 HRL2.out).mono ?_
      rintro e w3 ⟨rfl, hg3⟩
      have HX3 := Lib.hid (HX2.out.kept hg3)
      have HY3 := Lib.hid (HY2.out.kept hg3)
      have HG3 := Lib.hid (HG2.out.trans hg3)
      have HRL3 := Lib.hid (HRL2.out.kept hg3)
      have HRT3 := Lib.hid (HRT2.out.kept hg3)
      clear hg3 HX2 HY2 HG2 HRL2 HRT2
      go_wp2_with fail
      refine (among_is HAMO.out w3 HRL3.out).mono ?_
      rintro e w4 ⟨rfl, hg4⟩
      have HX4 := Lib.hid (HX3.out.kept hg4)
      have HY4 := Lib.hid (HY3.out.kept hg4)
      have HG4 := Lib.hid (HG3.out.trans hg4)
      have HRT4 := Lib.hid (HRT3.out.kept hg4)
      clear hg4 HX3 HY3 HG3 HRL3 HRT3
      go_wp2_with fail
      refine (inorder_is HORT.out w4 HRT4.out).mono ?_
      rintro e w5 ⟨rfl, hg5⟩
      have HX5 := Lib.hid (HX4.out.kept hg5)
      have HY5 := Lib.hid (HY4.out.kept hg5)
      have HG5 := Lib.hid (HG4.out.trans hg5)
      clear hg5 HX4 HY4 HG4 HRT4
      go_wp2_with fail
      refine (begins_yes a2 a1 _ _ c2 c1 _ _ w5 HY5.out HX5.out hc1 hqj HBEG.out).mono ?_
      rintro e w6 ⟨rfl, hg6⟩
      have HG6 := Lib.hid (HG5.out.trans hg6)
      clear hg6 HX5 HY5 HG5
      go_wp2_with fail
      refine (awake44 w6).mono ?_
      rintro e w7 ⟨rfl, hg7⟩
      have HG7 := Lib.hid (HG6.out.trans hg7)
      clear hg7
      go_wp2_with fail
      go_ret
      exact ⟨rfl, HG7.out⟩
theorem imp_far (a : Option Addr) (len cap : Nat) (b : Option Addr) (lb cb : Nat) (n : Int) (w : World) (hl : 60 < len) (hm : len ≤ 9223372036854775807) :
    Calls Try.prog 3 #[.slice a len cap, .slice b lb cb, .int .u8 n] w fun e w' => e = .returned (.bool true) ∧ Gr w w' := by
  go_enter Try.func3, Try.ntmps3
  go_wp2_with fail
  refine (awake44 w).mono ?_
  rintro e w1 ⟨rfl, hg1⟩
  have HG := Lib.hid hg1
  clear hg1
  go_wp2_with fail
  go_ret
  exact ⟨rfl, HG.out⟩
theorem imp_fit (a : Option Addr) (len cap : Nat) (ins : List Int) (b : Option Addr) (lb cb : Nat) (outs : List Bool) (n : Int) (w : World) (hr : Rd .u8 w a len ins) (_hc : len ≤ cap) (hL : len ≤ 140737488351232) (ho : RdB w b lb outs) (_hcb : lb ≤ cb) (hL2 : lb ≤ 140737488351232) (hn : 0 ≤ n ∧ n ≤ 255) :
    Calls Try.prog 3 #[.slice a len cap, .slice b lb cb, .int .u8 n] w fun e w' => e = .returned (.bool true) ∧ Below w.heap.size w w' := by
  by_cases hl : len ≤ 60
  · exact (imp_walk a len cap ins b lb cb outs n w hr ho hn hl (by omega)).mono fun _ _ ⟨h, hg⟩ => ⟨h, Below.of_none hg⟩
  · exact (imp_far a len cap b lb cb n w (by omega) (by omega)).mono fun _ _ ⟨h, hg⟩ => ⟨h, Below.of_none hg⟩
end Go.Proofs.Ytgackcjhiplplaa
