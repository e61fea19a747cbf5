/- Several texts in one. -/
import Derived.Test.YtlnkofpcidngoaaDoorM2
import Derived.ProofKit
import Derived.LaidMore
import Derived.OpenShut
import Derived.Stop.Joined
import Derived.Maps.OwnSet
import Derived.Test.YtlnkofpcidngoaaDoorM14
import Derived.Test.YtlnkofpcidngoaaDoorM39
import Derived.Test.YtlnkofpcidngoaaDoorM1
/- Layer 03 (check): the listed map gives its look-ups to the walks. -/
namespace Go.Proofs.YtlnkofpcidngoaaDoor
open Go.ChangeShapes Go.WideShapes Go.ChangeAt Go.WideElems Go.Maps Go.RowKit
open Crc

theorem gPoly : Tryd.prog.globalNamed "radiolink/check.polynomials" = some 0 := by kernel_rfl
theorem tPoly : (Tryd.prog.globals[0]?).map (·.type) = some 120 := by kernel_rfl
theorem lawInt : Keyed Tryd.prog 3 := int_keyed Tryd.underlying3
theorem zeroInt (w : World) : (zeroValue 3).run Tryd.prog w = .ok (.int .i64 0) w := by kernel_rfl
def polyD {H : Type} : DataW H := .map [(.int .i64 3, .lit (.int .i64 3)), (.int .i64 7, .lit (.int .i64 9)), (.int .i64 8, .lit (.int .i64 7)), (.int .i64 16, .lit (.int .i64 4129)), (.int .i64 24, .lit (.int .i64 8801531))]
theorem poly_at {H : Type} (k : Int) : (polyD (H := H)).atKey (.int .i64 k) (.lit (.int .i64 0)) = .lit (.int .i64 (polyV k)) := by
  by_cases h : isKind k
  · rcases h with rfl | rfl | rfl | rfl | rfl <;> rfl
  · rw [polyV_no h]
    unfold isKind at h
    simp only [polyD, DataW.atKey, List.find?_cons, Lit.sameKey, List.find?_nil]
    rw [decide_eq_false (by omega), decide_eq_false (by omega), decide_eq_false (by omega), decide_eq_false (by omega), decide_eq_false (by omega)]
theorem poly_has {H : Type} (k : Int) : Maps.has (polyD (H := H)) (.int .i64 k) = decide (isKind k) := by
  by_cases h : isKind k
  · rw [decide_eq_true h]
    rcases h with rfl | rfl | rfl | rfl | rfl <;> rfl
  · rw [decide_eq_false h]
    unfold isKind at h
    simp only [polyD, Maps.has, List.any_cons, Lit.sameKey, List.any_nil]
    rw [decide_eq_false (by omega), decide_eq_false (by omega), decide_eq_false (by omega), decide_eq_false (by omega), decide_eq_false (by omega)]
    rfl
theorem laid_in {W : World} (h : laidMetH Tryd.prog [("radiolink/check.polynomials", Rows.laid_radiolink_check_polynomials)] W) : LaidIn W := by
  rw [MakeChecks.laidMetH_plain _ _ _ (by kernel_rfl)] at h
  obtain ⟨ps, ⟨g0, t0, cs0, f0, p0, q0, hg0, ht0, hv0, hd0, _, _⟩, _, _⟩ := h
  obtain rfl := Option.some.inj (gPoly.symm.trans hg0)
  obtain rfl := Option.some.inj (tPoly.symm.trans ht0)
  rcases open_map Tryd.underlying120 hd0 with ⟨_, hx⟩ | ⟨bm, es, clock, m, rfl, hcs, hb, _, F, hx⟩
  · simp [Rows.laid_radiolink_check_polynomials] at hx
  simp only [Prod.mk.injEq] at hx
  have hcell : W.cell? ⟨0, 0, none⟩ = some (.map (some bm)) := by
    have := World.var?_cell hg0 hv0 0
    rw [Array.eq_one_of_toList hcs] at this
    simpa using this
  have hown := World.ownsMap_of_fit (R := plainElem Tryd.prog 3) hb F (fun x _ z hz => elemAt_plainElem_int Tryd.underlying3 hz)
  rw [← hx.1] at hown
  refine ⟨bm, hcell, fun w' hg k hk => ?_⟩
  have hown' := hown.kept hg (by simp)
  obtain ⟨v, ps', hrun, hv⟩ := hown'.look_ok lawInt Tryd.underlying120 (zeroInt w') (plainElem_int Tryd.underlying3 (by decide)) (keyOf_int_mk Tryd.underlying3 (WalkArith.wf_i64 hk))
  rw [hrun]
  have e : (Rows.laid_radiolink_check_polynomials : DataW Unit) = polyD := rfl
  rw [e] at hv
  rw [poly_at] at hv
  rw [e, poly_has]
  obtain ⟨c, rfl, hc, _⟩ := plainElem_int_inv Tryd.underlying3 hv
  have hcc := congrArg Prod.fst hc
  simp only [DataW.lit.injEq, Lit.int.injEq, true_and] at hcc
  rw [hcc]
end Go.Proofs.YtlnkofpcidngoaaDoor
/- Layer 11 (feedback): feedback is decoded as it was encoded, and a changed byte is noticed. -/
namespace Go.Proofs.YtlnkofpcidngoaaDoor
open Go.ChangeShapes Go.WideShapes Go.ChangeAt Go.RowKit
open Crc

theorem mod11 {n m r : Int} (h : modF n m = r) (hm : m ≤ 9223372036854775807) (w : World) : Calls Tryd.prog 19 #[.int .i64 n, .int .i64 m] w fun e w' => e = .returned (.int .i64 r) ∧ w = w' := h ▸ mod_any n m w hm
theorem xor8_rng {x z : Int} (hx0 : 0 ≤ x) (hx1 : x ≤ 255) (hz0 : 1 ≤ z) (hz1 : z ≤ 255) : ∃ y, bits .xor .u8 x z = y ∧ 0 ≤ y ∧ y ≤ 255 ∧ x ≠ y := by
  have e : ∀ z : Int, 0 ≤ z → z ≤ 255 → (BitVec.ofInt 8 z).toNat = z.toNat := by
    intro z h0 h1
    rw [BitVec.toNat_ofInt]
    omega
  refine ⟨_, rfl, ?_⟩
  have h1 : bits .xor .u8 x z = ((x.toNat ^^^ z.toNat : Nat) : Int) := by
    show IntKind.u8.wrap (((BitVec.ofInt 8 x) ^^^ (BitVec.ofInt 8 z)).toNat : Int) = _
    rw [BitVec.toNat_xor, e x hx0 hx1, e z (by omega) hz1]
    have : x.toNat ^^^ z.toNat < 2 ^ 8 := Nat.xor_lt_two_pow (by omega) (by omega)
    show ((x.toNat ^^^ z.toNat : Nat) : Int) % 256 = _
    omega
  rw [h1]
  have hlt : x.toNat ^^^ z.toNat < 2 ^ 8 := Nat.xor_lt_two_pow (by omega) (by omega)
  refine ⟨by omega, by omega, fun he => ?_⟩
  have h2 : x.toNat = x.toNat ^^^ z.toNat := by omega
  have h3 : z.toNat = 0 := by
    have := congrArg (x.toNat ^^^ ·) h2
    simp only [Nat.xor_self] at this
    rw [← Nat.xor_assoc, Nat.xor_self, Nat.zero_xor] at this
    exact this.symm
  omega
theorem run_neqF (a b c : Int) (w : World) : (binOp .neq 26 (FVal a b c) (FVal a b c)).run Tryd.prog w = .ok (.bool false) w := by
  go_simp
theorem run_eqF0 (w : World) : (binOp .eql 26 (FVal 0 0 0) (FVal 0 0 0)).run Tryd.prog w = .ok (.bool true) w := by
  go_simp
set_option maxRecDepth 100000 in
set_option maxHeartbeats 4000000 in
theorem returns_walk (n0 n1 n2 at_ by_ : Int) (w : World) (hlaid : LaidIn w) : Calls Tryd.prog 6 #[.agg #[.int .i64 n0, .int .i64 n1, .int .i64 n2], .int .i64 at_, .int .i64 by_] w fun e w' => e = .returned (.bool true) ∧ Gr w w' := by
  have HLA := Lib.hid hlaid
  clear hlaid
  obtain ⟨c, hc⟩ : ∃ c, modF n0 16 = c := ⟨_, rfl⟩
  obtain ⟨k, hk⟩ : ∃ c, modF n1 3 = c := ⟨_, rfl⟩
  obtain ⟨n, hn⟩ : ∃ c, modF n2 65536 = c := ⟨_, rfl⟩
  have hfb : fbB c k n = true := by
    have h1 := modF_lo n0 16; have h2 := modF_hi n0 16 (by omega)
    have h3 := modF_lo n1 3; have h4 := modF_hi n1 3 (by omega)
    have h5 := modF_lo n2 65536; have h6 := modF_hi n2 65536 (by omega)
    rw [hc] at h1 h2; rw [hk] at h3 h4; rw [hn] at h5 h6
    simp [fbB]; omega
  have HC := Lib.hid hc
  have HK := Lib.hid hk
  have HN := Lib.hid hn
  have HFB := Lib.hid hfb
  clear hc hk hn hfb
  go_enter Tryd.func6, Tryd.ntmps6
  go_upto_region 1 with (fail)
  obtain ⟨w1, hw1⟩ : ∃ y, y = w.alloc (.cells #[.int .i64 n0, .int .i64 n1, .int .i64 n2] 65) := ⟨_, rfl⟩
  have hb1 : CBlk w.heap.size 65 [.int .i64 n0, .int .i64 n1, .int .i64 n2] w1 := by rw [hw1]; exact CBlk.new _ _ _
  have HG1 := Lib.hid (show Gr w w1 by rw [hw1]; exact Gr.alloc _ _)
  rw [← hw1]
  have y0 : ∀ u, Gr w1 u → u.cell? ⟨w.heap.size, 0, none⟩ = some (.int .i64 n0) := fun u hu => (hb1.kept hu).at 0 rfl
  have y1 : ∀ u, Gr w1 u → u.cell? ⟨w.heap.size, 1, none⟩ = some (.int .i64 n1) := fun u hu => (hb1.kept hu).at 1 rfl
  have y2 : ∀ u, Gr w1 u → u.cell? ⟨w.heap.size, 2, none⟩ = some (.int .i64 n2) := fun u hu => (hb1.kept hu).at 2 rfl
  clear hw1 hb1
  refine Sched.wp_region_sched 11 [] [10] (by kernel_rfl) (by kernel_rfl) ?_
  simp only [List.take_succ_cons, List.take_zero, List.drop_succ_cons, List.drop_zero]
  repeat (first | (refine Sched.walk1_no rfl rfl (fun K hK => ?_); simp only [Act.put, List.setIfInBounds_toArray, List.set_cons_zero, List.set_cons_succ]; refine hK _ ?_; clear hK K) | (refine Sched.walk1_gr rfl rfl rfl (fun K hK => ?_); apply Exists.intro; refine ⟨fun w1 hw1 => ?_, ?_⟩; (focus (go_simp; (try go_ints); (try (simp only [IntWalk.iteOmega]; go_simp)); first | done | ((go_at_call 19; (with_reducible exact gr_same (mod11 HC.out (by omega) _)))) | ((go_at_call 19; (with_reducible exact gr_same (mod11 HK.out (by omega) _)))) | ((go_at_call 19; (with_reducible exact gr_same (mod11 HN.out (by omega) _)))) | (with_reducible rfl) | (with_reducible exact ⟨rfl, rfl⟩))); simp only [Act.put, List.setIfInBounds_toArray, List.set_cons_zero, List.set_cons_succ]; refine hK _ ?_; clear hK K) | (refine Sched.walk1_pure rfl rfl rfl (fun K hK => ?_); apply Exists.intro; refine ⟨fun w1 => ?_, ?_⟩; (focus (go_simp; (try go_ints); (try (simp only [IntWalk.iteOmega]; go_simp)); first | done | (with_reducible rfl) | (with_reducible exact ⟨rfl, rfl⟩))); simp only [Act.put, List.setIfInBounds_toArray, List.set_cons_zero, List.set_cons_succ]; refine hK _ ?_; clear hK K) | (refine Sched.walk1_box rfl rfl ?_; apply Exists.intro; refine ⟨fun w1 hw1 => ?_, ?_⟩; (focus (go_simp; exact ⟨Gr.alloc _ _, rfl, by simp, heap_alloc_new _ _⟩))))
  refine Sched.walk1_nil ?_
  intro wq hwq
  dsimp only [Sched.EndN, List.nil_append, List.cons_append, Act.put]
  rintro g7 hi v ⟨rfl, hlt, hblk⟩ hlo - - -
  try simp only [List.setIfInBounds_toArray, List.set_cons_zero, List.set_cons_succ]
  have HBq := Lib.hid (show CBlk g7 26 [.int .i64 0, .int .i64 0, .int .i64 0] wq from hblk)
  have HGq := Lib.hid (HG1.out.trans hwq)
  have HL7 := Lib.hid (show w.heap.size ≤ g7 by have := HG1.out.size; omega)
  clear y0 y1 y2 hlt hblk hlo hwq
  refine Sched.walk2_go rfl (fun K hK => ?_)
  refine cblk_tstore 26 _ _ rfl g7 [.int .i64 c, .int .i64 k, .int .i64 n] HBq.out rfl rfl rfl (by kernel_rfl) rfl ?_
  intro w2 hb9 he9
  have HF2 := Lib.hid hb9
  have HG2 := Lib.hid (show Gr w w2 by rw [← he9]; exact gr_setCells HGq.out HL7.out _ _)
  clear hb9 he9
  refine hK _ _ ?_
  clear hK K
  dsimp only [Act.put]
  refine Sched.walk2_nil ?_
  clear HBq HGq
  go_wp2_with (refine cblk_load rfl 26 _ rfl g7 rfl HF2.out Tryd.underlying26 rfl (by kernel_rfl) ?_)
  obtain ⟨XS, hXS⟩ : ∃ XS, encL c k n ++ [sumV 8 (encL c k n)] = XS := ⟨_, rfl⟩
  have hen := encode_any c k n w2 (laid_gr HLA.out HG2.out)
  rw [show encF c k n = (XS, 0) by unfold encF; rw [HFB.out, if_pos rfl, hXS]] at hen
  have hdec : decF XS = (c, k, n, 0) := by rw [← hXS]; exact enc_dec HFB.out
  have hlenx : 4 ≤ XS.length ∧ XS.length ≤ 5 := by
    have h1 : (encL c k n).length = (if 0 < c then 4 else 3) := by unfold encL; split <;> simp
    rw [← hXS, List.length_append, h1]
    simp only [List.length_cons, List.length_nil]
    split <;> omega
  have HXS := Lib.hid hXS
  have HDE := Lib.hid hdec
  refine hen.mono ?_
  clear hen hXS hdec
  rintro e w3 ⟨ab, nb, cb, rfl, hob, hg3⟩
  have hnb : XS.length = nb := hob.len
  have hcb := owni_cap hob
  obtain ⟨gb, rfl, hgb, -⟩ := hob.some (by omega)
  have HOB := Lib.hid hob
  have HF3 := Lib.hid (HF2.out.kept hg3)
  have HG3 := Lib.hid (HG2.out.trans hg3)
  have hgb2 : g7 < gb := by have := HF2.out.lt; omega
  clear hob hg3 HF2 HG2
  go_wp2_with fail
  have hdc := decode_any (some ⟨gb, 0, none⟩) nb cb XS w3 (laid_gr HLA.out HG3.out) HOB.out.rd hcb (by omega)
  rw [HDE.out] at hdc
  refine hdc.mono ?_
  clear hdc
  rintro e w4 ⟨rfl, hg4⟩
  have HOB4 := Lib.hid (HOB.out.stay hg4)
  have HF4 := Lib.hid (HF3.out.kept hg4)
  have HG4 := Lib.hid (HG3.out.trans hg4)
  clear hg4 HOB HF3 HG3
  obtain ⟨wz, hwz⟩ : ∃ y, y = (w4).alloc (.cells #[.int .i64 0, .int .i64 0, .int .i64 0] 26) := ⟨_, rfl⟩
  have HZZ := Lib.hid (show CBlk (w4).heap.size 26 [.int .i64 0, .int .i64 0, .int .i64 0] wz by rw [hwz]; exact CBlk.new _ _ _)
  have HGZ := Lib.hid (show Gr (w4) wz by rw [hwz]; exact Gr.alloc _ _)
  go_upto_region 4 with (first | rw [← hwz]; refine cblk_store rfl 26 _ _ rfl (w4).heap.size [.int .i64 c, .int .i64 k, .int .i64 n] HZZ.out rfl rfl rfl (by kernel_rfl) rfl ?_; intro w5 hb9 he9; have HX5 := Lib.hid hb9; have HE5 := Lib.hid (show Gr (w4) w5 by rw [← he9]; exact gr_setCells HGZ.out (Nat.le_refl _) _ _); clear hb9 he9)
  obtain ⟨g10, hgg⟩ : ∃ g, (w4).heap.size = g := ⟨_, rfl⟩
  rw [hgg] at HX5
  rw [hgg]
  clear hwz HZZ HGZ hgg
  have HOB5 := Lib.hid (HOB4.out.stay HE5.out)
  have HF5 := Lib.hid (HF4.out.kept HE5.out)
  have HG5 := Lib.hid (HG4.out.trans HE5.out)
  clear HOB4 HF4 HG4 HE5
  go_wp2_with fail
  refine (awake11 w5 (laid_gr HLA.out HG5.out)).mono ?_
  rintro e w6 ⟨rfl, hg6⟩
  have HOB6 := Lib.hid (HOB5.out.stay hg6)
  have HF6 := Lib.hid (HF5.out.kept hg6)
  have HX6 := Lib.hid (HX5.out.kept hg6)
  have HG6 := Lib.hid (HG5.out.trans hg6)
  clear hg6 HOB5 HF5 HX5 HG5
  have hneF : ∀ u, (binOp .neq 26 (.agg #[.int .i64 c, .int .i64 k, .int .i64 n]) (.agg #[.int .i64 c, .int .i64 k, .int .i64 n])).run Tryd.prog u = .ok (.bool false) u := fun u => run_neqF c k n u
  go_upto_region 6 with (first | (refine cblk_load rfl 26 _ rfl g7 rfl HF6.out Tryd.underlying26 rfl (by kernel_rfl) ?_) | (refine cblk_load rfl 26 _ rfl g10 rfl HX6.out Tryd.underlying26 rfl (by kernel_rfl) ?_))
  clear hneF
  obtain ⟨q, hq⟩ : ∃ q : Nat, modF at_ nb = q := ⟨(modF at_ nb).toNat, by have := modF_lo at_ nb; omega⟩
  obtain ⟨m, hm⟩ : ∃ m, modF by_ 255 = m := ⟨_, rfl⟩
  have hqn : q < nb := by have := modF_hi at_ nb (by omega); omega
  have hm1 : 0 ≤ m := by have := modF_lo by_ 255; omega
  have hm2 : m < 255 := by have := modF_hi by_ 255 (by omega); omega
  have HQ := Lib.hid hq
  have HM := Lib.hid hm
  clear hq hm
  obtain ⟨x, hx⟩ : ∃ x, XS[q]?.getD 0 = x := ⟨_, rfl⟩
  have hxr : 0 ≤ x ∧ x ≤ 255 := by
    have := rd_bytes HOB6.out.rd x (by rw [← hx, List.getElem?_eq_getElem (by omega)]; exact List.getElem_mem _)
    exact this
  obtain ⟨y, hy, hy0, hy1, hxy⟩ := xor8_rng (z := 1 + m) hxr.1 hxr.2 (by omega) (by omega)
  have cq : ∀ u, Gr w6 u → u.cell? ⟨gb, q, none⟩ = some (.int .u8 x) := fun u hu => by
    have := hu.cell (HOB6.out.at q hqn).1
    rw [hx] at this; exact this
  have HXX := Lib.hid hx
  clear hx
  refine Sched.wp_region_sched 13 [] [] (by kernel_rfl) (by kernel_rfl) ?_
  simp only [List.take_succ_cons, List.take_zero, List.drop_succ_cons, List.drop_zero]
  repeat (first | (refine Sched.walk1_no rfl rfl (fun K hK => ?_); simp only [Act.put, List.setIfInBounds_toArray, List.set_cons_zero, List.set_cons_succ]; refine hK _ ?_; clear hK K) | (refine Sched.walk1_gr rfl rfl rfl (fun K hK => ?_); apply Exists.intro; refine ⟨fun w1 hw1 => ?_, ?_⟩; (focus (go_simp; (try go_ints); (try (simp only [IntWalk.iteOmega]; go_simp)); first | done | ((go_at_call 19; (with_reducible exact gr_same (mod11 HQ.out (by omega) _)))) | ((go_at_call 19; (with_reducible exact gr_same (mod11 HM.out (by omega) _)))) | (with_reducible rfl) | (with_reducible exact ⟨rfl, rfl⟩))); simp only [Act.put, List.setIfInBounds_toArray, List.set_cons_zero, List.set_cons_succ]; refine hK _ ?_; clear hK K) | (refine Sched.walk1_pure rfl rfl rfl (fun K hK => ?_); apply Exists.intro; refine ⟨fun w1 => ?_, ?_⟩; (focus (go_simp; (try go_ints); (try (simp only [IntWalk.iteOmega]; go_simp)); first | done | (with_reducible rfl) | (with_reducible exact ⟨rfl, rfl⟩))); simp only [Act.put, List.setIfInBounds_toArray, List.set_cons_zero, List.set_cons_succ]; refine hK _ ?_; clear hK K) | (refine Sched.walk1_box rfl rfl ?_; apply Exists.intro; refine ⟨fun w1 hw1 => ?_, ?_⟩; (focus (go_simp; exact ⟨Gr.alloc _ _, rfl, by simp, heap_alloc_new _ _⟩))))
  refine Sched.walk1_nil ?_
  intro wq hwq
  have HOBq := Lib.hid (HOB6.out.stay hwq)
  obtain ⟨d1, d2⟩ := HOBq.out.at q hqn
  dsimp only [Sched.EndN, List.nil_append, List.cons_append, Act.put]
  (try simp only [List.setIfInBounds_toArray, List.set_cons_zero, List.set_cons_succ])
  repeat (first | (refine Sched.walk2_no rfl (fun K hK => ?_); simp only [Act.put, List.setIfInBounds_toArray, List.set_cons_zero, List.set_cons_succ]; refine hK _ ?_; clear hK K) | (refine Sched.walk2_go rfl (fun K hK => ?_); go_simp; (try go_ints); (try (simp only [IntWalk.iteOmega]; go_simp)); first | (refine hK _ _ ?_; clear hK K) | fail))
  refine Sched.walk2_nil ?_
  obtain ⟨w7, hw7⟩ : ∃ w7, w7 = wq.setCell ⟨gb, q, none⟩ (.int .u8 y) := ⟨_, rfl⟩
  first | rw [← hw7] | (go_show; fail)
  have HOB7 := Lib.hid (show OwnI w2.heap.size 5 .u8 w7 (some ⟨gb, 0, none⟩) nb cb (XS.set q y) by rw [hw7]; exact HOBq.out.set q y (WalkArith.wf_u8 ⟨hy0, hy1⟩))
  have HG7 := Lib.hid (show Gr w w7 by rw [hw7]; exact gr_setCell (HG6.out.trans hwq) (by have := HL7.out; omega) _ _)
  clear hw7 d1 d2 cq hwq HOBq HOB6 HF6 HX6 HG6
  obtain ⟨E, hE, hdc⟩ := enc_chg HFB.out HXS.out (show q < XS.length by omega) hy0 hy1 (by rw [HXX.out]; exact hxy)
  have HE := Lib.hid hE
  have HD := Lib.hid hdc
  clear hE hdc hy hxy
  go_wp2_with fail
  have hdc := decode_any (some ⟨gb, 0, none⟩) nb cb (XS.set q y) w7 (laid_gr HLA.out HG7.out) HOB7.out.rd hcb (by omega)
  rw [HD.out] at hdc
  refine hdc.mono ?_
  clear hdc
  rintro e w8 ⟨rfl, hg8⟩
  have HG8 := Lib.hid (HG7.out.trans hg8)
  clear hg8
  obtain ⟨wz, hwz⟩ : ∃ y, y = (w8).alloc (.cells #[.int .i64 0, .int .i64 0, .int .i64 0] 26) := ⟨_, rfl⟩
  have HZZ := Lib.hid (show CBlk (w8).heap.size 26 [.int .i64 0, .int .i64 0, .int .i64 0] wz by rw [hwz]; exact CBlk.new _ _ _)
  have HGZ := Lib.hid (show Gr (w8) wz by rw [hwz]; exact Gr.alloc _ _)
  go_upto_region 8 with (first | rw [← hwz]; refine cblk_store rfl 26 _ _ rfl (w8).heap.size [.int .i64 0, .int .i64 0, .int .i64 0] HZZ.out rfl rfl rfl (by kernel_rfl) rfl ?_; intro w9 hb9 he9; have HX9 := Lib.hid hb9; have HE9 := Lib.hid (show Gr (w8) w9 by rw [← he9]; exact gr_setCells HGZ.out (Nat.le_refl _) _ _); clear hb9 he9)
  obtain ⟨g12, hgg⟩ : ∃ g, (w8).heap.size = g := ⟨_, rfl⟩
  rw [hgg] at HX9
  rw [hgg]
  clear hwz HZZ HGZ hgg
  have HG9 := Lib.hid (HG8.out.trans HE9.out)
  have heb : (E != 0) = true := by have := HE.out; simpa using this
  have hef : ∀ u, (binOp .eql 26 (.agg #[.int .i64 0, .int .i64 0, .int .i64 0]) (.agg #[.int .i64 0, .int .i64 0, .int .i64 0])).run Tryd.prog u = .ok (.bool true) u := fun u => run_eqF0 u
  go_wp2_with (refine cblk_load rfl 26 _ rfl g12 rfl HX9.out Tryd.underlying26 rfl (by kernel_rfl) ?_)
  go_ret
  exact ⟨rfl, HG9.out⟩
theorem returns_fit (n0 n1 n2 at_ by_ : Int) (w : World) (hl : LaidIn w) (_h0 : i64 n0) (_h1 : i64 n1) (_h2 : i64 n2) (_ha : i64 at_) (_hb : i64 by_) :
    Calls Tryd.prog 6 #[.agg #[.int .i64 n0, .int .i64 n1, .int .i64 n2], .int .i64 at_, .int .i64 by_] w fun e w' => e = .returned (.bool true) ∧ Below w.heap.size w w' :=
  (returns_walk n0 n1 n2 at_ by_ w hl).mono fun _ _ ⟨he, hg⟩ => ⟨he, Below.of_none hg⟩
end Go.Proofs.YtlnkofpcidngoaaDoor
