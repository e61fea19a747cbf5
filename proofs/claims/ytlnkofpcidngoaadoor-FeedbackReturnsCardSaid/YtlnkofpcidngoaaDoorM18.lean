/- Several texts in one. -/
import Derived.Test.YtlnkofpcidngoaaDoorM17
import Derived.Test.YtlnkofpcidngoaaDoorM8
import Derived.Test.YtlnkofpcidngoaaDoorM3
/- Layer 9 (compressor): Clone of the program. -/
namespace Go.Proofs.YtlnkofpcidngoaaDoor
open Go.ChangeShapes Go.WideShapes Go.ChangeAt Go.RowKit

def NHd (hs : List Hdr) (n : Nat) : Sched.NPred := fun lo _ v w => ∃ a c, v = .slice a n c ∧ OwnHd lo w a n c hs
theorem NHd.stable (hs : List Hdr) (n : Nat) : Sched.Stable (NHd hs n) := by
  rintro lo hi v w w' ⟨a, c, h1, h2⟩ hg
  exact ⟨a, c, h1, own_stayG h2 hg⟩
/-- Contexts of which the first k are copied. -/
def setA (s : Snd) (a : Option Addr) (c : Nat) : Snd := ⟨s.act, s.full, s.refr, s.ser, s.since, s.long, s.str, s.fol, a, s.n, c, s.refs⟩
theorem setA_plain (s : Snd) (a : Option Addr) (c : Nat) : plainS (setA s a c) = plainS s := rfl
def ClRel (B0 B : Nat) (L : List Snd) (g0 c0 : Nat) (k : Nat) (wr : World) : Prop := ∃ M : List Snd, M.length = k ∧ SameL (L.take k) M ∧ (∀ s ∈ M, s.refs.length = s.n) ∧
  wr.ownsRow B0 46 9 (.slice (some ⟨g0, 0, none⟩) L.length c0) L.length ((M ++ L.drop k).flatMap SCells) ∧ (∀ s ∈ M, OwnHd B wr s.a s.n s.c s.refs ∧ ∀ x ∈ s.refs, HOk x) ∧ M.Pairwise (fun s t => ∀ g, ownB s.a s.n s.c = some g → ownB t.a t.n t.c ≠ some g)
theorem drop_mid {M L : List Snd} {k : Nat} {s t : Snd} (hk : M.length = k) (hs : L[k]? = some s) : (M ++ L.drop k)[k]? = some s ∧ (M ++ L.drop k).set k t = (M ++ [t]) ++ L.drop (k + 1) := by
  have hl := lt_someG hs
  have e : L.drop k = s :: L.drop (k + 1) := by
    rw [List.drop_eq_getElem_cons hl]
    congr 1
    rw [List.getElem?_eq_getElem hl] at hs
    exact Option.some.inj hs
  rw [e]
  subst hk
  constructor
  · simp
  · simp
theorem ClRel.step {B0 B : Nat} {L : List Snd} {g0 c0 k : Nat} {wr wq : World} {s : Snd} {a' : Option Addr} {c' lo : Nat} (h : ClRel B0 B L g0 c0 k wr) (hg : Gr wr wq) (hB : B ≤ wr.heap.size) (hgB : g0 < B) (hs : L[k]? = some s) (hsl : s.refs.length = s.n) (hso : ∀ x ∈ s.refs, HOk x) (hown : OwnHd lo wq a' s.n c' s.refs) (hlo : wr.heap.size ≤ lo) :
    ClRel B0 B L g0 c0 (k + 1) (wq.setCell ⟨g0, k * 9 + 8, none⟩ (.slice a' s.n c')) := by
  obtain ⟨M, h1, h2, h3, h4, h5, h6⟩ := h
  obtain ⟨e1, e2⟩ := drop_mid (t := setA s a' c') h1 hs
  have hrow := own_set scells_len (own_stayG h4 hg) k 8 s (setA s a' c') [.slice a' s.n c'] e1 (by simp) rfl
  rw [e2] at hrow
  have hgs : wq.grownBy (wq.setCell ⟨g0, k * 9 + 8, none⟩ (.slice a' s.n c')) (some g0) := grown_setAt wq g0 (k * 9 + 8) _
  have key : ∀ (x : Option Addr) (m q : Nat) (hs : List Hdr), OwnHd B wq x m q hs → OwnHd B (wq.setCell ⟨g0, k * 9 + 8, none⟩ (.slice a' s.n c')) x m q hs := fun x m q hs ho => ho.kept hgs (by
    cases hv : (Value.slice x m q).ownBlock with
    | none => exact .inl rfl
    | some g => right; intro hr; injection hr with hr; have := (ho.lt g hv).1; omega)
  refine ⟨M ++ [setA s a' c'], by simp [h1], ?_, ?_, hrow, ?_, ?_⟩
  · unfold SameL at h2 ⊢
    rw [List.map_append, h2, List.take_add_one, hs]
    simp [setA_plain]
  · intro t ht
    rcases List.mem_append.1 ht with ht | ht
    · exact h3 t ht
    · simp only [List.mem_singleton] at ht; subst ht; exact hsl
  · intro t ht
    rcases List.mem_append.1 ht with ht | ht
    · exact ⟨key _ _ _ _ (own_stayG (h5 t ht).1 hg), (h5 t ht).2⟩
    · simp only [List.mem_singleton] at ht; subst ht
      exact ⟨key _ _ _ _ (own_weakG hown (by omega)), hso⟩
  · rw [List.pairwise_append]
    refine ⟨h6, List.pairwise_singleton _ _, fun t ht u hu g hg1 hg2 => ?_⟩
    simp only [List.mem_singleton] at hu; subst hu
    have l1 := ((h5 t ht).1.lt g hg1).2
    have l2 := (hown.lt g hg2).1
    omega
def ClonePostC (mode width : Int) (n : Nat) (L : List Snd) (w : World) (e : Ending) (w' : World) : Prop :=
  ∃ a' c' M, e = .returned (CVal mode width a' n c') ∧ SameL L M ∧ OwnC w.heap.size w' a' n c' M ∧ Gr w w'
set_option maxHeartbeats 2000000 in
set_option maxRecDepth 100000 in
theorem clone_c (mode width : Int) (a : Option Addr) (n c : Nat) (L : List Snd) (w : World) (hr : RdC w a n c L) (hn : 1 ≤ n) (hn2 : n ≤ 1000) (hm : ∀ s ∈ L, s.n ≤ 1000) : Calls Tryd.prog 46 #[CVal mode width a n c] w (ClonePostC mode width n L w) := by
  have HR := Lib.hid hr
  have HN := Lib.hid hr.1
  have HM := Lib.hid hm
  clear hr hm
  go_enter Tryd.func46, Tryd.ntmps46
  go_upto_region 1 with (fail)
  obtain ⟨w1, hw1⟩ : ∃ y, y = (w.alloc (.cells #[.int .i64 mode, .int .i64 width, .slice a n c] 24)).alloc (.cells #[.int .i64 0, .int .i64 0, .slice none 0 0] 24) := ⟨_, rfl⟩
  have hb1 : CBlk w.heap.size 24 [.int .i64 mode, .int .i64 width, .slice a n c] w1 := by rw [hw1]; exact (CBlk.new _ _ _).kept (Gr.alloc _ _)
  have hz1 : CBlk (w.heap.size + 1) 24 [.int .i64 0, .int .i64 0, .slice none 0 0] w1 := by rw [hw1]; exact heap_two _ _ _
  have hg1 : Gr w w1 := by rw [hw1]; exact (Gr.alloc _ _).trans (Gr.alloc _ _)
  first | rw [← hw1] | (go_show; fail)
  have HB1 := Lib.hid hb1
  have HZ1 := Lib.hid hz1
  have HG1 := Lib.hid hg1
  have x2 := hb1.at 2 rfl
  have hsz : w.heap.size + 1 < w1.heap.size := hz1.lt
  clear hw1 hb1 hz1 hg1
  go_wp2_with fail
  refine (cloneS_any a n c L w1 (HR.out.kept HG1.out) hn2).mono ?_
  rintro e w2 ⟨a2, c2, rfl, ho2, hg2⟩
  obtain ⟨g0, rfl⟩ : ∃ g0, a2 = some ⟨g0, 0, none⟩ := by
    rcases ho2.2 with ⟨hv, h0⟩ | ⟨g, cap', cur, hv, _⟩
    · omega
    · injection hv with e1; exact ⟨g, e1⟩
  obtain ⟨-, -, hgl, hgu⟩ := own_blockG ho2 rfl
  have HO2 := Lib.hid ho2
  have hb2 := HB1.out.kept hg2
  have hz2 := HZ1.out.kept hg2
  have y2 := hb2.at 2 rfl
  have yf2 := hb2.fz 2
  have HG2 := Lib.hid (HG1.out.trans hg2)
  have HB2 := Lib.hid hb2
  have HZ2 := Lib.hid hz2
  clear ho2 hb2 hz2 x2 hg2
  go_upto_region 2 with (fail)
  obtain ⟨w3, hw3⟩ : ∃ y, y = w2.setCell ⟨w.heap.size, 2, none⟩ (.slice (some ⟨g0, 0, none⟩) n c2) := ⟨_, rfl⟩
  rw [← hw3]
  have HB3 := Lib.hid (show CBlk w.heap.size 24 [.int .i64 mode, .int .i64 width, .slice (some ⟨g0, 0, none⟩) n c2] w3 by rw [hw3]; exact HB2.out.set 2 _ rfl)
  have HZ3 := Lib.hid (show CBlk (w.heap.size + 1) 24 [.int .i64 0, .int .i64 0, .slice none 0 0] w3 by rw [hw3]; exact HZ2.out.other 2 _ (by omega))
  have HO3 := Lib.hid (show w3.ownsRow w1.heap.size 46 9 (.slice (some ⟨g0, 0, none⟩) n c2) n (L.flatMap SCells) by rw [hw3]; exact ownsRow_setCell_other HO2.out (by simp only [Value.ownBlock]; intro h; injection h; omega) _)
  have HG3 := Lib.hid (show Gr w w3 by rw [hw3]; exact gr_setCell HG2.out (Nat.le_refl _) _ _)
  have hgu3 := (own_blockG HO3.out rfl).2.2.2
  have hlb := HB3.out.lt
  have hlz := HZ3.out.lt
  clear hw3 y2 yf2 HO2 HG2 HB2 HZ2 hgu
  have z2 := HB3.out.at 2 rfl
  go_wp2_with fail
  go_loopw [11] (fun i wr => ∃ k : Nat, k ≤ n ∧ i = .int .i64 k ∧ ClRel w1.heap.size w3.heap.size L g0 c2 k wr ∧ CBlk w.heap.size 24 [.int .i64 mode, .int .i64 width, .slice (some ⟨g0, 0, none⟩) n c2] wr ∧ CBlk (w.heap.size + 1) 24 [.int .i64 0, .int .i64 0, .slice none 0 0] wr ∧ w3.heap.size ≤ wr.heap.size ∧ Gr w wr) (fun i _ => n - (intOf i).toNat)
  case atStart => exact ⟨0, by omega, rfl, ⟨[], rfl, rfl, by simp, by rw [HN.out]; exact HO3.out, by simp, List.Pairwise.nil⟩, HB3.out, HZ3.out, Nat.le_refl _, HG3.out⟩
  case round =>
    obtain ⟨k, hk, rfl, hcl, hb, hz, hle, hg⟩ := hrel
    have HCL := Lib.hid hcl
    have HB := Lib.hid hb
    have HZ := Lib.hid hz
    have HG := Lib.hid hg
    clear hcl hb hz hg z2
    by_cases hlt : k < n
    · obtain ⟨s, hs, hrs⟩ := (HR.out.kept HG.out).get hlt
      have HS := Lib.hid hs
      have HRS := Lib.hid hrs
      obtain ⟨M, m1, m2, m3, hrow, m5, m6⟩ := HCL.out
      rw [HN.out] at hrow
      have hmid := (drop_mid (t := s) m1 hs).1
      have HROW := Lib.hid hrow
      have hcells : wr.rangeAt g0 (k * 9) (SCells s) := fun j v hv => by
        have h1 := flat_atG scells_len (M ++ L.drop k) k j s hmid (by have := lt_someG hv; exact this)
        have h2 := hrow.cells (g := g0) rfl (k * 9 + j) v (by rw [h1]; exact hv)
        rw [addr_add, Nat.zero_add] at h2
        exact h2
      have HC8 := Lib.hid (show ∀ u, Gr wr u → u.cell? ⟨g0, k * 9 + 8, none⟩ = some (.slice s.a s.n s.c) from fun u hu => hu.cell (hcells 8 _ rfl))
      have c8 := HC8.out
      have x2 : ∀ u, Gr wr u → u.cell? ⟨w.heap.size, 2, none⟩ = some (.slice (some ⟨g0, 0, none⟩) n c2) := fun u hu => (HB.out.kept hu).at 2 rfl
      clear hs hrs hrow hmid hcells m1 m2 m3 m5 m6
      go_upto_region 5 with (fail)
      refine Sched.wp_region_sched 10 [] [9] (by kernel_rfl) (by kernel_rfl) ?_
      simp only [List.take_succ_cons, List.take_zero, List.drop_succ_cons, List.drop_zero]
      repeat (first | (refine Sched.walk1_no rfl rfl (fun K hK => ?_); simp only [Act.put, List.setIfInBounds_toArray, List.set_cons_zero, List.set_cons_succ]; refine hK _ ?_; clear hK K) | (refine Sched.walk1_gr rfl rfl rfl (fun K hK => ?_); apply Exists.intro; refine ⟨fun w1 hw1 => ?_, ?_⟩; (focus (go_simp; (try go_ints); (try (simp only [IntWalk.iteOmega]; go_simp)); first | done | fail | (with_reducible rfl) | (with_reducible exact ⟨rfl, rfl⟩))); simp only [Act.put, List.setIfInBounds_toArray, List.set_cons_zero, List.set_cons_succ]; refine hK _ ?_; clear hK K) | (refine Sched.walk1_pure rfl rfl rfl (fun K hK => ?_); apply Exists.intro; refine ⟨fun w1 => ?_, ?_⟩; (focus (go_simp; (try go_ints); (try (simp only [IntWalk.iteOmega]; go_simp)); first | done | (with_reducible rfl) | (with_reducible exact ⟨rfl, rfl⟩))); simp only [Act.put, List.setIfInBounds_toArray, List.set_cons_zero, List.set_cons_succ]; refine hK _ ?_; clear hK K) | (refine Sched.walk1_box rfl rfl ?_; apply Exists.intro; refine ⟨fun w1 hw1 => ?_, ?_⟩; (focus (go_simp; exact ⟨Gr.alloc _ _, rfl, by simp, heap_alloc_new _ _⟩))))
      refine Sched.walk1_new (NHd s.refs s.n) rfl rfl (NHd.stable _ _) (fun u hu => ?_) ?_
      · go_simp
        go_at_call 74
        refine (cloneH_any s.a s.n s.c s.refs u (HRS.out.kept hu) (HM.out s (List.mem_of_getElem? HS.out))).mono ?_
        rintro e w8 ⟨a8, c8, rfl, ho8, hgr⟩
        exact ⟨_, rfl, hgr, a8, c8, rfl, ho8⟩
      (with_reducible refine Sched.walk1_nil ?_)
      intro wq hwq
      dsimp only [Sched.EndN, List.nil_append, List.cons_append, Act.put]
      rintro lo hi v5 ⟨a5, c5, rfl, ho5⟩ hlo - - -
      (try simp only [List.setIfInBounds_toArray, List.set_cons_zero, List.set_cons_succ])
      have HO5 := Lib.hid ho5
      have y8 := HC8.out wq hwq
      have yf8 := (own_stayG HROW.out hwq).frozenAt (k * 9 + 8)
      clear c8 x2 ho5
      repeat (first | (refine Sched.walk2_no rfl (fun K hK => ?_); simp only [Act.put, List.setIfInBounds_toArray, List.set_cons_zero, List.set_cons_succ]; refine hK _ ?_; clear hK K) | (refine Sched.walk2_go rfl (fun K hK => ?_); go_simp; (try go_ints); (try (simp only [IntWalk.iteOmega]; go_simp)); first | (refine hK _ _ ?_; clear hK K) | fail))
      refine Sched.walk2_nil ?_
      obtain ⟨w5, hw5⟩ : ∃ y, y = wq.setCell ⟨g0, k * 9 + 8, none⟩ (.slice a5 s.n c5) := ⟨_, rfl⟩
      rw [← hw5]
      have HCL5 := Lib.hid (show ClRel w1.heap.size w3.heap.size L g0 c2 (k + 1) w5 by rw [hw5]; exact HCL.out.step hwq hle hgu3 HS.out HRS.out.1 HRS.out.2.2.2.2.2 HO5.out hlo)
      have HB5 := Lib.hid (show CBlk w.heap.size 24 [.int .i64 mode, .int .i64 width, .slice (some ⟨g0, 0, none⟩) n c2] w5 by rw [hw5]; exact (HB.out.kept hwq).other _ _ (by omega))
      have HZ5 := Lib.hid (show CBlk (w.heap.size + 1) 24 [.int .i64 0, .int .i64 0, .slice none 0 0] w5 by rw [hw5]; exact (HZ.out.kept hwq).other _ _ (by omega))
      have HG5 := Lib.hid (show Gr w w5 by rw [hw5]; exact gr_setCell (HG.out.trans hwq) (by omega) _ _)
      have hle5 : w3.heap.size ≤ w5.heap.size := by rw [hw5]; exact Nat.le_trans (Nat.le_trans hle hwq.size) (grown_setAt wq g0 (k * 9 + 8) _).size
      clear hw5 y8 yf8 hwq
      go_wp2_with fail
      go_roundw
      case rel => exact ⟨k + 1, by omega, by go_num, HCL5.out, HB5.out, HZ5.out, hle5, HG5.out⟩
      case measure => (simp [intOf] <;> omega)
    · obtain rfl : k = n := by omega
      obtain ⟨M, m1, m2, m3, m4, m5, m6⟩ := HCL.out
      rw [← HN.out, List.drop_length, List.append_nil, HN.out] at m4
      rw [← HN.out, List.take_length] at m2
      have ho := own_blockG m4 rfl
      have hown : OwnC w1.heap.size wr (some ⟨g0, 0, none⟩) k c2 M := ⟨m4, fun t ht => ⟨own_weakG (m5 t ht).1 (by omega), (m5 t ht).2⟩, fun t ht g hg2 => by
        have := ((m5 t ht).1.lt g hg2).1
        intro h
        have h2 : some g0 = some g := h
        injection h2 with h2; omega, m6⟩
      have HOWN := Lib.hid hown
      have HM2 := Lib.hid m2
      clear m1 m2 m3 m4 m5 m6 ho hown HCL
      go_wp2_with (first | (refine cblk_load rfl 24 _ rfl w.heap.size rfl HB.out Tryd.underlying24 rfl (by kernel_rfl) ?_) | (refine cblk_store rfl 24 _ _ rfl (w.heap.size + 1) [.int .i64 mode, .int .i64 width, .slice (some ⟨g0, 0, none⟩) k c2] HZ.out rfl rfl rfl (by kernel_rfl) rfl ?_; intro w9 hb9 he9; have HB9 := Lib.hid hb9; have HGE := Lib.hid (show Gr w w9 by rw [← he9]; exact gr_setCells HG.out (by omega) _ _); have HO9 := Lib.hid (show OwnC w.heap.size w9 (some ⟨g0, 0, none⟩) k c2 M by rw [← he9]; exact (HOWN.out.but (grown_setCells (w.heap.size + 1) _ 0 wr) (fun g hg => by injection hg with hg; omega)).weak (by omega)); clear hb9 he9))
      refine bodyPost_ret (results_c0 Tryd.results46 _ _ (w.heap.size + 1) _ _ rfl HB9.out Tryd.underlying24 rfl (by kernel_rfl)) rfl ?_
      exact ⟨_, _, M, rfl, HM2.out, HO9.out, HGE.out⟩
end Go.Proofs.YtlnkofpcidngoaaDoor
/- Layer 9 (compressor): Copy of the reference. -/
namespace Go.Proofs.YtlnkofpcidngoaaDoor
open Go.ChangeShapes Go.WideShapes Go.ChangeAt Go.RowKit

def CpRel (B g : Nat) (mode width : Int) (L : List Snd) (k : Nat) (wr : World) : Prop := ∃ (a' : Option Addr) (c' : Nat) (M : List Snd), SameL (L.take k) M ∧ OwnC B wr a' k c' M ∧ CBlk g 24 [.int .i64 mode, .int .i64 width, .slice a' k c'] wr
set_option maxHeartbeats 2000000 in
set_option maxRecDepth 100000 in
theorem copy_c (mode width : Int) (a : Option Addr) (n c : Nat) (L : List Snd) (w : World) (hr : RdC w a n c L) (hn2 : n ≤ 1000) (hm : ∀ s ∈ L, s.n ≤ 1000) : Calls Tryd.prog 32 #[CVal mode width a n c] w (ClonePostC mode width n L w) := by
  have HR := Lib.hid hr
  have HN := Lib.hid hr.1
  have HM := Lib.hid hm
  clear hr hm
  go_enter Tryd.func32, Tryd.ntmps32
  go_upto_region 1 with (fail)
  obtain ⟨w1, hw1⟩ : ∃ y, y = (w.alloc (.cells #[.int .i64 mode, .int .i64 width, .slice a n c] 24)).alloc (.cells #[.int .i64 0, .int .i64 0, .slice none 0 0] 24) := ⟨_, rfl⟩
  have hb1 : CBlk w.heap.size 24 [.int .i64 mode, .int .i64 width, .slice a n c] w1 := by rw [hw1]; exact (CBlk.new _ _ _).kept (Gr.alloc _ _)
  have hz1 : CBlk (w.heap.size + 1) 24 [.int .i64 0, .int .i64 0, .slice none 0 0] w1 := by rw [hw1]; exact heap_two _ _ _
  have hg1 : Gr w w1 := by rw [hw1]; exact (Gr.alloc _ _).trans (Gr.alloc _ _)
  first | rw [← hw1] | (go_show; fail)
  have HB1 := Lib.hid hb1
  have HZ1 := Lib.hid hz1
  have HG1 := Lib.hid hg1
  have hlz1 := hz1.lt
  clear hw1 hb1 hz1 hg1
  go_upto_region 2 with (refine cblk_load rfl 24 _ rfl w.heap.size rfl HB1.out Tryd.underlying24 rfl (by kernel_rfl) ?_)
  obtain ⟨w2, hw2⟩ : ∃ y, y = w1.alloc (.cells #[.int .i64 mode, .int .i64 width, .slice a n c] 24) := ⟨_, rfl⟩
  have ho2 : CBlk w1.heap.size 24 [.int .i64 mode, .int .i64 width, .slice a n c] w2 := by rw [hw2]; exact CBlk.new _ _ _
  have hg2 : Gr w1 w2 := by rw [hw2]; exact Gr.alloc _ _
  first | rw [← hw2] | (go_show; fail)
  have HO2 := Lib.hid ho2
  have HB2 := Lib.hid (HB1.out.kept hg2)
  have HZ2 := Lib.hid (HZ1.out.kept hg2)
  have HG2 := Lib.hid (HG1.out.trans hg2)
  have y2 := ho2.at 2 rfl
  have yf := ho2.fz 2
  clear hw2 ho2 hg2 HB1 HZ1 HG1
  go_upto_region 3 with (fail)
  obtain ⟨w3, hw3⟩ : ∃ y, y = w2.setCell ⟨w1.heap.size, 2, none⟩ (.slice none 0 0) := ⟨_, rfl⟩
  rw [← hw3]
  have HO3 := Lib.hid (show CBlk w1.heap.size 24 [.int .i64 mode, .int .i64 width, .slice none 0 0] w3 by rw [hw3]; exact HO2.out.set 2 _ rfl)
  have HB3 := Lib.hid (show CBlk w.heap.size 24 [.int .i64 mode, .int .i64 width, .slice a n c] w3 by rw [hw3]; exact HB2.out.other 2 _ (by omega))
  have HZ3 := Lib.hid (show CBlk (w.heap.size + 1) 24 [.int .i64 0, .int .i64 0, .slice none 0 0] w3 by rw [hw3]; exact HZ2.out.other 2 _ (by omega))
  have HG3 := Lib.hid (show Gr w w3 by rw [hw3]; exact gr_setCell HG2.out (by omega) _ _)
  have hlo := HO3.out.lt
  clear hw3 y2 yf HO2 HB2 HZ2 HG2
  go_wp2_with fail
  go_loopw [4] (fun i wr => ∃ k : Nat, k ≤ n ∧ i = .int .i64 k ∧ CpRel w3.heap.size w1.heap.size mode width L k wr ∧ CBlk w.heap.size 24 [.int .i64 mode, .int .i64 width, .slice a n c] wr ∧ CBlk (w.heap.size + 1) 24 [.int .i64 0, .int .i64 0, .slice none 0 0] wr ∧ w3.heap.size ≤ wr.heap.size ∧ Gr w wr) (fun i _ => n - (intOf i).toNat)
  case atStart => exact ⟨0, by omega, rfl, ⟨none, 0, [], rfl, OwnC.nil _ _, HO3.out⟩, HB3.out, HZ3.out, Nat.le_refl _, HG3.out⟩
  case round =>
    obtain ⟨k, hk, rfl, hcp, hb, hz, hle, hg⟩ := hrel
    obtain ⟨a', c', M, hsm, hown, hout⟩ := hcp
    have HSM := Lib.hid hsm
    have HOWN := Lib.hid hown
    have HOUT := Lib.hid hout
    have HB := Lib.hid hb
    have HZ := Lib.hid hz
    have HG := Lib.hid hg
    have b2 := hb.at 2 rfl
    clear hsm hown hout hb hz hg
    by_cases hlt : k < n
    · obtain ⟨s, hs, hrs⟩ := (HR.out.kept HG.out).get hlt
      obtain ⟨b, off, ea, -, hrow⟩ := (HR.out.kept HG.out).row (by omega)
      subst ea
      have HS := Lib.hid hs
      have HRG := Lib.hid (hrow k s hs)
      have HRS := Lib.hid hrs
      clear hs hrs hrow
      go_upto_region 7 with (refine rng_load rfl 46 _ rfl b (off + k * 9) rfl (SCells s) HRG.out Tryd.underlying46 rfl (by kernel_rfl) ?_)
      obtain ⟨w5, hw5⟩ : ∃ y, y = wr.alloc (.cells (SCells s).toArray 46) := ⟨_, rfl⟩
      have hs5 : CBlk wr.heap.size 46 (SCells s) w5 := by rw [hw5]; exact CBlk.new _ _ _
      have hg5 : Gr wr w5 := by rw [hw5]; exact Gr.alloc _ _
      simp only [SCells] at hw5
      first | rw [← hw5] | (go_show; fail)
      have HS5 := Lib.hid hs5
      have HG5 := Lib.hid hg5
      have HRS5 := Lib.hid (HRS.out.kept hg5)
      have l5 := hs5.lt
      clear hw5 hs5 hg5 HRG b2
      obtain ⟨r1, r2, r3, r4, r5, r6⟩ := HRS5.out
      obtain ⟨a6, c6, w6, hrun6, ho6, hg6, -⟩ := app_hdr w5.heap.size w5 none 0 0 [] (OwnHd.nil _ _) s.a s.n s.c s.refs r1 r5 r4 (by have := HM.out s (List.mem_of_getElem? HS.out); omega) (Nat.le_refl _)
      rw [Nat.zero_add] at hrun6 ho6
      rw [List.nil_append] at ho6
      have HRUN6 := Lib.hid hrun6
      have hg56 : Gr w5 w6 := hg6
      have HO6 := Lib.hid ho6
      have hs6 := HS5.out.kept hg56
      have HS6 := Lib.hid hs6
      have HG6 := Lib.hid (HG5.out.trans hg56)
      have s8 := HS5.out.at 8 rfl
      have y8 := hs6.at 8 rfl
      have yf8 := hs6.fz 8
      have hle6 := hg56.size
      clear r1 r2 r3 r4 r5 r6 hrun6 ho6 hg6 hg56 hs6
      go_upto_region 8 with (at_builtin; refine wpList_app rfl _ _ _ rfl rfl rfl HRUN6.out ?_)
      obtain ⟨w7, hw7⟩ : ∃ y, y = w6.setCell ⟨wr.heap.size, 8, none⟩ (.slice a6 s.n c6) := ⟨_, rfl⟩
      rw [← hw7]
      have HS7 := Lib.hid (show CBlk wr.heap.size 46 (SCells (setA s a6 c6)) w7 by rw [hw7]; exact HS6.out.set 8 _ rfl)
      have hgs : w6.grownBy w7 (some wr.heap.size) := by rw [hw7]; exact grown_setAt w6 _ 8 _
      have HO7 := Lib.hid (show OwnHd w5.heap.size w7 a6 s.n c6 s.refs from HO6.out.kept hgs (by
        cases hv : (Value.slice a6 s.n c6).ownBlock with
        | none => exact .inl rfl
        | some g => right; intro e; injection e with e; have := (HO6.out.lt g hv).1; omega))
      have HG7 := Lib.hid (show Gr wr w7 by rw [hw7]; exact gr_setCell HG6.out (Nat.le_refl _) _ _)
      clear hw7 s8 y8 yf8 hgs
      have HOUT7 := Lib.hid (HOUT.out.kept HG7.out)
      have o2 := HOUT7.out.at 2 rfl
      have HOWN7 := Lib.hid (HOWN.out.stay HG7.out)
      have hle7 := HO7.out
      have hdis : ∀ g, ownB a6 s.n c6 = some g → w5.heap.size ≤ g ∧ g < w7.heap.size := fun g hg => HO7.out.lt g hg
      have holt : ∀ g, ownB a' k c' = some g → g < wr.heap.size := fun g hg => (HOWN.out.1.lt g hg).2
      have htlt : ∀ t ∈ M, ∀ g, ownB t.a t.n t.c = some g → g < wr.heap.size := fun t ht g hg => ((HOWN.out.2.1 t ht).1.lt g hg).2
      obtain ⟨a9, c9, w9, hrun9, ho9, hg9⟩ := (HOWN7.out.stay (Gr.alloc w7 (.cells (SCells (setA s a6 c6)).toArray 46))).app (setA s a6 c6) (own_stayG (own_weakG HO7.out (by omega)) (Gr.alloc _ _)) HRS.out.2.2.2.2.2 (fun g hg => by
          have h1 := hdis g hg
          intro h2; have := holt g h2; omega) (fun t ht g hg => by
          have h1 := htlt t ht g hg
          intro h2; have := hdis g h2; omega) w7.heap.size (CBlk.new _ _ _) (by omega) (by have := HG7.out.size; simp; omega) (k + 1) rfl
      have HRUN9 := Lib.hid hrun9
      have HO9 := Lib.hid ho9
      have hgb : ∀ g, ownB a' k c' = some g → w3.heap.size ≤ g := fun g hg => (HOWN.out.1.lt g hg).1
      have key : ∀ g t cs, g < w3.heap.size → CBlk g t cs w7 → CBlk g t cs w9 := fun g t cs hlt hb => (hb.kept (Gr.alloc _ _)).but hg9 (fun e => by have := hgb g e.symm; omega)
      have hout9 := key _ _ _ hlo HOUT7.out
      have HOUT9 := Lib.hid hout9
      have HB9 := Lib.hid (key _ _ _ (by omega) (HB.out.kept HG7.out))
      have HZ9 := Lib.hid (key _ _ _ (by omega) (HZ.out.kept HG7.out))
      have HG9 := Lib.hid (show Gr w w9 from grown_ownG ((HG.out.trans HG7.out).trans (Gr.alloc _ _)) (HOWN7.out.stay (Gr.alloc _ _)).1 (by have := HG3.out.size; omega) hg9)
      have hle9 : w3.heap.size ≤ w9.heap.size := by have h1 := HG7.out.size; have h2 := hg9.size; simp at h2; omega
      have p2 := hout9.at 2 rfl
      have pf := hout9.fz 2
      clear hrun9 ho9 hg9 hdis holt htlt hgb key hout9 hle7
      have HSM9 := Lib.hid (show SameL (L.take (k + 1)) (M ++ [setA s a6 c6]) by
        have h2 := HSM.out
        unfold SameL at h2 ⊢
        rw [List.map_append, h2, List.take_add_one, HS.out]
        simp [setA_plain])
      obtain ⟨s', hs'⟩ : ∃ x, setA s a6 c6 = x := ⟨_, rfl⟩
      rw [hs'] at HS7 HRUN9 HO9 HSM9
      clear hs'
      go_wp2_with (first | (at_builtin; refine wpList_app rfl _ _ _ rfl rfl rfl HRUN9.out ?_) | (refine cblk_load rfl 46 _ rfl wr.heap.size rfl HS7.out Tryd.underlying46 rfl (by kernel_rfl) ?_))
      refine ⟨⟨k + 1, by omega, by go_num, ⟨a9, c9, _, HSM9.out, HO9.out.but (grown_setAt w9 w1.heap.size 2 _) (fun g hg => by injection hg with hg; omega), HOUT9.out.set 2 _ rfl⟩, HB9.out.other 2 _ (by omega), HZ9.out.other 2 _ (by omega), Nat.le_trans hle9 (grown_setAt w9 w1.heap.size 2 _).size, gr_setCell HG9.out (by omega) 2 _⟩, by (simp [intOf] <;> omega)⟩
    · obtain rfl : k = n := by omega
      have hsm := HSM.out
      rw [← HN.out, List.take_length] at hsm
      have HSM2 := Lib.hid hsm
      clear hsm
      go_wp2_with (first | (refine cblk_load rfl 24 _ rfl w1.heap.size rfl HOUT.out Tryd.underlying24 rfl (by kernel_rfl) ?_) | (refine cblk_store rfl 24 _ _ rfl (w.heap.size + 1) [.int .i64 mode, .int .i64 width, .slice a' k c'] HZ.out rfl rfl rfl (by kernel_rfl) rfl ?_; intro w9 hb9 he9; have HB9 := Lib.hid hb9; have HGE := Lib.hid (show Gr w w9 by rw [← he9]; exact gr_setCells HG.out (by omega) _ _); have HO9 := Lib.hid (show OwnC w.heap.size w9 a' k c' M by rw [← he9]; exact (HOWN.out.but (grown_setCells (w.heap.size + 1) _ 0 wr) (fun g hg => by injection hg with hg; omega)).weak (by omega)); clear hb9 he9))
      refine bodyPost_ret (results_c0 Tryd.results32 _ _ (w.heap.size + 1) _ _ rfl HB9.out Tryd.underlying24 rfl (by kernel_rfl)) rfl ?_
      exact ⟨_, _, M, rfl, HSM2.out, HO9.out, HGE.out⟩
end Go.Proofs.YtlnkofpcidngoaaDoor
/- Layer 11 (feedback): acknowledge. -/
namespace Go.Proofs.YtlnkofpcidngoaaDoor
open Go.ChangeShapes Go.WideShapes Go.ChangeAt Go.RowKit

/-- An element of an owned row of contexts. -/
def Elt (B g n c : Nat) (M : List Snd) (i : Nat) (s : Snd) (w : World) : Prop := w.ownsRow B 46 9 (.slice (some ⟨g, 0, none⟩) n c) n (M.flatMap SCells) ∧ M[i]? = some s
section
variable {B g n c : Nat} {M : List Snd} {i : Nat} {s : Snd} {w w' : World}
theorem Elt.kept (h : Elt B g n c M i s w) (hg : Gr w w') : Elt B g n c M i s w' := ⟨own_stayG h.1 hg, h.2⟩
theorem Elt.cell (h : Elt B g n c M i s w) (j : Nat) {v : Value} (hv : (SCells s)[j]? = some v) : w.cell? ⟨g, i * 9 + j, none⟩ = some v := by
  have h1 := flat_atG scells_len M i j s h.2 (lt_someG hv)
  have h2 := h.1.cells (g := g) rfl (i * 9 + j) v (by rw [h1]; exact hv)
  rw [addr_add, Nat.zero_add] at h2
  exact h2
theorem Elt.rng (h : Elt B g n c M i s w) : w.rangeAt g (i * 9) (SCells s) := fun j _ hv => h.cell j hv
theorem Elt.fz (h : Elt B g n c M i s w) (j : Nat) : w.frozen? ⟨g, j, none⟩ = false := h.1.frozenAt j
theorem Elt.set (h : Elt B g n c M i s w) (j : Nat) (v : Value) (t : Snd) (hj : j < 9) (ht : (SCells s).set j v = SCells t) : Elt B g n c (M.set i t) i t (w.setCell ⟨g, i * 9 + j, none⟩ v) :=
  ⟨own_set scells_len h.1 i j s t [v] h.2 (by simp; omega) ht, by rw [List.getElem?_set_self (lt_someG h.2)]⟩
theorem Elt.lt (h : Elt B g n c M i s w) : B ≤ g ∧ g < w.heap.size := ⟨(own_blockG h.1 rfl).2.2.1, (own_blockG h.1 rfl).2.2.2⟩
theorem Elt.row (h : Elt B g n c M i s w) : w.ownsRow B 46 9 (.slice (some ⟨g, 0, none⟩) n c) n (M.flatMap SCells) := h.1
end
theorem rdh_but {w w' : World} {a : Option Addr} {n c : Nat} {hs : List Hdr} {r : Option Nat} (h : RdH w a n c hs) (hg : w.grownBy w' r) (hr : ∀ b off, a = some ⟨b, off, none⟩ → some b ≠ r) : RdH w' a n c hs :=
  ⟨h.1, h.2.1, h.2.2.1, h.2.2.2.1, seg_but h.2.2.2.2.1 hg (fun b off _ ha => hr b off ha), h.2.2.2.2.2⟩
theorem set_same {α : Type} {l : List α} {i : Nat} {x : α} (h : l[i]? = some x) : l.set i x = l := by
  apply List.ext_getElem?
  intro j
  rw [List.getElem?_set]
  split
  · rename_i e; subst e
    rw [if_pos (lt_someG h), h]
  · rfl
theorem gr_some {w w' : World} (h : Gr w w') (r : Option Nat) : w.grownBy w' r := ⟨h.os, h.tape, h.output, h.size, fun i hi _ => h.block i hi (by simp)⟩
theorem grown_setE {w w' : World} {g : Nat} (h : w.grownBy w' (some g)) (i : Nat) (v : Value) : w.grownBy (w'.setCell ⟨g, i, none⟩ v) (some g) := grown_trans' h (grown_setAt w' g i v)
/-! ### plain -/
def lastK (hs : List Hdr) (num : Int) : Nat → Option Nat
  | 0 => none
  | j + 1 => if numH ((hs[j]?).getD zeroH) = num then some j else lastK hs num j
def ackP (mode : Int) (s : Snd) (num : Int) : Snd :=
  match lastK s.refs num s.refs.length with
  | none => plainS s
  | some k => ⟨s.act, if s.ser ≤ k then 0 else s.full, if s.ser ≤ k then 0 else s.refr, if mode = 3 then (if 0 < s.ser - k then s.ser - k else 0) else s.ser, s.since, s.long, s.str, s.fol, none, 0, 0, if mode = 3 then s.refs.drop k else s.refs⟩
def NotIn (g : Nat) (a : Option Addr) : Prop := ∀ b off, a = some ⟨b, off, none⟩ → b ≠ g
def SubA (a t : Option Addr) : Prop := ∀ b off, t = some ⟨b, off, none⟩ → ∃ o, a = some ⟨b, o, none⟩
def AckPost (B g n c : Nat) (M : List Snd) (i : Nat) (s P : Snd) (w : World) (e : Ending) (w' : World) : Prop :=
  ∃ t, e = .returned (.tuple #[]) ∧ plainS t = P ∧ Elt B g n c (M.set i t) i t w' ∧ RdH w' t.a t.n t.c t.refs ∧ SubA s.a t.a ∧ w.grownBy w' (some g)
set_option maxHeartbeats 2000000 in
set_option maxRecDepth 100000 in
theorem ack_any (B g n c : Nat) (M : List Snd) (i : Nat) (s : Snd) (mode num : Int) (w : World) (h : Elt B g n c M i s w) (hr : RdH w s.a s.n s.c s.refs) (hne : NotIn g s.a) (hn : s.n ≤ 1000) (hser : 0 ≤ s.ser ∧ s.ser ≤ 1000) :
    Calls Tryd.prog 47 #[.pointer (some ⟨g, i * 9, none⟩), .int .i64 mode, .int .i64 num] w (AckPost B g n c M i s (ackP mode s num) w) := by
  obtain ⟨P, hP⟩ : ∃ P, ackP mode s num = P := ⟨_, rfl⟩
  rw [hP]
  have HP := Lib.hid hP
  have H := Lib.hid h
  have HR := Lib.hid hr
  have HN := Lib.hid hr.1
  have HNE := Lib.hid hne
  obtain ⟨s1, s2⟩ := hser
  clear hP h hr hne
  go_enter Tryd.func47, Tryd.ntmps47
  have c8 := H.out.cell 8 rfl
  go_wp2_with fail
  clear c8
  go_loopw [6] (fun k wr => ∃ j : Nat, j ≤ s.n ∧ k = .int .i64 ((j : Int) - 1) ∧ lastK s.refs num s.n = lastK s.refs num j ∧ Gr w wr) (fun k _ => (intOf k + 1).toNat)
  case atStart => exact ⟨s.n, by omega, by go_num, rfl, Gr.refl _⟩
  case round =>
    obtain ⟨j, hj, rfl, hlk, hg⟩ := hrel
    have HLK := Lib.hid hlk
    have HG := Lib.hid hg
    clear hlk hg
    have c8 := (H.out.kept HG.out).cell 8 rfl
    cases j with
    | zero =>
      have HPN := Lib.hid (show plainS s = P by rw [← HP.out, ackP, HN.out, HLK.out]; rfl)
      go_wp2_with fail
      go_end0
      exact ⟨s, rfl, HPN.out, by rw [set_same H.out.2]; exact H.out.kept HG.out, HR.out.kept HG.out, (fun b off h => ⟨off, h⟩), gr_some HG.out _⟩
    | succ j =>
      have hq : ((j + 1 : Nat) : Int) - 1 = (j : Int) := by omega
      rw [hq]
      obtain ⟨x, hx, -⟩ := HR.out.get (show j < s.n by omega)
      obtain ⟨b, off, ea, -, hrow⟩ := (HR.out.kept HG.out).row (by omega)
      have HRG := Lib.hid (hrow j x hx)
      have HX := Lib.hid hx
      have HEA := Lib.hid ea
      rw [ea] at c8
      obtain ⟨N, hN⟩ : ∃ N, numH x = N := ⟨_, rfl⟩
      have HNN := Lib.hid hN
      have HLS := Lib.hid (show lastK s.refs num (j + 1) = if N = num then some j else lastK s.refs num j by rw [lastK, hx, Option.getD_some, hN])
      clear hrow hx ea hN
      go_wp2_with (refine rng_load rfl 49 _ rfl b (off + j * 15) rfl (HCells x) HRG.out Tryd.underlying49 rfl (by kernel_rfl) ?_)
      refine (num_is HNN.out wr).mono ?_
      rintro e w2 ⟨rfl, hg2⟩
      have HG2 := Lib.hid (HG.out.trans hg2)
      clear hg2 c8
      by_cases hnum : N = num
      rotate_left
      · have hb : (N != num) = true := by simpa using hnum
        go_wp2_with fail
        go_roundw
        case rel => exact ⟨j, by omega, by go_num, by rw [HLK.out, HLS.out, if_neg hnum], HG2.out⟩
        case measure => (simp [intOf] <;> omega)
      · have hb : (N != num) = false := by simpa using hnum
        have HLJ := Lib.hid (show lastK s.refs num s.n = some j by rw [HLK.out, HLS.out, if_pos hnum])
        have H2 := Lib.hid (H.out.kept HG2.out)
        have c3 := H2.out.cell 3 rfl
        clear hnum
        have HR2 := Lib.hid (show RdH w2 (some ⟨b, off, none⟩) s.n s.c s.refs by rw [← HEA.out]; exact HR.out.kept HG2.out)
        have HBG := Lib.hid (HNE.out b off HEA.out)
        have hcap : s.n ≤ s.c := HR2.out.2.1
        go_upto_region 4 with (fail)
        by_cases hle : s.ser ≤ j
        · have HIFP := Lib.hid hle
          have c1 := H2.out.cell 1 rfl
          have c2 := H2.out.cell 2 rfl
          have f1 := H2.out.fz (i * 9 + 1)
          have f2 := H2.out.fz (i * 9 + 2)
          go_upto_region 6 with (fail)
          obtain ⟨w3, hw3⟩ : ∃ y, y = (w2.setCell ⟨g, i * 9 + 1, none⟩ (.int .i64 0)).setCell ⟨g, i * 9 + 2, none⟩ (.int .i64 0) := ⟨_, rfl⟩
          rw [← hw3]
          have HE3 := Lib.hid (show Elt B g n c (M.set i ⟨s.act, 0, 0, s.ser, s.since, s.long, s.str, s.fol, s.a, s.n, s.c, s.refs⟩) i ⟨s.act, 0, 0, s.ser, s.since, s.long, s.str, s.fol, s.a, s.n, s.c, s.refs⟩ w3 by
            rw [hw3]
            have h1 := H2.out.set 1 (.int .i64 0) ⟨s.act, 0, s.refr, s.ser, s.since, s.long, s.str, s.fol, s.a, s.n, s.c, s.refs⟩ (by omega) rfl
            have h2 := h1.set 2 (.int .i64 0) ⟨s.act, 0, 0, s.ser, s.since, s.long, s.str, s.fol, s.a, s.n, s.c, s.refs⟩ (by omega) rfl
            rw [List.set_set] at h2
            exact h2)
          have HG3 := Lib.hid (show w.grownBy w3 (some g) by rw [hw3]; exact grown_setE (grown_setE (gr_some HG2.out _) _ _) _ _)
          have hgg : w2.grownBy w3 (some g) := by rw [hw3]; exact grown_setE (grown_setAt w2 g _ _) _ _
          have HR3 := Lib.hid (show RdH w3 (some ⟨b, off, none⟩) s.n s.c s.refs from rdh_but HR2.out hgg (fun b' off' e => by injection e with e; injection e with e1 e2; subst e1; have := HBG.out; simpa using this))
          clear hw3 hgg c1 c2 f1 f2 c3
          by_cases hm3 : mode = 3
          rotate_left
          · have HPN := Lib.hid (show (⟨s.act, 0, 0, s.ser, s.since, s.long, s.str, s.fol, none, 0, 0, s.refs⟩ : Snd) = P by rw [← HP.out, ackP, HN.out, HLJ.out]; simp only; rw [if_pos HIFP.out, if_pos HIFP.out, if_neg hm3, if_neg hm3])
            have hmb : (mode == 3) = false := by simpa using hm3
            clear hm3
            go_wp2_with fail
            go_end0
            exact ⟨⟨s.act, 0, 0, s.ser, s.since, s.long, s.str, s.fol, s.a, s.n, s.c, s.refs⟩, rfl, HPN.out, HE3.out, by rw [HEA.out]; exact HR3.out, (fun b off h => ⟨off, h⟩), HG3.out⟩
          · have c8 := (HE3.out).cell 8 rfl
            have c3 := (HE3.out).cell 3 rfl
            have hmb : (mode == 3) = true := by simpa using hm3
            have f8 := (HE3.out).fz (i * 9 + 8)
            have f3 := (HE3.out).fz (i * 9 + 3)
            have c8' : (w3).cell? ⟨g, i * 9 + 8, none⟩ = some (.slice (some ⟨b, off, none⟩) s.n s.c) := by rw [← HEA.out]; exact c8
            clear c8
            go_upto_region 8 with (fail)
            obtain ⟨w4, hw4⟩ : ∃ y, y = (w3).setCell ⟨g, i * 9 + 8, none⟩ (.slice (some ⟨b, off + j * 15, none⟩) (s.n - j) (s.c - j)) := ⟨_, rfl⟩
            rw [← hw4]
            have HE4 := Lib.hid (show Elt B g n c (M.set i ⟨s.act, 0, 0, s.ser, s.since, s.long, s.str, s.fol, some ⟨b, off + j * 15, none⟩, s.n - j, s.c - j, s.refs.drop j⟩) i ⟨s.act, 0, 0, s.ser, s.since, s.long, s.str, s.fol, some ⟨b, off + j * 15, none⟩, s.n - j, s.c - j, s.refs.drop j⟩ w4 by
              rw [hw4]
              have h1 := (HE3.out).set 8 (.slice (some ⟨b, off + j * 15, none⟩) (s.n - j) (s.c - j)) ⟨s.act, 0, 0, s.ser, s.since, s.long, s.str, s.fol, some ⟨b, off + j * 15, none⟩, s.n - j, s.c - j, s.refs.drop j⟩ (by omega) rfl
              rw [List.set_set] at h1
              exact h1)
            have HG4 := Lib.hid (show w.grownBy w4 (some g) by rw [hw4]; exact grown_setE HG3.out _ _)
            have hgg : (w3).grownBy w4 (some g) := by rw [hw4]; exact grown_setAt w3 g _ _
            have HR4 := Lib.hid (show RdH w4 (some ⟨b, off + j * 15, none⟩) (s.n - j) (s.c - j) (s.refs.drop j) from rdh_but (HR3.out.drop j (by omega)) hgg (fun b' off' e => by injection e with e; injection e with e1 e2; subst e1; have := HBG.out; simpa using this))
            clear hw4 hgg c8' f8 c3 f3
            have d3 : w4.cell? ⟨g, i * 9 + 3, none⟩ = some (.int .i64 s.ser) := HE4.out.cell 3 rfl
            have f3 := HE4.out.fz (i * 9 + 3)
            have HPN := Lib.hid (show (⟨s.act, 0, 0, 0, s.since, s.long, s.str, s.fol, none, 0, 0, s.refs.drop j⟩ : Snd) = P by rw [← HP.out, ackP, HN.out, HLJ.out]; simp only; rw [if_pos HIFP.out, if_pos HIFP.out, if_pos hm3, if_pos hm3, if_neg (by have := HIFP.out; omega)])
            go_wp2_with fail
            go_end0
            refine ⟨⟨s.act, 0, 0, 0, s.since, s.long, s.str, s.fol, some ⟨b, off + j * 15, none⟩, s.n - j, s.c - j, s.refs.drop j⟩, rfl, HPN.out, ?_, ?_, ?_, grown_setE HG4.out _ _⟩
            · have h1 := HE4.out.set 3 (.int .i64 (0)) ⟨s.act, 0, 0, 0, s.since, s.long, s.str, s.fol, some ⟨b, off + j * 15, none⟩, s.n - j, s.c - j, s.refs.drop j⟩ (by omega) rfl
              rw [List.set_set] at h1
              exact h1
            · exact rdh_but HR4.out (grown_setAt w4 g _ _) (fun b' off' e => by injection e with e; injection e with e1 e2; subst e1; have := HBG.out; simpa using this)
            · intro b' off' e; injection e with e; injection e with e1 e2; subst e1; exact ⟨off, HEA.out⟩
        · have HIFN := Lib.hid (show ¬ s.ser ≤ (j : Int) from hle)
          go_upto_region 6 with (fail)
          clear c3
          have HE3 := Lib.hid (show Elt B g n c (M.set i s) i s w2 by rw [set_same H2.out.2]; exact H2.out)
          have HG3 := Lib.hid (gr_some HG2.out (some g))
          by_cases hm3 : mode = 3
          rotate_left
          · have HPN := Lib.hid (show (⟨s.act, s.full, s.refr, s.ser, s.since, s.long, s.str, s.fol, none, 0, 0, s.refs⟩ : Snd) = P by rw [← HP.out, ackP, HN.out, HLJ.out]; simp only; rw [if_neg HIFN.out, if_neg HIFN.out, if_neg hm3, if_neg hm3])
            have hmb : (mode == 3) = false := by simpa using hm3
            clear hm3
            go_wp2_with fail
            go_end0
            exact ⟨⟨s.act, s.full, s.refr, s.ser, s.since, s.long, s.str, s.fol, s.a, s.n, s.c, s.refs⟩, rfl, HPN.out, HE3.out, by rw [HEA.out]; exact HR2.out, (fun b off h => ⟨off, h⟩), HG3.out⟩
          · have c8 := (HE3.out).cell 8 rfl
            have c3 := (HE3.out).cell 3 rfl
            have hmb : (mode == 3) = true := by simpa using hm3
            have f8 := (HE3.out).fz (i * 9 + 8)
            have f3 := (HE3.out).fz (i * 9 + 3)
            have c8' : (w2).cell? ⟨g, i * 9 + 8, none⟩ = some (.slice (some ⟨b, off, none⟩) s.n s.c) := by rw [← HEA.out]; exact c8
            clear c8
            go_upto_region 8 with (fail)
            obtain ⟨w4, hw4⟩ : ∃ y, y = (w2).setCell ⟨g, i * 9 + 8, none⟩ (.slice (some ⟨b, off + j * 15, none⟩) (s.n - j) (s.c - j)) := ⟨_, rfl⟩
            rw [← hw4]
            have HE4 := Lib.hid (show Elt B g n c (M.set i ⟨s.act, s.full, s.refr, s.ser, s.since, s.long, s.str, s.fol, some ⟨b, off + j * 15, none⟩, s.n - j, s.c - j, s.refs.drop j⟩) i ⟨s.act, s.full, s.refr, s.ser, s.since, s.long, s.str, s.fol, some ⟨b, off + j * 15, none⟩, s.n - j, s.c - j, s.refs.drop j⟩ w4 by
              rw [hw4]
              have h1 := (HE3.out).set 8 (.slice (some ⟨b, off + j * 15, none⟩) (s.n - j) (s.c - j)) ⟨s.act, s.full, s.refr, s.ser, s.since, s.long, s.str, s.fol, some ⟨b, off + j * 15, none⟩, s.n - j, s.c - j, s.refs.drop j⟩ (by omega) rfl
              rw [List.set_set] at h1
              exact h1)
            have HG4 := Lib.hid (show w.grownBy w4 (some g) by rw [hw4]; exact grown_setE HG3.out _ _)
            have hgg : (w2).grownBy w4 (some g) := by rw [hw4]; exact grown_setAt w2 g _ _
            have HR4 := Lib.hid (show RdH w4 (some ⟨b, off + j * 15, none⟩) (s.n - j) (s.c - j) (s.refs.drop j) from rdh_but (HR2.out.drop j (by omega)) hgg (fun b' off' e => by injection e with e; injection e with e1 e2; subst e1; have := HBG.out; simpa using this))
            clear hw4 hgg c8' f8 c3 f3
            have d3 : w4.cell? ⟨g, i * 9 + 3, none⟩ = some (.int .i64 s.ser) := HE4.out.cell 3 rfl
            have f3 := HE4.out.fz (i * 9 + 3)
            have HPN := Lib.hid (show (⟨s.act, s.full, s.refr, s.ser - j, s.since, s.long, s.str, s.fol, none, 0, 0, s.refs.drop j⟩ : Snd) = P by rw [← HP.out, ackP, HN.out, HLJ.out]; simp only; rw [if_neg HIFN.out, if_neg HIFN.out, if_pos hm3, if_pos hm3, if_pos (by have := HIFN.out; omega)])
            go_wp2_with fail
            go_end0
            refine ⟨⟨s.act, s.full, s.refr, s.ser - j, s.since, s.long, s.str, s.fol, some ⟨b, off + j * 15, none⟩, s.n - j, s.c - j, s.refs.drop j⟩, rfl, HPN.out, ?_, ?_, ?_, grown_setE HG4.out _ _⟩
            · have h1 := HE4.out.set 3 (.int .i64 (s.ser - j)) ⟨s.act, s.full, s.refr, s.ser - j, s.since, s.long, s.str, s.fol, some ⟨b, off + j * 15, none⟩, s.n - j, s.c - j, s.refs.drop j⟩ (by omega) rfl
              rw [List.set_set] at h1
              exact h1
            · exact rdh_but HR4.out (grown_setAt w4 g _ _) (fun b' off' e => by injection e with e; injection e with e1 e2; subst e1; have := HBG.out; simpa using this)
            · intro b' off' e; injection e with e; injection e with e1 e2; subst e1; exact ⟨off, HEA.out⟩
end Go.Proofs.YtlnkofpcidngoaaDoor
/- Layer 11 (feedback): Apply of the program. -/
namespace Go.Proofs.YtlnkofpcidngoaaDoor
open Go.ChangeShapes Go.WideShapes Go.ChangeAt Go.RowKit

def sndAt (L : List Snd) (c : Int) : Snd := (L[c.toNat]?).getD zeroS
def fbP (mode width : Int) (s : Snd) (k num : Int) : Snd :=
  if k = 0 then ackP mode s num
  else if k = 2 then ⟨s.act, width, 0, s.refs.length, s.since, s.long, s.str, s.fol, none, 0, 0, s.refs⟩
  else if 0 < s.full then ⟨s.act, width, s.refr, s.refs.length, s.since, s.long, s.str, s.fol, none, 0, 0, s.refs⟩
  else ⟨s.act, s.full, width, s.refs.length, s.since, s.long, s.str, s.fol, none, 0, 0, s.refs⟩
def apE (mode width : Int) (L : List Snd) (c k n : Int) : Int :=
  if (validC mode width L && fbB c k n) = false then 1 else if mode = 1 then 16 else if (sndAt L c).act = false then 8 else 0
def apL (mode width : Int) (L : List Snd) (c k n : Int) : List Snd := (L.map plainS).set c.toNat (fbP mode width (sndAt L c) k n)
def ApPost (mode width E : Int) (PL : List Snd) (w : World) (e : Ending) (w' : World) : Prop :=
  Gr w w' ∧ ((E = 0 ∧ ∃ a' c' M, e = .returned (.tuple #[CVal mode width a' 16 c', .int .i64 0]) ∧ M.map plainS = PL ∧ RdC w' a' 16 c' M) ∨ (E ≠ 0 ∧ e = .returned (.tuple #[CVal 0 0 none 0 0, .int .i64 E])))
theorem OwnC.notin {B : Nat} {w : World} {g n c : Nat} {M : List Snd} (h : OwnC B w (some ⟨g, 0, none⟩) n c M) {t : Snd} (ht : t ∈ M) : NotIn g t.a := by
  intro b off e hb
  subst hb
  have h1 := (own_blockG (h.2.1 t ht).1 e).2.1
  exact h.2.2.1 t ht b h1 rfl
theorem OwnC.above {B : Nat} {w : World} {a : Option Addr} {n c : Nat} {M : List Snd} (h : OwnC B w a n c M) {t : Snd} (ht : t ∈ M) {r : Nat} (hr : r < B) : NotIn r t.a := by
  intro b off e
  have h1 := (own_blockG (h.2.1 t ht).1 e).2.2.1
  omega
theorem rdc_but {w w' : World} {a : Option Addr} {n c : Nat} {M : List Snd} {r : Nat} (h : RdC w a n c M) (hg : w.grownBy w' (some r)) (h1 : NotIn r a) (h2 : ∀ t ∈ M, NotIn r t.a) : RdC w' a n c M :=
  ⟨h.1, h.2.1, h.2.2.1, h.2.2.2.1, seg_but h.2.2.2.2.1 hg (fun b off _ e => by have := h1 b off e; simpa using this), fun t ht => rdh_but (h.2.2.2.2.2 t ht) hg (fun b off e => by have := h2 t ht b off e; simpa using this)⟩
theorem mem_set {α : Type} {l : List α} {i : Nat} {x y : α} (h : y ∈ l.set i x) : y ∈ l ∨ y = x := List.mem_or_eq_of_mem_set h
theorem rdc_set {B : Nat} {w w' : World} {g n c i : Nat} {M : List Snd} {t : Snd} (h : OwnC B w (some ⟨g, 0, none⟩) n c M) (hg : w.grownBy w' (some g)) (he : Elt B g n c (M.set i t) i t w') (ht : RdH w' t.a t.n t.c t.refs) : RdC w' (some ⟨g, 0, none⟩) n c (M.set i t) := by
  obtain ⟨h1, h2, h3⟩ := own_capG he.1
  have hlen : (M.set i t).length = n := by have := h.len; simp [this]
  refine ⟨hlen, h1, h2, h3, own_segG he.1, fun y hy => ?_⟩
  rcases mem_set hy with hm | rfl
  · exact rdh_but ((h.2.1 y hm).1.rd (h.2.1 y hm).2) hg (fun b off e => by have := h.notin hm b off e; simpa using this)
  · exact ht
theorem valid_small {mode width : Int} {L : List Snd} (h : validC mode width L = true) {i : Nat} {s : Snd} (hs : L[i]? = some s) : s.refs.length ≤ 32 ∧ 0 ≤ s.ser ∧ s.ser ≤ 32 := by
  obtain ⟨h1, h2, h3⟩ := valid_parts h
  have h4 := h3 i (lt_someG hs)
  rw [okAt_at hs, Bool.and_eq_true] at h4
  have h5 := h4.1
  obtain ⟨m1, m2, q1, q2⟩ := shaped_yes h1
  unfold ctxB at h5
  split at h5
  · simp only [actB, rngB, inB, Bool.and_eq_true, decide_eq_true_eq] at h5
    obtain ⟨⟨a1, a2, ⟨a3, a4⟩, _⟩, _⟩ := h5
    have : most mode width ≤ 32 := by unfold most; split <;> omega
    omega
  · simp only [emptyB, Bool.and_eq_true, decide_eq_true_eq] at h5
    omega
end Go.Proofs.YtlnkofpcidngoaaDoor
