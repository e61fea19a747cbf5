/- Layer 44 (audit): SameAll, Begins; the sanity check. -/
import Derived.Test.YtgackcjhiplplaaAudF
namespace Go.Proofs.Ytgackcjhiplplaa
open Go.ChangeShapes Go.WideShapes Go.ChangeAt Go.RowKit

theorem RdSS.some {w : World} {a : Option Addr} {len : Nat} {X : List (List Int)} (h : RdSS w a len X) (hn : 0 < len) : ∃ b off, a = some ⟨b, off, none⟩ ∧ ∀ i, i < len → ∃ (s : Sl) (x : List Int), w.cell? ⟨b, off + i, none⟩ = some (slv s) ∧ X[i]? = some x ∧ Rd .u8 w s.a s.n x := by
  obtain ⟨h1, h2, ss, h3, h4⟩ := h
  have hl := h4.len
  rcases h3 with h0 | ⟨b, off, e, _, hc⟩
  · exfalso
    have : ss.length = 0 := by have := congrArg List.length h0; simpa using this
    omega
  · refine ⟨b, off, e, fun i hi => ?_⟩
    have hil : i < ss.length := by omega
    obtain ⟨x, hx, hr⟩ := h4.get (i := i) (s := ss[i]) (by simp [hil])
    exact ⟨ss[i], x, by rw [hc i (by simpa using hil)]; simp [hil], hx, hr⟩
theorem RdSS.take {w : World} {a : Option Addr} {len : Nat} {X : List (List Int)} (h : RdSS w a len X) (m : Nat) (hm : m ≤ len) : RdSS w a m (X.take m) := by
  obtain ⟨h1, h2, ss, h3, h4⟩ := h
  refine ⟨by simp; omega, by omega, ss.take m, ?_, ?_⟩
  · rcases h3 with h0 | ⟨b, off, e, hb, hc⟩
    · left
      have : ss = [] := by simpa using h0
      simp [this]
    · right
      refine ⟨b, off, e, hb, fun i hi => ?_⟩
      have hi2 : i < m ∧ i < ss.length := by simp at hi; omega
      rw [hc i (by simpa using hi2.2)]
      simp [List.getElem?_take_of_lt hi2.1]
  · have go : ∀ (m : Nat) (l : List Sl) (r : List (List Int)), All2 w l r → All2 w (l.take m) (r.take m) := by
      intro m
      induction m with
      | zero => intro l r _; simp [All2]
      | succ m ih =>
        intro l r h
        match l, r, h with
        | [], [], _ => simp [All2]
        | _ :: _, _ :: _, h => exact ⟨h.1, ih _ _ h.2⟩
    exact go m ss X h4
set_option maxHeartbeats 1000000 in
theorem sameall_yes (a b : Option Addr) (n c c' : Nat) (X : List (List Int)) (w : World) (ha : RdSS w a n X) (hb : RdSS w b n X) :
    Calls Try.prog 18 #[.slice a n c, .slice b n c'] w fun e w' => e = .returned (.bool true) ∧ Gr w w' := by
  have HA := Lib.hid ha
  have HB := Lib.hid hb
  have hm := ha.2.1
  clear ha hb
  go_enter Try.func18, Try.ntmps18
  go_wp2_with fail
  go_loopw [5] (fun i wr => ∃ k : Nat, k ≤ n ∧ i = .int .i64 k ∧ Gr w wr) (fun i _ => n - (intOf i).toNat)
  case atStart => exact ⟨0, by omega, rfl, Gr.refl _⟩
  case round =>
    obtain ⟨k, hk, rfl, hg⟩ := hrel
    have HG := Lib.hid hg
    clear hg
    by_cases hlt : k < n
    · obtain ⟨b1, o1, e1, h1⟩ := HA.out.some (by omega)
      obtain ⟨b2, o2, e2, h2⟩ := HB.out.some (by omega)
      subst e1 e2
      obtain ⟨s1, x1, c1, y1, r1⟩ := h1 k hlt
      obtain ⟨s2, x2, c2, y2, r2⟩ := h2 k hlt
      obtain rfl : x1 = x2 := by rw [y1] at y2; exact Option.some.inj y2
      have l1 : ∀ u, Gr wr u → u.cell? ⟨b1, o1 + k, none⟩ = some (.slice s1.a s1.n s1.c) := fun u hu => (HG.out.trans hu).cell c1
      have l2 : ∀ u, Gr wr u → u.cell? ⟨b2, o2 + k, none⟩ = some (.slice s2.a s2.n s2.c) := fun u hu => (HG.out.trans hu).cell c2
      have k1 := fun u (hu : Gr wr u) => conv_rd (P := Try.prog) (r1.kept (HG.out.trans hu)) s1.c 22 5 9 Try.underlying22 Try.underlying5 Try.underlying9
      have k2 := fun u (hu : Gr wr u) => conv_rd (P := Try.prog) (r2.kept (HG.out.trans hu)) s2.c 22 5 9 Try.underlying22 Try.underlying5 Try.underlying9
      clear h1 h2 c1 c2 y1 y2 r1 r2
      go_upto_region 6 with (fail)
      refine Sched.wp_region_sched 11 [] [] (by kernel_rfl) (by kernel_rfl) ?_
      simp only [List.take_succ_cons, List.take_zero, List.drop_succ_cons, List.drop_zero]
      repeat (first | (refine Sched.walk1_no rfl rfl (fun K hK => ?_); simp only [Act.put, List.setIfInBounds_toArray, List.set_cons_zero, List.set_cons_succ]; refine hK _ ?_; clear hK K) | (refine Sched.walk1_gr rfl rfl rfl (fun K hK => ?_); apply Exists.intro; refine ⟨fun w1 hw1 => ?_, ?_⟩; (focus (go_simp; (try go_ints); (try (simp only [IntWalk.iteOmega]; go_simp)); first | done | fail | (with_reducible rfl) | (with_reducible exact ⟨rfl, rfl⟩))); simp only [Act.put, List.setIfInBounds_toArray, List.set_cons_zero, List.set_cons_succ]; refine hK _ ?_; clear hK K) | (refine Sched.walk1_pure rfl rfl rfl (fun K hK => ?_); apply Exists.intro; refine ⟨fun w1 => ?_, ?_⟩; (focus (go_simp; (try go_ints); (try (simp only [IntWalk.iteOmega]; go_simp)); first | done | (with_reducible rfl) | (with_reducible exact ⟨rfl, rfl⟩))); simp only [Act.put, List.setIfInBounds_toArray, List.set_cons_zero, List.set_cons_succ]; refine hK _ ?_; clear hK K) | (refine Sched.walk1_box rfl rfl ?_; apply Exists.intro; refine ⟨fun w1 hw1 => ?_, ?_⟩; (focus (go_simp; exact ⟨Gr.alloc _ _, rfl, by simp, heap_alloc_new _ _⟩))))
      refine Sched.walk1_nil ?_
      intro wq hwq
      dsimp only [Sched.EndN, List.nil_append, List.cons_append, Act.put]
      (try simp only [List.setIfInBounds_toArray, List.set_cons_zero, List.set_cons_succ])
      repeat (first | (refine Sched.walk2_no rfl (fun K hK => ?_); simp only [Act.put, List.setIfInBounds_toArray, List.set_cons_zero, List.set_cons_succ]; refine hK _ ?_; clear hK K) | (refine Sched.walk2_go rfl (fun K hK => ?_); go_simp; (try go_ints); (try (simp only [IntWalk.iteOmega]; go_simp)); first | (refine hK _ _ ?_; clear hK K) | fail))
      refine Sched.walk2_nil ?_
      have HQ := Lib.hid (HG.out.trans hwq)
      clear l1 l2 k1 k2 hwq
      go_wp2_with fail
      go_roundw
      case rel => exact ⟨k + 1, by omega, by go_num, HQ.out⟩
      case measure => (simp [intOf] <;> omega)
    · obtain rfl : k = n := by omega
      go_wp2_with fail
      go_ret
      exact ⟨rfl, HG.out⟩
theorem begins_yes (a b : Option Addr) (n m c c' : Nat) (X Y : List (List Int)) (w : World) (ha : RdSS w a n X) (hb : RdSS w b m Y) (hc : m ≤ c') (hn : n ≤ m) (hX : X = Y.take n) :
    Calls Try.prog 11 #[.slice a n c, .slice b m c'] w fun e w' => e = .returned (.bool true) ∧ Gr w w' := by
  have hbt := hb.take n hn
  rw [← hX] at hbt
  have HA := Lib.hid ha
  have HB := Lib.hid hbt
  have h1 := ha.2.1
  have h2 := hb.2.1
  clear ha hb hbt hX
  have hnc : n ≤ c' := by omega
  go_enter Try.func11, Try.ntmps11
  go_wp2_with fail
  refine (sameall_yes _ _ _ _ _ X w HA.out HB.out).mono ?_
  rintro e w2 ⟨rfl, hg2⟩
  have HG := Lib.hid hg2
  clear hg2
  go_wp2_with fail
  go_ret
  exact ⟨rfl, HG.out⟩
theorem wpList_load_w {P : Program} {ops : Array Oper} {rest : List Oper} {o : Oper} {a : Act} {w : World} {Q : Exit → Act → World → Prop} (hw : Region.wanted o (yielded ops a.tmps) = true) (ty : TypeId) (x : Operand) (ho : o.op = .load ty x)
    (g : Nat) (hx : a.eval x = .pointer (some ⟨g, 0, none⟩)) (t : TypeId) (cs : Array Value) (fr : Nat × Nat) (d : TypeDesc) (hg : w.heap[g]? = some (.cells cs t fr))
    (hu : P.underlying ty = some d) (hd : (match d with | .struct _ | .array _ _ => true | _ => false) = true) (hi : (P.info? ty).map (·.size) = some cs.size)
    (h : wpList P ops Q rest (a.put o.dst (.agg cs)) w) : wpList P ops Q (o :: rest) a w := by
  unfold wpList
  rw [if_pos hw]
  left
  exact wp_load_row ty x ho g hx t cs fr d hg hu hd hi h
theorem four_blocks (w : World) (a b c d : Obj) : ((((w.alloc a).alloc b).alloc c).alloc d).heap[w.heap.size]? = some a ∧ ((((w.alloc a).alloc b).alloc c).alloc d).heap[w.heap.size + 1]? = some b ∧
    ((((w.alloc a).alloc b).alloc c).alloc d).heap[w.heap.size + 1 + 1]? = some c ∧ ((((w.alloc a).alloc b).alloc c).alloc d).heap[w.heap.size + 1 + 1 + 1]? = some d ∧ Gr w ((((w.alloc a).alloc b).alloc c).alloc d) := by
  have s1 : (w.alloc a).heap.size = w.heap.size + 1 := by simp
  have s2 : ((w.alloc a).alloc b).heap.size = w.heap.size + 1 + 1 := by simp
  have s3 : (((w.alloc a).alloc b).alloc c).heap.size = w.heap.size + 1 + 1 + 1 := by simp
  have g1 := Gr.alloc w a
  have g2 := Gr.alloc (w.alloc a) b
  have g3 := Gr.alloc ((w.alloc a).alloc b) c
  have g4 := Gr.alloc (((w.alloc a).alloc b).alloc c) d
  refine ⟨?_, ?_, ?_, ?_, (g1.trans g2).trans (g3.trans g4)⟩
  · rw [((g2.trans g3).trans g4).block _ (by rw [s1]; omega) (by simp)]; exact heap_alloc_new _ _
  · rw [(g3.trans g4).block _ (by rw [s2]; omega) (by simp), ← s1]; exact heap_alloc_new _ _
  · rw [g4.block _ (by rw [s3]; omega) (by simp), ← s2]; exact heap_alloc_new _ _
  · rw [← s3]; exact heap_alloc_new _ _
theorem rd_blk1 {w : World} {g : Nat} {x : Int} (h : w.heap[g]? = some (.cells #[.int .u8 x] 5 (0, 0))) (hx : 0 ≤ x ∧ x ≤ 255) : Rd .u8 w (some ⟨g, 0, none⟩) 1 [x] :=
  ⟨rfl, by intro z hz; simp at hz; subst hz; exact WalkArith.wf_u8 hx, by simp [maxLen], .inr ⟨g, 0, rfl, heap_lt h, fun i hi => by
    obtain rfl : i = 0 := by omega
    rw [cell_of_block h]; rfl⟩⟩
theorem rdl_lit {w : World} (L : List Rec) (len : Nat) (hl : L.length = len) (hm : len ≤ 1000) (h : ∀ r ∈ L, Rd .u8 w r.a r.n r.xs) : RdL (w.alloc (.cells (L.flatMap RCells).toArray 27)) (some ⟨w.heap.size, 0, none⟩) len L := by
  refine ⟨hl, by omega, .inr ⟨w.heap.size, 0, rfl, by simp, fun i hi => ?_⟩, fun r hr => (h r hr).kept (Gr.alloc _ _)⟩
  rw [Nat.zero_add, cell_new]
  simp
def awA (a : Option Addr) : Rec := ⟨0, 1, 0, 0, 0, 0, a, 1, 1, [1]⟩
def awB (a : Option Addr) : Rec := ⟨0, 1, 0, 0, 0, 0, a, 1, 1, [2]⟩
def awX (a : Option Addr) : Rec := ⟨4, 2, 0, 0, 0, 0, a, 1, 1, [1]⟩
def awY (a : Option Addr) : Rec := ⟨0, 2, 0, 0, 0, 0, a, 1, 1, [2]⟩
theorem aw_idx (a b c : Option Addr) : idxF (sel 1 0 0 0) 0 [awA a, awB b, awX c] = [0, 1] ∧ idxF (sel 2 0 0 0) 0 [awA a, awB b, awX c] = [2] ∧ idxF (sel 1 0 0 0) 0 [awA a, awB b, awY c] = [0, 1] ∧ idxF (sel 2 0 0 0) 0 [awA a, awB b, awY c] = [2] ∧
    idxF (sel 1 0 0 0) 0 [awX a, awA b] = [1] ∧ idxF (sel 2 0 0 0) 0 [awX a, awA b] = [0] := ⟨rfl, rfl, rfl, rfl, rfl, rfl⟩
theorem aw_ord (a b c : Option Addr) : ordB [awA a, awB b, awX c] [0, 1] [2] = true ∧ ordB [awA a, awB b, awY c] [0, 1] [2] = false ∧ decide (amo [awA a, awB b, awY c] [2] 0 [0, 1] = 1) = true ∧ decide (amo [awX a, awA b] [0] 0 [1] = 1) = false ∧ dl [awA a, awB b, awX c] [0, 1] [2] 1 = 4 := ⟨rfl, rfl, rfl, rfl, rfl⟩
theorem delay_is {a : Option Addr} {len cap : Nat} {L : List Rec} {t b d : Int} {D : Int × Bool} (hd : delF L (idxF (sel 1 t b d) 0 L) (idxF (sel 2 t b d) 0 L) = D) (w : World) (hr : RdL w a len L) (ht : Ticks L) :
    Calls Try.prog 14 #[.slice a len cap, .int .i64 t, .int .i64 b, .int .i64 d] w fun e w' => e = .returned (.tuple #[.int .i64 D.1, .bool D.2]) ∧ Gr w w' := hd ▸ delay_any a len cap L t b d w hr ht
def AwB (g1 g2 g3 g4 : Nat) (A B X Y : Rec) (w0 wn : World) : Prop := RBlk g1 A wn ∧ RBlk g2 B wn ∧ RBlk g3 X wn ∧ RBlk g4 Y wn ∧ Rd .u8 wn A.a A.n A.xs ∧ Rd .u8 wn B.a B.n B.xs ∧ Rd .u8 wn X.a X.n X.xs ∧ Rd .u8 wn Y.a Y.n Y.xs ∧ Gr w0 wn
theorem AwB.kept {g1 g2 g3 g4 : Nat} {A B X Y : Rec} {w0 w w' : World} (h : AwB g1 g2 g3 g4 A B X Y w0 w) (hg : Gr w w') : AwB g1 g2 g3 g4 A B X Y w0 w' := by
  obtain ⟨h1, h2, h3, h4, h5, h6, h7, h8, h9⟩ := h
  exact ⟨h1.kept hg, h2.kept hg, h3.kept hg, h4.kept hg, h5.kept hg, h6.kept hg, h7.kept hg, h8.kept hg, h9.trans hg⟩
theorem rdl3 {w : World} {A B X : Rec} (h1 : Rd .u8 w A.a A.n A.xs) (h2 : Rd .u8 w B.a B.n B.xs) (h3 : Rd .u8 w X.a X.n X.xs) : RdL (w.alloc (.cells ([A, B, X].flatMap RCells).toArray 27)) (some ⟨w.heap.size, 0, none⟩) 3 [A, B, X] :=
  rdl_lit _ _ rfl (by omega) (by intro r hr; simp only [List.mem_cons, List.not_mem_nil, or_false] at hr; rcases hr with rfl | rfl | rfl <;> assumption)
theorem rdl2 {w : World} {A B : Rec} (h1 : Rd .u8 w A.a A.n A.xs) (h2 : Rd .u8 w B.a B.n B.xs) : RdL (w.alloc (.cells ([A, B].flatMap RCells).toArray 27)) (some ⟨w.heap.size, 0, none⟩) 2 [A, B] :=
  rdl_lit _ _ rfl (by omega) (by intro r hr; simp only [List.mem_cons, List.not_mem_nil, or_false] at hr; rcases hr with rfl | rfl <;> assumption)
set_option maxRecDepth 100000 in
set_option maxHeartbeats 4000000 in
theorem awake44 (w : World) : Calls Try.prog 6 #[] w fun e w' => e = .returned (.bool true) ∧ Gr w w' := by
  go_enter Try.func6, Try.ntmps6
  go_upto_region 2 with (fail)
  obtain ⟨w2, hw2⟩ : ∃ y, y = (((w.alloc (.cells #[.int .u8 1] 5)).alloc (.cells #[.int .u8 2] 5)).alloc (.cells (RCells (awA (some ⟨w.heap.size, 0, none⟩))).toArray 27)).alloc (.cells (RCells (awB (some ⟨w.heap.size + 1, 0, none⟩))).toArray 27) := ⟨_, rfl⟩
  have hf := four_blocks w (.cells #[.int .u8 1] 5) (.cells #[.int .u8 2] 5) (.cells (RCells (awA (some ⟨w.heap.size, 0, none⟩))).toArray 27) (.cells (RCells (awB (some ⟨w.heap.size + 1, 0, none⟩))).toArray 27)
  rw [← hw2] at hf
  obtain ⟨d1, d2, r1, r2, g2⟩ := hf
  simp only [RCells, awA, awB] at hw2
  first | rw [← hw2] | (go_show; fail)
  have HD1 := Lib.hid (rd_blk1 d1 (by omega))
  have HD2 := Lib.hid (rd_blk1 d2 (by omega))
  have HA := Lib.hid (show RBlk (w.heap.size + 1 + 1) (awA (some ⟨w.heap.size, 0, none⟩)) w2 from r1)
  have HB := Lib.hid (show RBlk (w.heap.size + 1 + 1 + 1) (awB (some ⟨w.heap.size + 1, 0, none⟩)) w2 from r2)
  have HG2 := Lib.hid g2
  clear hw2 d1 d2 r1 r2 g2
  go_upto_region 3 with (fail)
  obtain ⟨w3, hw3⟩ : ∃ y, y = (((w2.alloc (.cells #[.int .u8 1] 5)).alloc (.cells #[.int .u8 2] 5)).alloc (.cells (RCells (awX (some ⟨w2.heap.size, 0, none⟩))).toArray 27)).alloc (.cells (RCells (awY (some ⟨w2.heap.size + 1, 0, none⟩))).toArray 27) := ⟨_, rfl⟩
  have hf := four_blocks w2 (.cells #[.int .u8 1] 5) (.cells #[.int .u8 2] 5) (.cells (RCells (awX (some ⟨w2.heap.size, 0, none⟩))).toArray 27) (.cells (RCells (awY (some ⟨w2.heap.size + 1, 0, none⟩))).toArray 27)
  rw [← hw3] at hf
  obtain ⟨d1, d2, r1, r2, g3⟩ := hf
  simp only [RCells, awX, awY] at hw3
  first | rw [← hw3] | (go_show; fail)
  have HE1 := Lib.hid (HD1.out.kept g3)
  have HE2 := Lib.hid (HD2.out.kept g3)
  have HE3 := Lib.hid (rd_blk1 d1 (by omega))
  have HE4 := Lib.hid (rd_blk1 d2 (by omega))
  have HA3 := Lib.hid (HA.out.kept g3)
  have HB3 := Lib.hid (HB.out.kept g3)
  have HX3 := Lib.hid (show RBlk (w2.heap.size + 1 + 1) (awX (some ⟨w2.heap.size, 0, none⟩)) w3 from r1)
  have HY3 := Lib.hid (show RBlk (w2.heap.size + 1 + 1 + 1) (awY (some ⟨w2.heap.size + 1, 0, none⟩)) w3 from r2)
  have HG3 := Lib.hid (HG2.out.trans g3)
  clear hw3 d1 d2 r1 r2 g3 HD1 HD2 HA HB HG2
  obtain ⟨A, hA⟩ : ∃ A, awA (some ⟨w.heap.size, 0, none⟩) = A := ⟨_, rfl⟩
  obtain ⟨B, hB⟩ : ∃ B, awB (some ⟨w.heap.size + 1, 0, none⟩) = B := ⟨_, rfl⟩
  obtain ⟨X, hX⟩ : ∃ X, awX (some ⟨w2.heap.size, 0, none⟩) = X := ⟨_, rfl⟩
  obtain ⟨Y, hY⟩ : ∃ Y, awY (some ⟨w2.heap.size + 1, 0, none⟩) = Y := ⟨_, rfl⟩
  have HRA := Lib.hid (show Rd .u8 w3 A.a A.n A.xs by rw [← hA]; exact HE1.out)
  have HRB := Lib.hid (show Rd .u8 w3 B.a B.n B.xs by rw [← hB]; exact HE2.out)
  have HRX := Lib.hid (show Rd .u8 w3 X.a X.n X.xs by rw [← hX]; exact HE3.out)
  have HRY := Lib.hid (show Rd .u8 w3 Y.a Y.n Y.xs by rw [← hY]; exact HE4.out)
  have ix := aw_idx (some ⟨w.heap.size, 0, none⟩) (some ⟨w.heap.size + 1, 0, none⟩) (some ⟨w2.heap.size, 0, none⟩)
  have iy := aw_idx (some ⟨w.heap.size, 0, none⟩) (some ⟨w.heap.size + 1, 0, none⟩) (some ⟨w2.heap.size + 1, 0, none⟩)
  have iz := aw_idx (some ⟨w2.heap.size, 0, none⟩) (some ⟨w.heap.size, 0, none⟩) none
  have ox := aw_ord (some ⟨w.heap.size, 0, none⟩) (some ⟨w.heap.size + 1, 0, none⟩) (some ⟨w2.heap.size, 0, none⟩)
  have oy := aw_ord (some ⟨w.heap.size, 0, none⟩) (some ⟨w.heap.size + 1, 0, none⟩) (some ⟨w2.heap.size + 1, 0, none⟩)
  have oz := aw_ord (some ⟨w2.heap.size, 0, none⟩) (some ⟨w.heap.size, 0, none⟩) none
  rw [hA, hB, hX] at ix ox
  rw [hA, hB, hY] at iy oy
  rw [hX, hA] at iz oz
  have HDEL := Lib.hid (show delF [A, B, X] (idxF (sel 1 0 0 0) 0 [A, B, X]) (idxF (sel 2 0 0 0) 0 [A, B, X]) = (4, true) by rw [ix.1, ix.2.1, delF, ox.1, if_pos rfl]; show (dl [A, B, X] [0, 1] [2] 1, true) = _; rw [ox.2.2.2.2])
  have HOX := Lib.hid (show ordB [A, B, X] (idxF (sel 1 0 0 0) 0 [A, B, X]) (idxF (sel 2 0 0 0) 0 [A, B, X]) = true by rw [ix.1, ix.2.1, ox.1])
  have HOY := Lib.hid (show ordB [A, B, Y] (idxF (sel 1 0 0 0) 0 [A, B, Y]) (idxF (sel 2 0 0 0) 0 [A, B, Y]) = false by rw [iy.2.2.1, iy.2.2.2.1, oy.2.1])
  have HMY := Lib.hid (show decide (amo [A, B, Y] (idxF (sel 2 0 0 0) 0 [A, B, Y]) 0 (idxF (sel 1 0 0 0) 0 [A, B, Y]) = (idxF (sel 2 0 0 0) 0 [A, B, Y]).length) = true by rw [iy.2.2.1, iy.2.2.2.1]; exact oy.2.2.1)
  have HMZ := Lib.hid (show decide (amo [X, A] (idxF (sel 2 0 0 0) 0 [X, A]) 0 (idxF (sel 1 0 0 0) 0 [X, A]) = (idxF (sel 2 0 0 0) 0 [X, A]).length) = false by rw [iz.2.2.2.2.1, iz.2.2.2.2.2]; exact oz.2.2.2.1)
  have HTK := Lib.hid (show Ticks [A, B, X] by rw [← hA, ← hB, ← hX]; intro r hr; simp only [List.mem_cons, List.not_mem_nil, or_false] at hr; rcases hr with rfl | rfl | rfl <;> simp [awA, awB, awX])
  rw [hA] at HA3
  rw [hB] at HB3
  rw [hX] at HX3
  rw [hY] at HY3
  have HS3 := Lib.hid (show AwB (w.heap.size + 1 + 1) (w.heap.size + 1 + 1 + 1) (w2.heap.size + 1 + 1) (w2.heap.size + 1 + 1 + 1) A B X Y w w3 from ⟨HA3.out, HB3.out, HX3.out, HY3.out, HRA.out, HRB.out, HRX.out, HRY.out, HG3.out⟩)
  clear ix iy iz ox oy oz HE1 HE2 HE3 HE4 hA hB hX hY HA3 HB3 HX3 HY3 HRA HRB HRX HRY HG3
  have ha := (HS3).out.1
  have hb := (HS3).out.2.1
  have hx := (HS3).out.2.2.1
  have hy := (HS3).out.2.2.2.1
  unfold RBlk at ha hb hx hy
  have HA' := Lib.hid ha
  have HB' := Lib.hid hb
  have HX' := Lib.hid hx
  have HY' := Lib.hid hy
  clear ha hb hx hy
  go_wp2_with (first | (refine wpList_load_w rfl 27 _ rfl (w.heap.size + 1 + 1) rfl 27 _ _ _ HA'.out Try.underlying27 rfl (by kernel_rfl) ?_) | (refine wpList_load_w rfl 27 _ rfl (w.heap.size + 1 + 1 + 1) rfl 27 _ _ _ HB'.out Try.underlying27 rfl (by kernel_rfl) ?_) | (refine wpList_load_w rfl 27 _ rfl (w2.heap.size + 1 + 1) rfl 27 _ _ _ HX'.out Try.underlying27 rfl (by kernel_rfl) ?_) | (refine wpList_load_w rfl 27 _ rfl (w2.heap.size + 1 + 1 + 1) rfl 27 _ _ _ HY'.out Try.underlying27 rfl (by kernel_rfl) ?_))
  clear HA' HB' HX' HY'
  obtain ⟨wl, hwl⟩ : ∃ y, y = (w3).alloc (.cells (([A, B, X]).flatMap RCells).toArray 27) := ⟨_, rfl⟩
  have hrl := rdl3 HS3.out.2.2.2.2.1 HS3.out.2.2.2.2.2.1 HS3.out.2.2.2.2.2.2.1
  have hgl : Gr w3 wl := by rw [hwl]; exact Gr.alloc _ _
  rw [← hwl] at hrl
  have HSL := Lib.hid ((HS3).out.kept hgl)
  simp only [List.flatMap_cons, List.flatMap_nil, RCells, List.cons_append, List.nil_append] at hwl
  first | rw [← hwl] | (go_show; fail)
  clear hwl hgl
  refine (delay_is HDEL.out wl hrl HTK.out).mono ?_
  rintro e w4 ⟨rfl, hg4⟩
  have HS4 := Lib.hid (HSL.out.kept hg4)
  clear hg4 hrl HSL HS3 HDEL HTK wl
  dsimp only
  have ha := (HS4).out.1
  have hb := (HS4).out.2.1
  have hx := (HS4).out.2.2.1
  have hy := (HS4).out.2.2.2.1
  unfold RBlk at ha hb hx hy
  have HA' := Lib.hid ha
  have HB' := Lib.hid hb
  have HX' := Lib.hid hx
  have HY' := Lib.hid hy
  clear ha hb hx hy
  go_wp2_with (first | (refine wpList_load_w rfl 27 _ rfl (w.heap.size + 1 + 1) rfl 27 _ _ _ HA'.out Try.underlying27 rfl (by kernel_rfl) ?_) | (refine wpList_load_w rfl 27 _ rfl (w.heap.size + 1 + 1 + 1) rfl 27 _ _ _ HB'.out Try.underlying27 rfl (by kernel_rfl) ?_) | (refine wpList_load_w rfl 27 _ rfl (w2.heap.size + 1 + 1) rfl 27 _ _ _ HX'.out Try.underlying27 rfl (by kernel_rfl) ?_) | (refine wpList_load_w rfl 27 _ rfl (w2.heap.size + 1 + 1 + 1) rfl 27 _ _ _ HY'.out Try.underlying27 rfl (by kernel_rfl) ?_))
  clear HA' HB' HX' HY'
  obtain ⟨wl, hwl⟩ : ∃ y, y = (w4).alloc (.cells (([A, B, X]).flatMap RCells).toArray 27) := ⟨_, rfl⟩
  have hrl := rdl3 HS4.out.2.2.2.2.1 HS4.out.2.2.2.2.2.1 HS4.out.2.2.2.2.2.2.1
  have hgl : Gr w4 wl := by rw [hwl]; exact Gr.alloc _ _
  rw [← hwl] at hrl
  have HSL := Lib.hid ((HS4).out.kept hgl)
  simp only [List.flatMap_cons, List.flatMap_nil, RCells, List.cons_append, List.nil_append] at hwl
  first | rw [← hwl] | (go_show; fail)
  clear hwl hgl
  refine (inorder_is HOX.out wl hrl).mono ?_
  rintro e w5 ⟨rfl, hg5⟩
  have HS5 := Lib.hid (HSL.out.kept hg5)
  clear hg5 hrl HSL HS4 HOX wl
  have ha := (HS5).out.1
  have hb := (HS5).out.2.1
  have hx := (HS5).out.2.2.1
  have hy := (HS5).out.2.2.2.1
  unfold RBlk at ha hb hx hy
  have HA' := Lib.hid ha
  have HB' := Lib.hid hb
  have HX' := Lib.hid hx
  have HY' := Lib.hid hy
  clear ha hb hx hy
  go_wp2_with (first | (refine wpList_load_w rfl 27 _ rfl (w.heap.size + 1 + 1) rfl 27 _ _ _ HA'.out Try.underlying27 rfl (by kernel_rfl) ?_) | (refine wpList_load_w rfl 27 _ rfl (w.heap.size + 1 + 1 + 1) rfl 27 _ _ _ HB'.out Try.underlying27 rfl (by kernel_rfl) ?_) | (refine wpList_load_w rfl 27 _ rfl (w2.heap.size + 1 + 1) rfl 27 _ _ _ HX'.out Try.underlying27 rfl (by kernel_rfl) ?_) | (refine wpList_load_w rfl 27 _ rfl (w2.heap.size + 1 + 1 + 1) rfl 27 _ _ _ HY'.out Try.underlying27 rfl (by kernel_rfl) ?_))
  clear HA' HB' HX' HY'
  obtain ⟨wl, hwl⟩ : ∃ y, y = (w5).alloc (.cells (([A, B, Y]).flatMap RCells).toArray 27) := ⟨_, rfl⟩
  have hrl := rdl3 HS5.out.2.2.2.2.1 HS5.out.2.2.2.2.2.1 HS5.out.2.2.2.2.2.2.2.1
  have hgl : Gr w5 wl := by rw [hwl]; exact Gr.alloc _ _
  rw [← hwl] at hrl
  have HSL := Lib.hid ((HS5).out.kept hgl)
  simp only [List.flatMap_cons, List.flatMap_nil, RCells, List.cons_append, List.nil_append] at hwl
  first | rw [← hwl] | (go_show; fail)
  clear hwl hgl
  refine (inorder_is HOY.out wl hrl).mono ?_
  rintro e w6 ⟨rfl, hg6⟩
  have HS6 := Lib.hid (HSL.out.kept hg6)
  clear hg6 hrl HSL HS5 HOY wl
  have ha := (HS6).out.1
  have hb := (HS6).out.2.1
  have hx := (HS6).out.2.2.1
  have hy := (HS6).out.2.2.2.1
  unfold RBlk at ha hb hx hy
  have HA' := Lib.hid ha
  have HB' := Lib.hid hb
  have HX' := Lib.hid hx
  have HY' := Lib.hid hy
  clear ha hb hx hy
  go_wp2_with (first | (refine wpList_load_w rfl 27 _ rfl (w.heap.size + 1 + 1) rfl 27 _ _ _ HA'.out Try.underlying27 rfl (by kernel_rfl) ?_) | (refine wpList_load_w rfl 27 _ rfl (w.heap.size + 1 + 1 + 1) rfl 27 _ _ _ HB'.out Try.underlying27 rfl (by kernel_rfl) ?_) | (refine wpList_load_w rfl 27 _ rfl (w2.heap.size + 1 + 1) rfl 27 _ _ _ HX'.out Try.underlying27 rfl (by kernel_rfl) ?_) | (refine wpList_load_w rfl 27 _ rfl (w2.heap.size + 1 + 1 + 1) rfl 27 _ _ _ HY'.out Try.underlying27 rfl (by kernel_rfl) ?_))
  clear HA' HB' HX' HY'
  obtain ⟨wl, hwl⟩ : ∃ y, y = (w6).alloc (.cells (([A, B, Y]).flatMap RCells).toArray 27) := ⟨_, rfl⟩
  have hrl := rdl3 HS6.out.2.2.2.2.1 HS6.out.2.2.2.2.2.1 HS6.out.2.2.2.2.2.2.2.1
  have hgl : Gr w6 wl := by rw [hwl]; exact Gr.alloc _ _
  rw [← hwl] at hrl
  have HSL := Lib.hid ((HS6).out.kept hgl)
  simp only [List.flatMap_cons, List.flatMap_nil, RCells, List.cons_append, List.nil_append] at hwl
  first | rw [← hwl] | (go_show; fail)
  clear hwl hgl
  refine (among_is HMY.out wl hrl).mono ?_
  rintro e w7 ⟨rfl, hg7⟩
  have HS7 := Lib.hid (HSL.out.kept hg7)
  clear hg7 hrl HSL HS6 HMY wl
  have ha := (HS7).out.1
  have hb := (HS7).out.2.1
  have hx := (HS7).out.2.2.1
  have hy := (HS7).out.2.2.2.1
  unfold RBlk at ha hb hx hy
  have HA' := Lib.hid ha
  have HB' := Lib.hid hb
  have HX' := Lib.hid hx
  have HY' := Lib.hid hy
  clear ha hb hx hy
  go_wp2_with (first | (refine wpList_load_w rfl 27 _ rfl (w.heap.size + 1 + 1) rfl 27 _ _ _ HA'.out Try.underlying27 rfl (by kernel_rfl) ?_) | (refine wpList_load_w rfl 27 _ rfl (w.heap.size + 1 + 1 + 1) rfl 27 _ _ _ HB'.out Try.underlying27 rfl (by kernel_rfl) ?_) | (refine wpList_load_w rfl 27 _ rfl (w2.heap.size + 1 + 1) rfl 27 _ _ _ HX'.out Try.underlying27 rfl (by kernel_rfl) ?_) | (refine wpList_load_w rfl 27 _ rfl (w2.heap.size + 1 + 1 + 1) rfl 27 _ _ _ HY'.out Try.underlying27 rfl (by kernel_rfl) ?_))
  clear HA' HB' HX' HY'
  obtain ⟨wl, hwl⟩ : ∃ y, y = (w7).alloc (.cells (([X, A]).flatMap RCells).toArray 27) := ⟨_, rfl⟩
  have hrl := rdl2 HS7.out.2.2.2.2.2.2.1 HS7.out.2.2.2.2.1
  have hgl : Gr w7 wl := by rw [hwl]; exact Gr.alloc _ _
  rw [← hwl] at hrl
  have HSL := Lib.hid ((HS7).out.kept hgl)
  simp only [List.flatMap_cons, List.flatMap_nil, RCells, List.cons_append, List.nil_append] at hwl
  first | rw [← hwl] | (go_show; fail)
  clear hwl hgl
  refine (among_is HMZ.out wl hrl).mono ?_
  rintro e w8 ⟨rfl, hg8⟩
  have HS8 := Lib.hid (HSL.out.kept hg8)
  clear hg8 hrl HSL HS7 HMZ wl
  go_wp2_with fail
  go_ret
  exact ⟨rfl, HS8.out.2.2.2.2.2.2.2.2⟩
end Go.Proofs.Ytgackcjhiplplaa
