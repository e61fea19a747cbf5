/- Layer 44 (audit): copies of data; matches. -/
import Derived.Test.YtgackcjhiplplaaAudB
import Derived.Laws.BytesArg
import Derived.Laws.Strings
namespace Go.Proofs.Ytgackcjhiplplaa
open Go.ChangeShapes Go.WideShapes Go.ChangeAt Go.RowKit

/-! ### bytes -/
theorem conv_rd {P : Program} {w : World} {a : Option Addr} {len : Nat} {xs : List Int} (h : Rd .u8 w a len xs) (cap : Nat) (src e dst : TypeId) (hs : P.underlying src = some (.slice e)) (he : P.underlying e = some (.int .u8)) (hd : P.underlying dst = some .string) :
    (convert src dst (.slice a len cap)).run P w = .ok (.string (strOfNums xs)) w := by
  obtain ⟨h1, _, _, h4⟩ := h
  rcases h4 with h0 | ⟨b, off, rfl, hb, hc⟩
  · subst h0
    have : xs = [] := List.eq_nil_of_length_eq_zero h1
    subst this
    rw [run_convert_bytes_string w src dst e _ 0 cap hs he hd]
    cases a <;> simp [Conv.bytesToString, loadCells]
    all_goals rfl
  · exact run_convert_bytes_arg w src e hs he b off len cap xs h1 (fun i hi => by rw [hc i hi]; simp [List.getD]) dst hd
theorem byte_inj {x y : Int} (hx : 0 ≤ x ∧ x ≤ 255) (hy : 0 ≤ y ∧ y ≤ 255) (h : UInt8.ofNat x.toNat = UInt8.ofNat y.toNat) : x = y := by
  have := congrArg UInt8.toNat h
  simp at this
  omega
theorem nums_inj : ∀ (xs ys : List Int), (∀ x ∈ xs, 0 ≤ x ∧ x ≤ 255) → (∀ x ∈ ys, 0 ≤ x ∧ x ≤ 255) → (xs.map fun n => UInt8.ofNat n.toNat) = (ys.map fun n => UInt8.ofNat n.toNat) → xs = ys
  | [], [], _, _, _ => rfl
  | [], _ :: _, _, _, h => by simp at h
  | _ :: _, [], _, _, h => by simp at h
  | x :: xs, y :: ys, hx, hy, h => by
    simp only [List.map_cons, List.cons.injEq] at h
    rw [byte_inj (hx x (by simp)) (hy y (by simp)) h.1, nums_inj xs ys (fun z hz => hx z (by simp [hz])) (fun z hz => hy z (by simp [hz])) h.2]
theorem str_inj {xs ys : List Int} (hx : ∀ x ∈ xs, 0 ≤ x ∧ x ≤ 255) (hy : ∀ x ∈ ys, 0 ≤ x ∧ x ≤ 255) : strOfNums xs = strOfNums ys ↔ xs = ys := by
  constructor
  · intro h
    refine nums_inj xs ys hx hy ?_
    rw [← strOfNums_data, ← strOfNums_data, h]
  · rintro rfl; rfl
theorem rd_bytes {w : World} {a : Option Addr} {len : Nat} {xs : List Int} (h : Rd .u8 w a len xs) : ∀ x ∈ xs, 0 ≤ x ∧ x ≤ 255 := fun x hx => bounds_u8 (h.2.1 x hx)
theorem ret_bool' {a b : Bool} (h : a = b) : Ending.returned (.bool a) = .returned (.bool b) := by rw [h]
theorem equal_any (a b : Option Addr) (l c l' c' : Nat) (xs ys : List Int) (w : World) (hx : Rd .u8 w a l xs) (hy : Rd .u8 w b l' ys) :
    Calls Try.prog 33 #[.slice a l c, .slice b l' c'] w fun e w' => e = .returned (.bool (decide (xs = ys))) ∧ w = w' := by
  have k1 := conv_rd (P := Try.prog) hx c 22 5 9 Try.underlying22 Try.underlying5 Try.underlying9
  have k2 := conv_rd (P := Try.prog) hy c' 22 5 9 Try.underlying22 Try.underlying5 Try.underlying9
  have hi := str_inj (rd_bytes hx) (rd_bytes hy)
  have HI := Lib.hid hi
  clear hi hx hy
  go_enter Try.func33, Try.ntmps33
  go_wp2_with fail
  go_ret
  refine ⟨ret_bool' ?_, rfl⟩
  have hi := HI.out
  rw [ByteArray.toList_eq, ByteArray.toList_eq, Bool.eq_iff_iff, beq_iff_eq, decide_eq_true_eq, ← hi]
  exact ⟨fun h => bytes_inj h, fun h => by rw [h]⟩
theorem lit_nil (B : Nat) (w : World) (hB : B ≤ w.heap.size) : OwnI B 5 .u8 (w.alloc (.cells #[] 5)) (some ⟨w.heap.size, 0, none⟩) 0 0 [] := by
  refine ⟨?_, fun y hy => by cases hy⟩
  have h := World.ownsRow_lit (base := B) (e := 5) (size := 1) w (([] : List Int).map (Value.int .u8)).toArray 0 hB (by simp [maxLen]) (by simp)
  exact h
def ClonePost (m : Nat) (ys : List Int) (w : World) (e : Ending) (w' : World) : Prop := ∃ a' c', e = .returned (.slice a' m c') ∧ OwnI w.heap.size 5 .u8 w' a' m c' ys ∧ Gr w w'
theorem clone_any (a : Option Addr) (m c : Nat) (ys : List Int) (w : World) (hr : Rd .u8 w a m ys) (hm : m ≤ 140737488351232) : Calls Try.prog 30 #[.slice a m c] w (ClonePost m ys w) := by
  cases a with
  | none =>
    have hm0 : m = 0 := by
      rcases hr.2.2.2 with h | ⟨_, _, h, _⟩
      · exact h
      · cases h
    subst hm0
    obtain rfl : ys = [] := List.eq_nil_of_length_eq_zero hr.1
    have hnil : ∀ u : World, (binOp .eql 22 (.slice none 0 c) (.slice none 0 0)).run Try.prog u = .ok (.bool true) u := fun u => Lib.run_eql_slice_nil u _ _ _ _ _ _ _ Try.underlying22
    clear hr
    go_enter Try.func30, Try.ntmps30
    go_wp2_with fail
    go_ret
    exact ⟨none, 0, rfl, OwnI.nil _ _ _ _, Gr.refl _⟩
  | some x =>
    have hnil : ∀ u : World, (binOp .eql 22 (.slice (some x) m c) (.slice none 0 0)).run Try.prog u = .ok (.bool false) u := fun u => Lib.run_eql_slice_nil u _ _ _ _ _ _ _ Try.underlying22
    obtain ⟨w1, hw1⟩ : ∃ y, y = w.alloc (.cells #[] 5) := ⟨_, rfl⟩
    have ho := lit_nil w.heap.size w (Nat.le_refl _)
    rw [← hw1] at ho
    have hg1 : Gr w w1 := by rw [hw1]; exact Gr.alloc _ _
    obtain ⟨a3, cap3, w3, hrun, ho3, hg3, _⟩ := app_u8 w.heap.size w1 (some ⟨w.heap.size, 0, none⟩) 0 0 [] ho (some x) m c ys (hr.kept hg1) (by omega) hg1.size
    rw [Nat.zero_add] at hrun ho3
    rw [List.nil_append] at ho3
    have HRUN := Lib.hid hrun
    have HO3 := Lib.hid ho3
    have HG3 := Lib.hid (grown_own hg1 ho (Nat.le_refl _) hg3)
    have HW1 := Lib.hid hw1
    clear ho3 hrun hg1 ho hw1 hr hg3
    go_enter Try.func30, Try.ntmps30
    go_upto_region 3 with (fail)
    go_wp2_with (at_builtin; (have hw1 := HW1.out; rw [← hw1]; clear hw1); refine wpList_app rfl _ _ _ rfl rfl rfl HRUN.out ?_)
    go_ret
    exact ⟨a3, cap3, rfl, HO3.out, HG3.out⟩
/-! ### lists of byte slices -/
structure Sl where
  a : Option Addr
  n : Nat
  c : Nat
abbrev slv (s : Sl) : Value := .slice s.a s.n s.c
/-- Slices of bytes read as lists. -/
def All2 (w : World) : List Sl → List (List Int) → Prop
  | [], [] => True
  | s :: l, x :: r => Rd .u8 w s.a s.n x ∧ All2 w l r
  | _, _ => False
theorem All2.kept {w w' : World} (hg : Gr w w') : ∀ {l : List Sl} {r : List (List Int)}, All2 w l r → All2 w' l r
  | [], [], _ => trivial
  | _ :: _, _ :: _, h => ⟨h.1.kept hg, All2.kept hg h.2⟩
  | [], _ :: _, h => h.elim
  | _ :: _, [], h => h.elim
theorem All2.len {w : World} : ∀ {l : List Sl} {r : List (List Int)}, All2 w l r → l.length = r.length
  | [], [], _ => rfl
  | _ :: _, _ :: _, h => by simp [All2.len h.2]
  | [], _ :: _, h => h.elim
  | _ :: _, [], h => h.elim
theorem All2.snoc {w : World} {s : Sl} {x : List Int} (hs : Rd .u8 w s.a s.n x) : ∀ {l : List Sl} {r : List (List Int)}, All2 w l r → All2 w (l ++ [s]) (r ++ [x])
  | [], [], _ => ⟨hs, trivial⟩
  | _ :: _, _ :: _, h => ⟨h.1, All2.snoc hs h.2⟩
  | [], _ :: _, h => h.elim
  | _ :: _, [], h => h.elim
theorem All2.get {w : World} : ∀ {l : List Sl} {r : List (List Int)} {i : Nat} {s : Sl}, All2 w l r → l[i]? = some s → ∃ x, r[i]? = some x ∧ Rd .u8 w s.a s.n x
  | _ :: _, x :: _, 0, _, h, hi => by simp at hi; subst hi; exact ⟨x, rfl, h.1⟩
  | _ :: _, _ :: _, i + 1, _, h, hi => by
    obtain ⟨y, h1, h2⟩ := All2.get h.2 (by simpa using hi)
    exact ⟨y, by simpa using h1, h2⟩
  | [], [], _, _, _, hi => by simp at hi
  | [], _ :: _, _, _, h, _ => h.elim
  | _ :: _, [], _, _, h, _ => h.elim
def RdSS (w : World) (a : Option Addr) (len : Nat) (X : List (List Int)) : Prop := X.length = len ∧ len ≤ 1000000 ∧ ∃ ss : List Sl, Seg w a (ss.map slv) ∧ All2 w ss X
theorem RdSS.kept {w w' : World} {a : Option Addr} {len : Nat} {X : List (List Int)} (h : RdSS w a len X) (hg : Gr w w') : RdSS w' a len X := by
  obtain ⟨h1, h2, ss, h3, h4⟩ := h
  exact ⟨h1, h2, ss, h3.kept (fun b _ _ hb => hg.block b hb (by simp)) hg.size, h4.kept hg⟩
/-- Owned: the row, and its slices, which lie in other blocks. -/
def OwnSS (B : Nat) (w : World) (a : Option Addr) (n cap : Nat) (X : List (List Int)) : Prop :=
  ∃ ss : List Sl, w.ownsRow B 22 1 (.slice a n cap) n (ss.map slv) ∧ All2 w ss X ∧ ∀ s ∈ ss, ∀ b off, 0 < s.n → s.a = some ⟨b, off, none⟩ → (Value.slice a n cap).ownBlock ≠ some b
theorem OwnSS.stay {B : Nat} {w w' : World} {a : Option Addr} {n cap : Nat} {X : List (List Int)} (h : OwnSS B w a n cap X) (hg : Gr w w') : OwnSS B w' a n cap X := by
  obtain ⟨ss, h1, h2, h3⟩ := h
  exact ⟨ss, h1.kept hg (by cases hv : (Value.slice a n cap).ownBlock <;> simp), h2.kept hg, h3⟩
theorem OwnSS.nil (B : Nat) (w : World) : OwnSS B w none 0 0 [] := ⟨[], World.ownsRow_nil w B _ 1, trivial, by simp⟩
theorem own_seg {w : World} {B : Nat} {e : TypeId} {a : Option Addr} {n cap : Nat} {vs : List Value} (h : w.ownsRow B e 1 (.slice a n cap) n vs) : Seg w a vs := by
  have hl := h.1
  rcases h.2 with ⟨hv, h0⟩ | ⟨g, cap', cur, hv, hb, hg, hn, hm, hs, ht⟩
  · left
    exact List.eq_nil_of_length_eq_zero (by omega)
  · injection hv with e1 e2 e3
    subst e1
    right
    refine ⟨g, 0, rfl, ?_, fun i hi => ?_⟩
    · rcases Nat.lt_or_ge g w.heap.size with h1 | h1
      · exact h1
      · rw [Array.getElem?_eq_none h1] at hg; cases hg
    · have hc := h.cells (g := g) rfl i vs[i] (by simp [hi])
      rw [addr_add] at hc
      rw [hc]; simp [hi]
theorem OwnSS.rd {B : Nat} {w : World} {a : Option Addr} {n cap : Nat} {X : List (List Int)} (h : OwnSS B w a n cap X) (hn : n ≤ 1000000) : RdSS w a n X := by
  obtain ⟨ss, h1, h2, h3⟩ := h
  exact ⟨by have := h1.1; rw [← h2.len]; simpa using this, hn, ss, own_seg h1, h2⟩
theorem info_sl : (Try.prog.info? 22).map (fun i => (i.zero, i.size, i.bytes)) = some (some (.slice none 0 0), 1, 24) := by kernel_rfl
theorem All2.but {w w' : World} {r : Option Nat} (hg : w.grownBy w' r) : ∀ {l : List Sl} {X : List (List Int)}, All2 w l X → (∀ s ∈ l, ∀ b off, 0 < s.n → s.a = some ⟨b, off, none⟩ → r ≠ some b) → All2 w' l X
  | [], [], _, _ => trivial
  | s :: _, _ :: _, h, hr => ⟨rd_keptBut h.1 hg (fun b off h0 he => fun e => hr s (by simp) b off h0 he e.symm), All2.but hg h.2 (fun t ht => hr t (by simp [ht]))⟩
  | [], _ :: _, h, _ => h.elim
  | _ :: _, [], h, _ => h.elim
/-- A new slice is put behind. -/
theorem OwnSS.app {B : Nat} {w : World} {a : Option Addr} {n cap : Nat} {X : List (List Int)} (h : OwnSS B w a n cap X) (s : Sl) (x : List Int) (hs : Rd .u8 w s.a s.n x) (hne : ∀ b off, 0 < s.n → s.a = some ⟨b, off, none⟩ → (Value.slice a n cap).ownBlock ≠ some b)
    (q : Addr) (hq : Seg w (some q) [slv s]) (hn : n ≤ 1000000) (hB : B ≤ w.heap.size) :
    ∃ a' cap' w', (Builtin.append_ #[28, 28] 28 #[.slice a n cap, .slice (some q) 1 1]).run Try.prog w = .ok (.slice a' (n + 1) cap') w' ∧ OwnSS B w' a' (n + 1) cap' (X ++ [x]) ∧ w.grownBy w' (Value.slice a n cap).ownBlock := by
  obtain ⟨ss, h1, h2, h3⟩ := h
  obtain ⟨i0, hi, hz0, hz1, hz2⟩ := info_parts info_sl
  obtain ⟨v', w', hr, ho, hg, hf, -⟩ := run_app (P := Try.prog) B 28 28 22 i0 (.slice none 0 0) 1 24 Try.underlying28 hi hz0 hz1 hz2 rfl (by omega) w _ n _ h1 (some q) 1 1 [slv s] rfl hq (by intro u hu; simp at hu; subst hu; rfl) (by simp) (by simp only [maxLen]; omega) (by omega) hB
  have hv : ∃ a' cap', v' = .slice a' (n + 1) cap' := by
    rcases ho.2 with ⟨_, h0⟩ | ⟨g, cap', cur, rfl, _⟩
    · omega
    · exact ⟨_, _, rfl⟩
  obtain ⟨a', cap', rfl⟩ := hv
  have hall := (h2.snoc hs)
  have hlt : ∀ t ∈ ss ++ [s], ∀ b off, 0 < t.n → t.a = some ⟨b, off, none⟩ → b < w.heap.size := by
    intro t ht b off h0 he
    obtain ⟨i, hi', hti⟩ := List.getElem_of_mem ht
    obtain ⟨y, _, hy⟩ := hall.get (i := i) (s := t) (by rw [List.getElem?_eq_getElem hi', hti])
    obtain ⟨b', off', e, hb, _⟩ := hy.some h0
    rw [he] at e; injection e with e; injection e with e1 e2; omega
  have hne2 : ∀ t ∈ ss ++ [s], ∀ b off, 0 < t.n → t.a = some ⟨b, off, none⟩ → (Value.slice a n cap).ownBlock ≠ some b := by
    intro t ht
    rcases List.mem_append.1 ht with ht | ht
    · exact h3 t ht
    · simp at ht; subst ht; exact hne
  refine ⟨a', cap', w', hr, ⟨ss ++ [s], by rw [List.map_append]; exact ho, hall.but hg hne2, ?_⟩, hg⟩
  intro t ht b off h0 he
  rcases hf with e | ⟨g, e, hg2⟩
  · rw [e]; exact hne2 t ht b off h0 he
  · rw [e]; intro h; injection h with h; have := hlt t ht b off h0 he; omega
end Go.Proofs.Ytgackcjhiplplaa
