/- Lists of lists of numbers: owned rows of slices. -/
import Derived.Test.YtcleegibdcphiaaDoorHarT
namespace Go.Proofs.YtcleegibdcphiaaDoor
open Go.ChangeShapes Go.WideShapes Go.ChangeAt Go.RowKit

structure Sl where
  a : Option Addr
  n : Nat
  c : Nat
abbrev slv (s : Sl) : Value := .slice s.a s.n s.c
/-- Slices of bytes read as lists. -/
def All2 (w : World) : List Sl → List (List Int) → Prop
  | [], [] => True
  | s :: l, x :: r => Rd .i64 w s.a s.n x ∧ All2 w l r
  | _, _ => False
theorem All2.kept {w w' : World} (hg : Gr w w') : ∀ {l : List Sl} {r : List (List Int)}, All2 w l r → All2 w' l r
  | [], [], _ => trivial
  | _ :: _, _ :: _, h => ⟨h.1.kept hg, All2.kept hg h.2⟩
  | [], _ :: _, h => h.elim
  | _ :: _, [], h => h.elim
theorem All2.len {w : World} : ∀ {l : List Sl} {r : List (List Int)}, All2 w l r → l.length = r.length
  | [], [], _ => rfl
  | _ :: _, _ :: _, h => by simp [All2.len h.2]
  | [], _ :: _, h => h.elim
  | _ :: _, [], h => h.elim
theorem All2.snoc {w : World} {s : Sl} {x : List Int} (hs : Rd .i64 w s.a s.n x) : ∀ {l : List Sl} {r : List (List Int)}, All2 w l r → All2 w (l ++ [s]) (r ++ [x])
  | [], [], _ => ⟨hs, trivial⟩
  | _ :: _, _ :: _, h => ⟨h.1, All2.snoc hs h.2⟩
  | [], _ :: _, h => h.elim
  | _ :: _, [], h => h.elim
theorem All2.get {w : World} : ∀ {l : List Sl} {r : List (List Int)} {i : Nat} {s : Sl}, All2 w l r → l[i]? = some s → ∃ x, r[i]? = some x ∧ Rd .i64 w s.a s.n x
  | _ :: _, x :: _, 0, _, h, hi => by simp at hi; subst hi; exact ⟨x, rfl, h.1⟩
  | _ :: _, _ :: _, i + 1, _, h, hi => by
    obtain ⟨y, h1, h2⟩ := All2.get h.2 (by simpa using hi)
    exact ⟨y, by simpa using h1, h2⟩
  | [], [], _, _, _, hi => by simp at hi
  | [], _ :: _, _, _, h, _ => h.elim
  | _ :: _, [], _, _, h, _ => h.elim
def RdSI (w : World) (a : Option Addr) (len : Nat) (X : List (List Int)) : Prop := X.length = len ∧ len ≤ 1000000 ∧ ∃ ss : List Sl, Seg w a (ss.map slv) ∧ All2 w ss X
theorem RdSI.kept {w w' : World} {a : Option Addr} {len : Nat} {X : List (List Int)} (h : RdSI w a len X) (hg : Gr w w') : RdSI w' a len X := by
  obtain ⟨h1, h2, ss, h3, h4⟩ := h
  exact ⟨h1, h2, ss, h3.kept (fun b _ _ hb => hg.block b hb (by simp)) hg.size, h4.kept hg⟩
/-- Owned: the row, and its slices, which lie in other blocks. -/
def OwnSI (B : Nat) (w : World) (a : Option Addr) (n cap : Nat) (X : List (List Int)) : Prop :=
  ∃ ss : List Sl, w.ownsRow B 25 1 (.slice a n cap) n (ss.map slv) ∧ All2 w ss X ∧ ∀ s ∈ ss, ∀ b off, 0 < s.n → s.a = some ⟨b, off, none⟩ → (Value.slice a n cap).ownBlock ≠ some b ∧ B ≤ b
theorem OwnSI.stay {B : Nat} {w w' : World} {a : Option Addr} {n cap : Nat} {X : List (List Int)} (h : OwnSI B w a n cap X) (hg : Gr w w') : OwnSI B w' a n cap X := by
  obtain ⟨ss, h1, h2, h3⟩ := h
  exact ⟨ss, h1.kept hg (by cases hv : (Value.slice a n cap).ownBlock <;> simp), h2.kept hg, h3⟩
theorem OwnSI.nil (B : Nat) (w : World) : OwnSI B w none 0 0 [] := ⟨[], World.ownsRow_nil w B _ 1, trivial, by simp⟩
theorem own_seg {w : World} {B : Nat} {e : TypeId} {a : Option Addr} {n cap : Nat} {vs : List Value} (h : w.ownsRow B e 1 (.slice a n cap) n vs) : Seg w a vs := by
  have hl := h.1
  rcases h.2 with ⟨hv, h0⟩ | ⟨g, cap', cur, hv, hb, hg, hn, hm, hs, ht⟩
  · left
    exact List.eq_nil_of_length_eq_zero (by omega)
  · injection hv with e1 e2 e3
    subst e1
    right
    refine ⟨g, 0, rfl, ?_, fun i hi => ?_⟩
    · rcases Nat.lt_or_ge g w.heap.size with h1 | h1
      · exact h1
      · rw [Array.getElem?_eq_none h1] at hg; cases hg
    · have hc := h.cells (g := g) rfl i vs[i] (by simp [hi])
      rw [addr_add] at hc
      rw [hc]; simp [hi]
theorem OwnSI.rd {B : Nat} {w : World} {a : Option Addr} {n cap : Nat} {X : List (List Int)} (h : OwnSI B w a n cap X) (hn : n ≤ 1000000) : RdSI w a n X := by
  obtain ⟨ss, h1, h2, h3⟩ := h
  exact ⟨by have := h1.1; rw [← h2.len]; simpa using this, hn, ss, own_seg h1, h2⟩
theorem info_sl : (Tryd.prog.info? 25).map (fun i => (i.zero, i.size, i.bytes)) = some (some (.slice none 0 0), 1, 24) := by kernel_rfl
theorem All2.but {w w' : World} {r : Option Nat} (hg : w.grownBy w' r) : ∀ {l : List Sl} {X : List (List Int)}, All2 w l X → (∀ s ∈ l, ∀ b off, 0 < s.n → s.a = some ⟨b, off, none⟩ → r ≠ some b) → All2 w' l X
  | [], [], _, _ => trivial
  | s :: _, _ :: _, h, hr => ⟨rd_keptBut h.1 hg (fun b off h0 he => fun e => hr s (by simp) b off h0 he e.symm), All2.but hg h.2 (fun t ht => hr t (by simp [ht]))⟩
  | [], _ :: _, h, _ => h.elim
  | _ :: _, [], h, _ => h.elim
/-- A new slice is put behind. -/
theorem OwnSI.app {B : Nat} {w : World} {a : Option Addr} {n cap : Nat} {X : List (List Int)} (h : OwnSI B w a n cap X) (s : Sl) (x : List Int) (hs : Rd .i64 w s.a s.n x) (hne : ∀ b off, 0 < s.n → s.a = some ⟨b, off, none⟩ → (Value.slice a n cap).ownBlock ≠ some b ∧ B ≤ b)
    (q : Addr) (hq : Seg w (some q) [slv s]) (hn : n ≤ 1000000) (hB : B ≤ w.heap.size) :
    ∃ a' cap' w', (Builtin.append_ #[62, 62] 62 #[.slice a n cap, .slice (some q) 1 1]).run Tryd.prog w = .ok (.slice a' (n + 1) cap') w' ∧ OwnSI B w' a' (n + 1) cap' (X ++ [x]) ∧ w.grownBy w' (Value.slice a n cap).ownBlock := by
  obtain ⟨ss, h1, h2, h3⟩ := h
  obtain ⟨i0, hi, hz0, hz1, hz2⟩ := info_parts info_sl
  obtain ⟨v', w', hr, ho, hg, hf, -⟩ := run_app (P := Tryd.prog) B 62 62 25 i0 (.slice none 0 0) 1 24 Tryd.underlying62 hi hz0 hz1 hz2 rfl (by omega) w _ n _ h1 (some q) 1 1 [slv s] rfl hq (by intro u hu; simp at hu; subst hu; rfl) (by simp) (by simp only [maxLen]; omega) (by omega) hB
  have hv : ∃ a' cap', v' = .slice a' (n + 1) cap' := by
    rcases ho.2 with ⟨_, h0⟩ | ⟨g, cap', cur, rfl, _⟩
    · omega
    · exact ⟨_, _, rfl⟩
  obtain ⟨a', cap', rfl⟩ := hv
  have hall := (h2.snoc hs)
  have hlt : ∀ t ∈ ss ++ [s], ∀ b off, 0 < t.n → t.a = some ⟨b, off, none⟩ → b < w.heap.size := by
    intro t ht b off h0 he
    obtain ⟨i, hi', hti⟩ := List.getElem_of_mem ht
    obtain ⟨y, _, hy⟩ := hall.get (i := i) (s := t) (by rw [List.getElem?_eq_getElem hi', hti])
    obtain ⟨b', off', e, hb, _⟩ := hy.some h0
    rw [he] at e; injection e with e; injection e with e1 e2; omega
  have hne2 : ∀ t ∈ ss ++ [s], ∀ b off, 0 < t.n → t.a = some ⟨b, off, none⟩ → (Value.slice a n cap).ownBlock ≠ some b ∧ B ≤ b := by
    intro t ht
    rcases List.mem_append.1 ht with ht | ht
    · exact h3 t ht
    · simp at ht; subst ht; exact hne
  refine ⟨a', cap', w', hr, ⟨ss ++ [s], by rw [List.map_append]; exact ho, hall.but hg (fun t ht b off h0 he => (hne2 t ht b off h0 he).1), ?_⟩, hg⟩
  intro t ht b off h0 he
  rcases hf with e | ⟨g, e, hg2⟩
  · rw [e]; exact hne2 t ht b off h0 he
  · rw [e]; exact ⟨by intro h; injection h with h; have := hlt t ht b off h0 he; omega, (hne2 t ht b off h0 he).2⟩
theorem OwnSI.cells {B : Nat} {w : World} {a : Option Addr} {n cap : Nat} {X : List (List Int)} (h : OwnSI B w a n cap X) {g : Nat} (hg : g < B) (vs : List Value) : OwnSI B (w.setCells g 0 vs) a n cap X := by
  obtain ⟨ss, h1, h2, h3⟩ := h
  have hgs := grown_setCells g vs 0 w
  refine ⟨ss, h1.kept hgs ?_, h2.but hgs (fun s hs b off h0 he hgb => ?_), h3⟩
  · cases hv : (Value.slice a n cap).ownBlock with
    | none => exact .inl rfl
    | some b => exact .inr (by intro h4; have := (h1.lt b hv).1; cases h4; omega)
  · have := (h3 s hs b off h0 he).2
    cases hgb; omega
theorem OwnSI.get {B : Nat} {w : World} {a : Option Addr} {n cap : Nat} {X : List (List Int)} (h : OwnSI B w a n cap X) {i : Nat} (hi : i < n) : ∃ (g : Nat) (s : Sl) (x : List Int), a = some ⟨g, 0, none⟩ ∧ w.cell? ⟨g, i, none⟩ = some (slv s) ∧ X[i]? = some x ∧ Rd .i64 w s.a s.n x := by
  obtain ⟨ss, h1, h2, h3⟩ := h
  have hl : ss.length = n := by have := h1.1; simpa using this
  have hss : ss[i]? = some ss[i] := List.getElem?_eq_getElem (by omega)
  obtain ⟨x, hx, hrd⟩ := h2.get hss
  rcases h1.2 with ⟨hv, h0⟩ | ⟨g, cap', cur, hv, hb, hg, hn, hm, hs, ht⟩
  · omega
  · injection hv with e1 e2 e3
    have hc := h1.cells (g := g) (by rw [e1]; rfl) i (slv ss[i]) (by simp [hss])
    rw [addr_add] at hc
    exact ⟨g, ss[i], x, e1, by simpa using hc, hx, hrd⟩
end Go.Proofs.YtcleegibdcphiaaDoor
