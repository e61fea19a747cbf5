/- Layer 29 (harq): bits, word; of the program and of the reference. -/
import Derived.Test.YtcleegibdcphiaaDoorCodeEnc
import Derived.Test.YtcleegibdcphiaaDoorCheckA
import Derived.Test.YtcleegibdcphiaaDoorInts
import Derived.Deep.Cut
namespace Go.Proofs.YtcleegibdcphiaaDoor
open Go.ChangeShapes Go.WideShapes Go.ChangeAt Go.RowKit
open Crc

def bitI (x : Int) : List Int := (bits8 x.toNat).map Int.ofNat
def bitsL (xs : List Int) : List Int := xs.flatMap bitI
theorem bitI_len (x : Int) : (bitI x).length = 8 := rfl
theorem bitsL_cons (x : Int) (xs : List Int) : bitsL (x :: xs) = bitI x ++ bitsL xs := rfl
theorem bitsL_append (xs ys : List Int) : bitsL (xs ++ ys) = bitsL xs ++ bitsL ys := by simp [bitsL]
theorem bitsL_len : ∀ xs : List Int, (bitsL xs).length = 8 * xs.length
  | [] => rfl
  | x :: xs => by rw [bitsL_cons, List.length_append, bitI_len, bitsL_len xs]; simp; omega
theorem bitI_at (x : Int) (hx : 0 ≤ x) (i j : Nat) (h : i + j = 7) : (bitI x).take (j + 1) = (bitI x).take j ++ [x / 2 ^ i % 2] := by
  unfold bitI
  rw [← List.map_take, bits8_at x.toNat i j h, List.map_append, List.map_take]
  congr 1
  simp only [List.map_cons, List.map_nil]
  obtain ⟨c, rfl⟩ : ∃ c : Nat, x = c := ⟨x.toNat, by omega⟩
  simp
theorem takeL_bits (xs : List Int) (q : Nat) (h : q < xs.length) : bitsL (xs.take (q + 1)) = bitsL (xs.take q) ++ bitI (xs[q]?.getD 0) := by
  rw [List.take_add_one, List.getElem?_eq_getElem h, bitsL_append]
  simp [bitsL]
theorem andb_256 : ∀ y : Fin 256, bits .and .u8 (y.val : Int) 1 = (y.val : Int) % 2 := by decide +kernel
theorem andb_one {y : Int} (h0 : 0 ≤ y) (h1 : y ≤ 255) : bits .and .u8 y 1 = y % 2 := by
  have h := andb_256 ⟨y.toNat, by omega⟩
  rw [show (((⟨y.toNat, by omega⟩ : Fin 256)).val : Int) = y by simp; omega] at h
  exact h
theorem shr_u8 {x : Int} (h0 : 0 ≤ x) (h1 : x ≤ 255) (i : Nat) : 0 ≤ x / 2 ^ i ∧ x / 2 ^ i ≤ 255 :=
  ⟨Int.ediv_nonneg h0 (Int.pow_nonneg (by decide)), Int.le_trans (Int.ediv_le_self _ h0) h1⟩
theorem bit_u8 {x : Int} (h0 : 0 ≤ x) (h1 : x ≤ 255) (i : Nat) : wrap64 (bits .and .u8 (x / 2 ^ i) 1) = x / 2 ^ i % 2 := by
  have h := shr_u8 h0 h1 i
  rw [andb_one h.1 h.2]; unfold wrap64; omega
theorem bit_i64 {x : Int} (h0 : 0 ≤ x) (h1 : x ≤ 255) (i : Nat) : bits .and .i64 (wrap64 (x / 2 ^ i)) 1 = x / 2 ^ i % 2 := by
  have h := shr_u8 h0 h1 i
  rw [and_one]; unfold wrap64; omega
theorem bit_rng (y : Int) : i64 (y % 2) := by constructor <;> omega
def BitsPost (xs : List Int) (len : Nat) (w : World) (e : Ending) (w' : World) : Prop := ∃ (a : Option Addr) (cap : Nat), e = .returned (.slice a (8 * len) cap) ∧ OwnI w.heap.size 3 .i64 w' a (8 * len) cap (bitsL xs) ∧ Gr w w'
def BitOut (xs : List Int) (len : Nat) (w : World) (o t : Value) (wr : World) : Prop := ∃ (a' : Option Addr) (cap' q : Nat), q ≤ len ∧ o = .slice a' (8 * q) cap' ∧ t = .int .i64 q ∧ OwnI w.heap.size 3 .i64 wr a' (8 * q) cap' (bitsL (xs.take q)) ∧ Gr w wr
def BitIn (L : List Int) (n : Nat) (x : Int) (w : World) (o i : Value) (wr : World) : Prop := ∃ (a' : Option Addr) (cap' j : Nat), j ≤ 8 ∧ o = .slice a' (n + j) cap' ∧ i = .int .i64 (7 - (j : Int)) ∧ OwnI w.heap.size 3 .i64 wr a' (n + j) cap' (L ++ (bitI x).take j) ∧ Gr w wr
set_option maxRecDepth 20000 in
set_option maxHeartbeats 2000000 in
theorem hbits_any (a : Option Addr) (len cap : Nat) (xs : List Int) (w : World) (hr : Rd .u8 w a len xs) (hlen : len ≤ 100000) :
    Calls Tryd.prog 63 #[.slice a len cap] w (BitsPost xs len w) := by
    have hrl := hr.1
    have HR := Lib.hid hr
    have HRL := Lib.hid hrl
    clear hr hrl
    go_enter Tryd.func63, Tryd.ntmps63
    go_wp2_with fail
    go_loopw [3, 9] (fun o t wr => BitOut xs len w o t wr) (fun _ t _ => len - (intOf t).toNat)
    case atStart => exact ⟨none, 0, 0, by omega, rfl, rfl, OwnI.nil _ _ _ _, Gr.refl _⟩
    case round =>
      obtain ⟨a', cap', q, hq, rfl, rfl, ho, hg⟩ := hrel
      have HO := Lib.hid ho
      have HG := Lib.hid hg
      clear ho hg
      by_cases hlt : q < len
      · obtain ⟨b, off, ea, _, hc⟩ := HR.out.some (by omega)
        subst ea
        have ck := HG.out.cell (hc q hlt)
        have hck := hc q hlt
        have htb := takeL_bits xs q (by rw [HRL.out]; exact hlt)
        have hxb := u8_rng (HR.out.2.1 (xs[q]?.getD 0) (by have := HRL.out; rw [List.getElem?_eq_getElem (by omega)]; exact List.getElem_mem _))
        obtain ⟨x, hx⟩ : ∃ x, xs[q]?.getD 0 = x := ⟨_, rfl⟩
        rw [hx] at ck htb hxb hck
        obtain ⟨x1, x2⟩ := hxb
        have HCK := Lib.hid hck
        obtain ⟨L, hL⟩ : ∃ L, bitsL (xs.take q) = L := ⟨_, rfl⟩
        obtain ⟨n, hn⟩ : ∃ n, 8 * q = n := ⟨_, rfl⟩
        have hnb : n ≤ 800000 := by omega
        have ho := HO.out
        rw [hL, hn] at ho
        rw [hL] at htb
        have HO2 := Lib.hid ho
        have HTB := Lib.hid htb
        rw [hn]
        have HN := Lib.hid hn
        clear hc hx htb hL ho hn HO hck
        go_wp2_with fail
        clear ck
        go_loopw [3, 6] (fun o i wr => BitIn L n x w o i wr) (fun _ i _ => (intOf i + 1).toNat)
        case atStart => exact ⟨a', cap', 0, by omega, rfl, rfl, by simpa using HO2.out, HG.out⟩
        case round =>
          clear HG HO2
          obtain ⟨a2, cap2, j, hj, rfl, rfl, ho, hg⟩ := hrel
          have HO := Lib.hid ho
          have HG := Lib.hid hg
          have ck := hg.cell HCK.out
          clear ho hg
          by_cases hj8 : j < 8
          · obtain ⟨i, hi⟩ : ∃ i : Nat, 7 - (j : Int) = i := ⟨7 - j, by omega⟩
            have hi7 : i ≤ 7 := by omega
            have hbt := bitI_at x x1 i j (by omega)
            have hsp : (wrap64 (bits .and .u8 (x / 2 ^ i) 1)) = x / 2 ^ i % 2 := bit_u8 x1 x2 i
            have hrd := rd_new (k := .i64) (w := wr) [(wrap64 (bits .and .u8 (x / 2 ^ i) 1))] 3 (0, 0) 1 rfl (by simp [maxLen]) (by intro z hz; simp only [List.mem_singleton] at hz; subst hz; rw [hsp]; exact WalkArith.wf_i64 (bit_rng _))
            obtain ⟨a5, c5, w5, hrun5, ho5, hg5, _⟩ := app_i64 w.heap.size (wr.alloc (.cells ([(wrap64 (bits .and .u8 (x / 2 ^ i) 1))].map (Value.int .i64)).toArray 3)) a2 (n + j) cap2 _ (HO.out.stay (Gr.alloc _ _)) (some ⟨wr.heap.size, 0, none⟩) 1 1 _ hrd (by omega) (Nat.le_trans HG.out.size (by simp))
            rw [List.append_assoc, hsp, ← hbt] at ho5
            simp only [List.map_cons, List.map_nil] at hrun5
            rw [hi]
            have HI := Lib.hid hi
            have HR5 := Lib.hid hrun5
            have HO5 := Lib.hid ho5
            have HG5 := Lib.hid (grown_own (HG.out.trans (Gr.alloc _ _)) (HO.out.stay (Gr.alloc _ _)) (Nat.le_refl _) hg5)
            clear hrun5 ho5 hg5 hbt hsp hrd hi
            go_wp2_with (at_builtin; refine wpList_app rfl _ _ _ rfl rfl rfl HR5.out ?_)
            go_roundw
            case rel => exact ⟨a5, c5, j + 1, by omega, by congr 1, by have := HI.out; congr 1; omega, HO5.out, HG5.out⟩
            case measure => (have := HI.out; simp [intOf] <;> omega)
          · obtain rfl : j = 8 := by omega
            clear ck
            go_wp2_with fail
            go_roundw
            case rel =>
              have ho := HO.out
              rw [List.take_of_length_le (by rw [bitI_len]; exact Nat.le_refl _), ← HTB.out] at ho
              have e : n + 8 = 8 * (q + 1) := by have := HN.out; omega
              rw [e] at ho
              exact ⟨a2, cap2, q + 1, by omega, by rw [e], by go_num, ho, HG.out⟩
            case measure => (simp [intOf] <;> omega)
      · obtain rfl : q = len := by omega
        have ho := HO.out
        rw [List.take_of_length_le (by rw [HRL.out]; exact Nat.le_refl _)] at ho
        have HO2 := Lib.hid ho
        clear ho HO
        go_wp2_with fail
        go_ret
        exact ⟨_, _, rfl, HO2.out, HG.out⟩
set_option maxRecDepth 20000 in
set_option maxHeartbeats 2000000 in
theorem rhbits_any (a : Option Addr) (len cap : Nat) (xs : List Int) (w : World) (hr : Rd .u8 w a len xs) (hlen : len ≤ 100000) :
    Calls Tryd.prog 64 #[.slice a len cap] w (BitsPost xs len w) := by
    have hrl := hr.1
    have HR := Lib.hid hr
    have HRL := Lib.hid hrl
    clear hr hrl
    go_enter Tryd.func64, Tryd.ntmps64
    go_wp2_with fail
    go_loopw [3, 4] (fun o t wr => BitOut xs len w o t wr) (fun _ t _ => len - (intOf t).toNat)
    case atStart => exact ⟨none, 0, 0, by omega, rfl, rfl, OwnI.nil _ _ _ _, Gr.refl _⟩
    case round =>
      obtain ⟨a', cap', q, hq, rfl, rfl, ho, hg⟩ := hrel
      have HO := Lib.hid ho
      have HG := Lib.hid hg
      clear ho hg
      by_cases hlt : q < len
      · obtain ⟨b, off, ea, _, hc⟩ := HR.out.some (by omega)
        subst ea
        have ck := HG.out.cell (hc q hlt)
        have hck := hc q hlt
        have htb := takeL_bits xs q (by rw [HRL.out]; exact hlt)
        have hxb := u8_rng (HR.out.2.1 (xs[q]?.getD 0) (by have := HRL.out; rw [List.getElem?_eq_getElem (by omega)]; exact List.getElem_mem _))
        obtain ⟨x, hx⟩ : ∃ x, xs[q]?.getD 0 = x := ⟨_, rfl⟩
        rw [hx] at ck htb hxb hck
        obtain ⟨x1, x2⟩ := hxb
        have HCK := Lib.hid hck
        obtain ⟨L, hL⟩ : ∃ L, bitsL (xs.take q) = L := ⟨_, rfl⟩
        obtain ⟨n, hn⟩ : ∃ n, 8 * q = n := ⟨_, rfl⟩
        have hnb : n ≤ 800000 := by omega
        have ho := HO.out
        rw [hL, hn] at ho
        rw [hL] at htb
        have HO2 := Lib.hid ho
        have HTB := Lib.hid htb
        rw [hn]
        have HN := Lib.hid hn
        clear hc hx htb hL ho hn HO hck
        go_wp2_with fail
        clear ck
        go_loopw [3, 5] (fun o i wr => BitIn L n x w o i wr) (fun _ i _ => (intOf i + 1).toNat)
        case atStart => exact ⟨a', cap', 0, by omega, rfl, rfl, by simpa using HO2.out, HG.out⟩
        case round =>
          clear HG HO2
          obtain ⟨a2, cap2, j, hj, rfl, rfl, ho, hg⟩ := hrel
          have HO := Lib.hid ho
          have HG := Lib.hid hg
          have ck := hg.cell HCK.out
          clear ho hg
          by_cases hj8 : j < 8
          · obtain ⟨i, hi⟩ : ∃ i : Nat, 7 - (j : Int) = i := ⟨7 - j, by omega⟩
            have hi7 : i ≤ 7 := by omega
            have hbt := bitI_at x x1 i j (by omega)
            have hsp : (bits .and .i64 (wrap64 (x / 2 ^ i)) 1) = x / 2 ^ i % 2 := bit_i64 x1 x2 i
            have hrd := rd_new (k := .i64) (w := wr) [(bits .and .i64 (wrap64 (x / 2 ^ i)) 1)] 3 (0, 0) 1 rfl (by simp [maxLen]) (by intro z hz; simp only [List.mem_singleton] at hz; subst hz; rw [hsp]; exact WalkArith.wf_i64 (bit_rng _))
            obtain ⟨a5, c5, w5, hrun5, ho5, hg5, _⟩ := app_i64 w.heap.size (wr.alloc (.cells ([(bits .and .i64 (wrap64 (x / 2 ^ i)) 1)].map (Value.int .i64)).toArray 3)) a2 (n + j) cap2 _ (HO.out.stay (Gr.alloc _ _)) (some ⟨wr.heap.size, 0, none⟩) 1 1 _ hrd (by omega) (Nat.le_trans HG.out.size (by simp))
            rw [List.append_assoc, hsp, ← hbt] at ho5
            simp only [List.map_cons, List.map_nil] at hrun5
            rw [hi]
            have HI := Lib.hid hi
            have HR5 := Lib.hid hrun5
            have HO5 := Lib.hid ho5
            have HG5 := Lib.hid (grown_own (HG.out.trans (Gr.alloc _ _)) (HO.out.stay (Gr.alloc _ _)) (Nat.le_refl _) hg5)
            clear hrun5 ho5 hg5 hbt hsp hrd hi
            go_wp2_with (at_builtin; refine wpList_app rfl _ _ _ rfl rfl rfl HR5.out ?_)
            go_roundw
            case rel => exact ⟨a5, c5, j + 1, by omega, by congr 1, by have := HI.out; congr 1; omega, HO5.out, HG5.out⟩
            case measure => (have := HI.out; simp [intOf] <;> omega)
          · obtain rfl : j = 8 := by omega
            clear ck
            go_wp2_with fail
            go_roundw
            case rel =>
              have ho := HO.out
              rw [List.take_of_length_le (by rw [bitI_len]; exact Nat.le_refl _), ← HTB.out] at ho
              have e : n + 8 = 8 * (q + 1) := by have := HN.out; omega
              rw [e] at ho
              exact ⟨a2, cap2, q + 1, by omega, by rw [e], by go_num, ho, HG.out⟩
            case measure => (simp [intOf] <;> omega)
      · obtain rfl : q = len := by omega
        have ho := HO.out
        rw [List.take_of_length_le (by rw [HRL.out]; exact Nat.le_refl _)] at ho
        have HO2 := Lib.hid ho
        clear ho HO
        go_wp2_with fail
        go_ret
        exact ⟨_, _, rfl, HO2.out, HG.out⟩
end Go.Proofs.YtcleegibdcphiaaDoor
