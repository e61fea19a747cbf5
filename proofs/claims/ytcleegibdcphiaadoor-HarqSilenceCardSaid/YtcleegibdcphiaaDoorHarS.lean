/- Layer 29 (harq): soft bits of bits (the reference's Of). -/
import Derived.Test.YtcleegibdcphiaaDoorHarR
namespace Go.Proofs.YtcleegibdcphiaaDoor
open Go.ChangeShapes Go.WideShapes Go.ChangeAt Go.RowKit
open Cod

/-- The soft bit of a bit, with noise. -/
def ofI (gain b z : Int) : Int := clipI (gain * (1 - 2 * b) + z)
def nzI (ns : List Int) (i : Nat) : Int := if i < ns.length then ns[i]?.getD 0 else 0
def ofL (bs ns : List Int) (gain : Int) : List Int := (List.range bs.length).map fun i => ofI gain (bs[i]?.getD 0) (nzI ns i)
theorem ofL_len (bs ns : List Int) (gain : Int) : (ofL bs ns gain).length = bs.length := by simp [ofL]
theorem ofL_at (bs ns : List Int) (gain : Int) (i : Nat) (h : i < bs.length) : (ofL bs ns gain)[i]?.getD 0 = ofI gain (bs[i]?.getD 0) (nzI ns i) := by
  unfold ofL
  rw [List.getElem?_map, List.getElem?_range h]; rfl
theorem ofL_ok (bs ns : List Int) (gain : Int) : softOk (ofL bs ns gain) := by
  intro x hx
  unfold ofL at hx
  rw [List.mem_map] at hx
  obtain ⟨i, _, rfl⟩ := hx
  exact clipI_rng _
def OfPost (L : List Int) (n : Nat) (w : World) (e : Ending) (w' : World) : Prop := ∃ a c, e = .returned (.tuple #[.slice a n c, .int .i64 0]) ∧ OwnI w.heap.size 3 .i64 w' a n c L ∧ Gr w w'
theorem rclip_is {n R : Int} (h : clipI n = R) (w : World) : Calls Tryd.prog 57 #[.int .i64 n] w fun e w' => e = .returned (.int .i64 R) ∧ w = w' := h ▸ rclip_any n w
set_option maxRecDepth 20000 in
set_option maxHeartbeats 2000000 in
theorem rof_any (a : Option Addr) (len cap : Nat) (bs : List Int) (gain : Int) (b : Option Addr) (ln cn : Nat) (ns : List Int) (w : World) (hr : Rd .i64 w a len bs) (hb : isBits bs) (hg : 0 ≤ gain ∧ gain ≤ 127) (hn : Rd .i64 w b ln ns) (hns : ∀ z ∈ ns, -1000 ≤ z ∧ z ≤ 1000) (hL : len ≤ 100000) (hL2 : ln ≤ 100000) :
    Calls Tryd.prog 32 #[.slice a len cap, .int .i64 gain, .slice b ln cn] w (OfPost (ofL bs ns gain) len w) := by
  have HR := Lib.hid hr
  have HRL := Lib.hid hr.1
  have HN := Lib.hid hn
  have HNL := Lib.hid hn.1
  have HB := Lib.hid hb
  have HNS := Lib.hid hns
  clear hr hn hb hns
  go_enter Tryd.func32, Tryd.ntmps32
  go_wp2_with fail
  go_loop [8] (fun i => ∃ k : Nat, k ≤ ln ∧ i = .int .i64 k) (fun i => ln - (intOf i).toNat)
  case atStart => exact ⟨0, by omega, rfl⟩
  case round =>
    obtain ⟨k, hk, rfl⟩ := hrel
    by_cases hlt : k < ln
    · obtain ⟨b2, off2, ea, _, hc⟩ := HN.out.some (by omega)
      subst ea
      have ck := hc k hlt
      have hz := HNS.out (ns[k]?.getD 0) (by rw [List.getElem?_eq_getElem (by rw [HNL.out]; exact hlt)]; exact List.getElem_mem _)
      obtain ⟨z, hzz⟩ : ∃ z, ns[k]?.getD 0 = z := ⟨_, rfl⟩
      rw [hzz] at ck hz
      clear hzz hc
      obtain ⟨z1, z2⟩ := hz
      go_wp2_with fail
      go_round
      case rel => exact ⟨k + 1, by omega, by go_num⟩
      case measure => (simp [intOf] <;> omega)
    · obtain rfl : k = ln := by omega
      go_wp2_with fail
      go_loopw [9, 10] (fun o i wr => ∃ (ak : Option Addr) (ck j : Nat), j ≤ len ∧ o = .slice ak j ck ∧ i = .int .i64 j ∧ OwnI w.heap.size 3 .i64 wr ak j ck ((ofL bs ns gain).take j) ∧ Gr w wr) (fun _ i _ => len - (intOf i).toNat)
      case atStart => exact ⟨none, 0, 0, by omega, rfl, rfl, OwnI.nil _ _ _ _, Gr.refl _⟩
      case round =>
        obtain ⟨ak, ck, j, hj, rfl, rfl, ho, hgr⟩ := hrel
        have HO := Lib.hid ho
        have HG := Lib.hid hgr
        clear ho hgr
        by_cases hlt2 : j < len
        · obtain ⟨b1, off1, ea, _, hc⟩ := HR.out.some (by omega)
          subst ea
          have cj := HG.out.cell (hc j hlt2)
          have hx01 := bit_at HB.out j
          have htk := take_one (ofL bs ns gain) j (by rw [ofL_len, HRL.out]; exact hlt2)
          rw [ofL_at bs ns gain j (by rw [HRL.out]; exact hlt2)] at htk
          obtain ⟨x, hx⟩ : ∃ x, bs[j]?.getD 0 = x := ⟨_, rfl⟩
          rw [hx] at cj hx01 htk
          clear hx hc
          obtain ⟨t, ht⟩ : ∃ t, ofI gain x (nzI ns j) = t := ⟨_, rfl⟩
          rw [ht] at htk
          have htr : -127 ≤ t ∧ t ≤ 127 := by rw [← ht]; exact clipI_rng _
          have hrd := rd_new (k := .i64) (w := wr) [t] 3 (0, 0) 1 rfl (by simp [maxLen]) (by intro z hz; simp only [List.mem_singleton] at hz; subst hz; exact WalkArith.wf_i64 (by constructor <;> omega))
          obtain ⟨a9, c9, w9, hrun9, ho9, hg9, _⟩ := app_i64 w.heap.size (wr.alloc (.cells ([t].map (Value.int .i64)).toArray 3)) ak j ck _ (HO.out.stay (Gr.alloc _ _)) (some ⟨wr.heap.size, 0, none⟩) 1 1 _ hrd (by omega) (Nat.le_trans HG.out.size (by simp))
          rw [← htk] at ho9
          simp only [List.map_cons, List.map_nil] at hrun9
          have HR9 := Lib.hid hrun9
          have HO9 := Lib.hid ho9
          have HG9 := Lib.hid (grown_own (HG.out.trans (Gr.alloc _ _)) (HO.out.stay (Gr.alloc _ _)) (Nat.le_refl _) hg9)
          have HT := Lib.hid ht
          clear hrun9 ho9 hg9 hrd htk ht htr
          by_cases hjn : j < k
          · obtain ⟨b2, off2, ea, _, hcn⟩ := HN.out.some (by omega)
            subst ea
            have cn1 := HG.out.cell (hcn j hjn)
            have hz := HNS.out (ns[j]?.getD 0) (by rw [List.getElem?_eq_getElem (by rw [HNL.out]; exact hjn)]; exact List.getElem_mem _)
            have hnz : nzI ns j = ns[j]?.getD 0 := by unfold nzI; rw [if_pos (by rw [HNL.out]; exact hjn)]
            obtain ⟨z, hzz⟩ : ∃ z, ns[j]?.getD 0 = z := ⟨_, rfl⟩
            rw [hzz] at cn1 hz hnz
            have HNZ := Lib.hid hnz
            clear hzz hcn hnz
            obtain ⟨z1, z2⟩ := hz
            rcases hx01 with rfl | rfl
            · have hcl : clipI (gain + z) = t := by
                rw [← HT.out]; unfold ofI; rw [HNZ.out]; congr 1; omega
              have HCL := Lib.hid hcl
              clear hcl
              go_wp2_with fail
              refine (rclip_is HCL.out wr).mono ?_
              rintro e w' ⟨rfl, rfl⟩
              go_wp2_with (at_builtin; refine wpList_app rfl _ _ _ rfl rfl rfl HR9.out ?_)
              go_roundw
              case rel => exact ⟨a9, c9, j + 1, by omega, rfl, by go_num, HO9.out, HG9.out⟩
              case measure => (simp [intOf] <;> omega)
            · have hcl : clipI (gain - 2 * gain + z) = t := by
                rw [← HT.out]; unfold ofI; rw [HNZ.out]; congr 1; omega
              have HCL := Lib.hid hcl
              clear hcl
              go_wp2_with fail
              refine (rclip_is HCL.out wr).mono ?_
              rintro e w' ⟨rfl, rfl⟩
              go_wp2_with (at_builtin; refine wpList_app rfl _ _ _ rfl rfl rfl HR9.out ?_)
              go_roundw
              case rel => exact ⟨a9, c9, j + 1, by omega, rfl, by go_num, HO9.out, HG9.out⟩
              case measure => (simp [intOf] <;> omega)
          · have hnz : nzI ns j = 0 := by unfold nzI; rw [if_neg (by rw [HNL.out]; exact hjn)]
            have HNZ := Lib.hid hnz
            clear hnz
            rcases hx01 with rfl | rfl
            · have hcl : clipI (gain) = t := by
                rw [← HT.out]; unfold ofI; rw [HNZ.out]; congr 1; omega
              have HCL := Lib.hid hcl
              clear hcl
              go_wp2_with fail
              refine (rclip_is HCL.out wr).mono ?_
              rintro e w' ⟨rfl, rfl⟩
              go_wp2_with (at_builtin; refine wpList_app rfl _ _ _ rfl rfl rfl HR9.out ?_)
              go_roundw
              case rel => exact ⟨a9, c9, j + 1, by omega, rfl, by go_num, HO9.out, HG9.out⟩
              case measure => (simp [intOf] <;> omega)
            · have hcl : clipI (gain - 2 * gain) = t := by
                rw [← HT.out]; unfold ofI; rw [HNZ.out]; congr 1; omega
              have HCL := Lib.hid hcl
              clear hcl
              go_wp2_with fail
              refine (rclip_is HCL.out wr).mono ?_
              rintro e w' ⟨rfl, rfl⟩
              go_wp2_with (at_builtin; refine wpList_app rfl _ _ _ rfl rfl rfl HR9.out ?_)
              go_roundw
              case rel => exact ⟨a9, c9, j + 1, by omega, rfl, by go_num, HO9.out, HG9.out⟩
              case measure => (simp [intOf] <;> omega)
        · obtain rfl : j = len := by omega
          have ho := HO.out
          rw [List.take_of_length_le (by rw [ofL_len, HRL.out]; exact Nat.le_refl _)] at ho
          have HO2 := Lib.hid ho
          clear ho HO
          go_wp2_with fail
          go_ret2
          exact ⟨_, _, rfl, HO2.out, HG.out⟩
end Go.Proofs.YtcleegibdcphiaaDoor
