/- Layer 05 (packet): Udp of the program and of the reference. -/
import Derived.Test.YtmojlengjoicoaaPackH
namespace Go.Proofs.Ytmojlengjoicoaa
open Go.ChangeShapes Go.WideShapes Go.ChangeAt Go.RowKit

theorem rd_take {k : IntKind} {w : World} {a : Option Addr} {len : Nat} {xs : List Int} (h : Rd k w a len xs) (n : Nat) (hn : n ≤ len) : Rd k w a n (xs.take n) := by
  obtain ⟨h1, h2, h3, h4⟩ := h
  refine ⟨by simp; omega, fun x hx => h2 x (List.mem_of_mem_take hx), by omega, ?_⟩
  rcases h4 with h0 | ⟨b, off, e, hb, hc⟩
  · exact .inl (by omega)
  · exact .inr ⟨b, off, e, hb, fun i hi => by rw [hc i (by omega), List.getElem?_take_of_lt hi]⟩
theorem rd_at {w : World} {g len cap : Nat} {xs : List Int} (h : Rd .u8 w (some ⟨g, 0, none⟩) len xs) (N : Nat) (hN : N ≤ len) (hc : N < cap) : Rd .u8 w (some ⟨g, N, none⟩) (len - N) (xs.drop N) := by
  have := rd_from h N hN hc
  rwa [Nat.zero_add] at this
def zero26 (xs : List Int) : List Int := (xs.set 26 0).set 27 0
theorem zero26_set (xs : List Int) : setM xs 26 (putR 0 2) = zero26 xs := by rw [putR2]; rfl
theorem zero26_mid (xs : List Int) : ((zero26 xs).drop 12).take 8 = (xs.drop 12).take 8 := by
  unfold zero26
  rw [List.drop_set, if_neg (by omega), List.drop_set, if_neg (by omega), List.take_set_of_le (by omega), List.take_set_of_le (by omega)]
theorem zero26_at (xs : List Int) (i : Nat) (h : i ≠ 26) (h2 : i ≠ 27) : (zero26 xs)[i]? = xs[i]? := by
  unfold zero26
  rw [List.getElem?_set_ne (by omega), List.getElem?_set_ne (by omega)]
theorem zero26_drop (xs : List Int) : (zero26 xs).drop 20 = setM (xs.drop 20) 6 [0, 0] := by
  unfold zero26
  rw [List.drop_set, if_neg (by omega), List.drop_set, if_neg (by omega)]; rfl
theorem udpS_eq (xs : List Int) : udpS xs = if 65535 - addS (addS 0 (pseudoL xs)) ((zero26 xs).drop 20) = 0 then 65535 else 65535 - addS (addS 0 (pseudoL xs)) ((zero26 xs).drop 20) := rfl
theorem addS_rng (s : Int) (l : List Int) : 0 ≤ addS s l ∧ addS s l ≤ 65535 := by
  have := foldS_rng (foldS s + words l)
  exact this
theorem words_appendP : ∀ (l r : List Int), l.length % 2 = 0 → words (l ++ r) = words l + words r
  | [], _, _ => by simp [words]
  | [_], _, h => by simp at h
  | a :: b :: l, r, h => by
    have ih := words_appendP l r (by simp only [List.length_cons] at h; omega)
    simp only [List.cons_append, words, ih]; omega
theorem parts_lawP (s : Int) (l r : List Int) (hl : l.length % 2 = 0) (h1 : bytesOk l) (h2 : bytesOk r) : addS (addS s l) r = addS s (l ++ r) := by
  have hw := words_rng l h1
  have hw2 := words_rng r h2
  have hs := foldS_rng s
  unfold addS
  rw [foldS_foldS, foldS_add (by omega) hw2.1, words_appendP l r hl]
  congr 1; omega
theorem pseudoL_len {xs : List Int} (h : 28 ≤ xs.length) : (pseudoL xs).length = 12 := by
  unfold pseudoL; simp; omega
theorem pseudoL_bytes {xs : List Int} (h : bytesOk xs) : bytesOk (pseudoL xs) := by
  intro x hx
  unfold pseudoL at hx
  rcases List.mem_append.1 hx with hx | hx
  · exact h x (List.mem_of_mem_drop (List.mem_of_mem_take hx))
  · simp only [List.mem_cons, List.not_mem_nil, or_false] at hx
    rcases hx with rfl | rfl | rfl | rfl
    · omega
    · omega
    · exact getD_byte h 24
    · exact getD_byte h 25
theorem zero26_bytes {xs : List Int} (h : bytesOk xs) : bytesOk (zero26 xs) := by
  intro x hx
  unfold zero26 at hx
  rcases List.mem_or_eq_of_mem_set hx with hx | rfl
  · rcases List.mem_or_eq_of_mem_set hx with hx | rfl
    · exact h x hx
    · omega
  · omega
/-- The reference's sum. -/
theorem udp_sum {xs : List Int} (h : bytesOk xs) (hl : 28 ≤ xs.length) : addS 0 (setM (pseudoL xs ++ xs.drop 20) 18 [0, 0]) = addS (addS 0 (pseudoL xs)) ((zero26 xs).drop 20) := by
  rw [parts_lawP 0 _ _ (by rw [pseudoL_len hl]) (pseudoL_bytes h) (fun x hx => zero26_bytes h x (List.mem_of_mem_drop hx)), zero26_drop]
  congr 1
  have hp := pseudoL_len hl
  show ((pseudoL xs ++ xs.drop 20).set 18 0).set 19 0 = pseudoL xs ++ ((xs.drop 20).set 6 0).set 7 0
  rw [List.set_append_right _ _ (by omega), List.set_append_right _ _ (by omega), hp]
theorem pseudo_built (h : Hdr) (ys : List Int) (n : Int) (hn : n + 20 = ((headL h ++ ys).length : Int)) (h2 : 0 ≤ n) (h3 : n ≤ 65535) : ((bldL (headL h ++ ys)).drop 12).take 8 ++ [0, 17, n / 256, n % 256] = pseudoL (bldL (headL h ++ ys)) := by
  unfold pseudoL
  have e : ((headL h ++ ys).length : Int) = 28 + (tailL h ++ ys).length := by rw [headL_ex]; simp only [ex0, List.length_cons]; omega
  have hb := buildF_ex (h := h) ys
  rw [← e] at hb
  have e24 : (bldL (headL h ++ ys))[24]?.getD 0 = n / 256 := by
    rw [hb]
    show (((headL h ++ ys).length : Int) - 20) / 256 % 256 = n / 256
    omega
  have e25 : (bldL (headL h ++ ys))[25]?.getD 0 = n % 256 := by
    rw [hb]
    show (((headL h ++ ys).length : Int) - 20) % 256 = n % 256
    omega
  rw [e24, e25]
theorem udpF_no {h : Hdr} {ys : List Int} {R : Int × List Int} (hR : buildF h ys = R) (h0 : R.1 ≠ 0) : udpF h ys = (0, R.1) := by
  unfold udpF; rw [hR, if_neg h0]
theorem udpF_yes {h : Hdr} {ys : List Int} {R : Int × List Int} (hR : buildF h ys = R) (h0 : R.1 = 0) : udpF h ys = (udpS R.2, 0) := by
  unfold udpF; rw [hR, if_pos h0]
theorem buildF_zero {h : Hdr} {ys : List Int} (h0 : (buildF h ys).1 = 0) : (buildF h ys).2 = bldL (headL h ++ ys) ∧ (headL h ++ ys).length ≤ 1500 := by
  unfold buildF at h0 ⊢
  split
  · rename_i hv
    rw [if_pos hv] at h0
    split
    · rename_i hb; rw [if_pos hb] at h0; simp at h0
    · rename_i hb; exact ⟨rfl, by omega⟩
  · rename_i hv; rw [if_neg hv] at h0; simp at h0
theorem add_is {a : Option Addr} {len cap : Nat} {bs : List Int} {s v : Int} (hv : addS s bs = v) (w : World) (hr : Rd .u8 w a len bs) (hL : len ≤ 100000) (hs : s ≤ 65535) :
    Calls Try.prog 69 #[.int .i64 s, .slice a len cap] w fun e w' => e = .returned (.int .i64 v) ∧ w = w' := hv ▸ add_any s a len cap bs w hr (by omega) (by omega)
set_option maxRecDepth 100000 in
set_option maxHeartbeats 2000000 in
theorem udp_any (h : Hdr) (a : Option Addr) (m c : Nat) (ys : List Int) (w : World) (ho : HOk h) (hr : Rd .u8 w a m ys) (hm : m ≤ 140737488351232) : Calls Try.prog 47 #[HVal h, .slice a m c] w fun e w' => e = .returned (.tuple #[.int .i64 (udpF h ys).1, .int .i64 (udpF h ys).2]) ∧ Gr w w' := by
  obtain ⟨R, hR⟩ : ∃ R, buildF h ys = R := ⟨_, rfl⟩
  obtain ⟨U, hU⟩ : ∃ U, udpF h ys = U := ⟨_, rfl⟩
  rw [hU]
  have HU := Lib.hid hU
  have HRF := Lib.hid hR
  have HO := Lib.hid ho
  have HR := Lib.hid hr
  clear hR ho hr hU
  go_enter Try.func47, Try.ntmps47
  go_upto_region 1 with (fail)
  obtain ⟨w1, hw1⟩ : ∃ y, y = w.alloc (.cells (HCells h).toArray 29) := ⟨_, rfl⟩
  have hb1 : HBlk w.heap.size h w1 := by rw [hw1]; exact heap_alloc_new _ _
  have hg1 : Gr w w1 := by rw [hw1]; exact Gr.alloc _ _
  simp only [HCells] at hw1
  rw [← hw1]
  unfold HBlk at hb1
  have HB1' := Lib.hid hb1
  have HG1 := Lib.hid hg1
  clear hw1 hb1 hg1
  go_wp2_with (first | (refine wpList_load_row rfl 29 _ rfl w.heap.size rfl 29 _ _ _ HB1'.out Try.underlying29 rfl (by kernel_rfl) ?_))
  refine (build_any h a m c ys w1 HO.out (HR.out.kept HG1.out) hm).mono ?_
  rintro e w2 ⟨a2, n, c2, rfl, hn, hby⟩
  rw [HRF.out] at hn hby ⊢
  have H2 := Lib.hid (show BytI w a2 n c2 R.2 w2 from ⟨hby.1.weak HG1.out.size, HG1.out.trans hby.2⟩)
  have HN := Lib.hid hn
  clear hn hby HB1' HG1
  by_cases hre : R.1 = 0
  rotate_left
  · have hre1 : (R.1 == 0) = false := by simpa using hre
    have hre2 : (R.1 != 0) = true := by simpa using hre
    have HE := Lib.hid (udpF_no HRF.out hre)
    clear hre
    go_wp2_with fail
    go_ret2
    have e := HE.out
    rw [HU.out] at e
    rw [e]
    exact ⟨rfl, H2.out.2⟩
  · have hre1 : (R.1 == 0) = true := by simpa using hre
    have hre2 : (R.1 != 0) = false := by simpa using hre
    have HE := Lib.hid (udpF_yes HRF.out hre)
    obtain ⟨hx, hle⟩ := buildF_zero (h := h) (ys := ys) (by rw [HRF.out]; exact hre)
    rw [HRF.out] at hx
    obtain ⟨xs, hxs⟩ : ∃ xs, R.2 = xs := ⟨_, rfl⟩
    have hx2 : bldL (headL h ++ ys) = xs := by rw [← hx, hxs]
    have hlx : xs.length = n := by rw [← hxs]; exact HN.out.symm
    have hl28 : 28 ≤ n := by rw [← hlx, ← hx2, bldL_len, List.length_append, headL_len]; split <;> omega
    have hl15 : n ≤ 1500 := by rw [← hlx, ← hx2, bldL_len]; exact hle
    have h2 := H2.out
    rw [hxs] at h2
    obtain ⟨g, hg, _⟩ := h2.1.some (by omega)
    subst hg
    have hc2 : n ≤ c2 := h2.1.le_cap
    have HXS := Lib.hid hxs
    have HX2 := Lib.hid hx2
    have HLX := Lib.hid hlx
    have H3 := Lib.hid h2
    clear hre hx hle hxs hx2 hlx h2 H2 HN
    go_wp2_with fail
    refine (H3.out.put 26 2 26 2 0 rfl rfl (by omega) (by omega) (by constructor <;> omega)).mono ?_
    rintro e w3 ⟨rfl, hb3⟩
    rw [zero26_set] at hb3
    have H4 := Lib.hid hb3
    have hbz := hb3.1.rd.bytes
    obtain ⟨p1, p2⟩ := getD_byte hbz 24
    obtain ⟨q1, q2⟩ := getD_byte hbz 25
    obtain ⟨y24, e24⟩ : ∃ y, (zero26 xs)[24]?.getD 0 = y := ⟨_, rfl⟩
    obtain ⟨y25, e25⟩ : ∃ y, (zero26 xs)[25]?.getD 0 = y := ⟨_, rfl⟩
    have l24 : ∀ u, Gr w3 u → u.cell? ⟨g, 24, none⟩ = some (.int .u8 y24) := fun u hu => by rw [← e24]; exact ((hb3.gr hu).1.at 24 (by omega)).1
    have l25 : ∀ u, Gr w3 u → u.cell? ⟨g, 25, none⟩ = some (.int .u8 y25) := fun u hu => by rw [← e25]; exact ((hb3.gr hu).1.at 25 (by omega)).1
    rw [e24] at p1 p2
    rw [e25] at q1 q2
    have HPS := Lib.hid (show ((zero26 xs).drop 12).take 8 ++ [0, 17, y24, y25] = pseudoL xs by
      rw [zero26_mid, pseudoL, ← e24, ← e25, zero26_at xs 24 (by omega) (by omega), zero26_at xs 25 (by omega) (by omega)])
    have HRD := Lib.hid (rd_take (rd_at hb3.1.rd 12 (by omega) (by omega : 12 < c2)) 8 (by omega))
    have HRD20 := Lib.hid (rd_at hb3.1.rd 20 (by omega) (by omega : 20 < c2))
    have h12 : 12 < c2 := by omega
    have h20 : 20 ≤ c2 := by omega
    have hne12 : ¬ c2 = 12 := by omega
    have hne20 : ¬ c2 = 20 := by omega
    have hz3 := H3.out.2.size
    clear hb3 hbz e24 e25 H3
    go_upto_region 5 with (fail)
    refine Sched.wp_region_sched 10 [] [2, 9] (by kernel_rfl) (by kernel_rfl) ?_
    simp only [List.take_succ_cons, List.take_zero, List.drop_succ_cons, List.drop_zero]
    repeat (first | (refine Sched.walk1_no rfl rfl (fun K hK => ?_); simp only [Act.put, List.setIfInBounds_toArray, List.set_cons_zero, List.set_cons_succ]; refine hK _ ?_; clear hK K) | (refine Sched.walk1_gr rfl rfl rfl (fun K hK => ?_); apply Exists.intro; refine ⟨fun w1 hw1 => ?_, ?_⟩; (focus (go_simp; (try go_ints); (try (simp only [IntWalk.iteOmega]; go_simp)); first | done | fail | (with_reducible rfl) | (with_reducible exact ⟨rfl, rfl⟩))); simp only [Act.put, List.setIfInBounds_toArray, List.set_cons_zero, List.set_cons_succ]; refine hK _ ?_; clear hK K) | (refine Sched.walk1_pure rfl rfl rfl (fun K hK => ?_); apply Exists.intro; refine ⟨fun w1 => ?_, ?_⟩; (focus (go_simp; (try go_ints); (try (simp only [IntWalk.iteOmega]; go_simp)); first | done | (with_reducible rfl) | (with_reducible exact ⟨rfl, rfl⟩))); simp only [Act.put, List.setIfInBounds_toArray, List.set_cons_zero, List.set_cons_succ]; refine hK _ ?_; clear hK K) | (refine Sched.walk1_box rfl rfl ?_; apply Exists.intro; refine ⟨fun w1 hw1 => ?_, ?_⟩; (focus (go_simp; exact ⟨Gr.alloc _ _, rfl, by simp, heap_alloc_new _ _⟩))))
    refine Sched.walk1_new (NOwn w3.heap.size (((zero26 xs).drop 12).take 8)) rfl rfl (NOwn.stable _ _) (fun u hu => ?_) ?_
    · go_simp
      go_at_call 64
      refine (clone_any _ 8 _ _ u (HRD.out.kept hu) (by omega)).mono ?_
      rintro e w8 ⟨a8, c8, rfl, ho8, hgr⟩
      exact ⟨_, rfl, hgr, a8, _, c8, rfl, ho8.weak hu.size⟩
    repeat (first | (refine Sched.walk1_no rfl rfl (fun K hK => ?_); simp only [Act.put, List.setIfInBounds_toArray, List.set_cons_zero, List.set_cons_succ]; refine hK _ ?_; clear hK K) | (refine Sched.walk1_gr rfl rfl rfl (fun K hK => ?_); apply Exists.intro; refine ⟨fun w1 hw1 => ?_, ?_⟩; (focus (go_simp; (try go_ints); (try (simp only [IntWalk.iteOmega]; go_simp)); first | done | fail | (with_reducible rfl) | (with_reducible exact ⟨rfl, rfl⟩))); simp only [Act.put, List.setIfInBounds_toArray, List.set_cons_zero, List.set_cons_succ]; refine hK _ ?_; clear hK K) | (refine Sched.walk1_pure rfl rfl rfl (fun K hK => ?_); apply Exists.intro; refine ⟨fun w1 => ?_, ?_⟩; (focus (go_simp; (try go_ints); (try (simp only [IntWalk.iteOmega]; go_simp)); first | done | (with_reducible rfl) | (with_reducible exact ⟨rfl, rfl⟩))); simp only [Act.put, List.setIfInBounds_toArray, List.set_cons_zero, List.set_cons_succ]; refine hK _ ?_; clear hK K) | (refine Sched.walk1_box rfl rfl ?_; apply Exists.intro; refine ⟨fun w1 hw1 => ?_, ?_⟩; (focus (go_simp; exact ⟨Gr.alloc _ _, rfl, by simp, heap_alloc_new _ _⟩))))
    refine Sched.walk1_new (NRow1 (fun lo => .slice (some ⟨lo, 0, none⟩) 4 4) (.cells #[.int .u8 0, .int .u8 17, .int .u8 y24, .int .u8 y25] 5)) rfl rfl (NRow1.stable _ _) (fun u hu => ?_) ?_
    · go_simp
      exact ⟨Gr.alloc _ _, rfl, by simp, heap_alloc_new _ _⟩
    refine Sched.walk1_nil ?_
    intro wq hwq
    dsimp only [Sched.EndN, List.nil_append, List.cons_append, Act.put]
    rintro - - v5 ⟨a5, n5, c5, rfl, ho5⟩ - - - - lo hi v9 ⟨rfl, hlt, hblk⟩ - - - -
    (try simp only [List.setIfInBounds_toArray, List.set_cons_zero, List.set_cons_succ])
    obtain rfl : n5 = 8 := by
      have := ho5.len
      rw [← this]; simp [zero26, HLX.out]; omega
    have hrd : Rd .u8 wq (some ⟨lo, 0, none⟩) 4 [0, 17, y24, y25] := ⟨rfl, by
      intro z hz
      simp only [List.mem_cons, List.not_mem_nil, or_false] at hz
      rcases hz with rfl | rfl | rfl | rfl <;> exact WalkArith.wf_u8 (by omega), by simp [maxLen], .inr ⟨lo, 0, rfl, heap_lt hblk, fun i hi => by
      rw [cell_of_block hblk]
      obtain rfl | rfl | rfl | rfl : i = 0 ∨ i = 1 ∨ i = 2 ∨ i = 3 := by omega
      · rfl
      · rfl
      · rfl
      · rfl⟩⟩
    have hB5 : BytI w a5 8 c5 (((zero26 xs).drop 12).take 8) wq := ⟨ho5.weak H4.out.2.size, H4.out.2.trans hwq⟩
    obtain ⟨a6, c6, w6, hrun, ho6, hg6, _⟩ := app_u8 w.heap.size wq a5 8 c5 _ hB5.1 (some ⟨lo, 0, none⟩) 4 4 _ hrd (by omega) hB5.2.size
    rw [HPS.out] at ho6
    have hglt : g < w3.heap.size := (H4.out.1.below g rfl).2
    have hr20 := rd_keptBut (HRD20.out.kept hwq) hg6 (fun b off _ e he => by
      have := (ho5.below b he.symm).1
      injection e with e
      injection e with e
      omega)
    have H6 := Lib.hid (show BytI w a6 12 c6 (pseudoL xs) w6 from hB5.turn ho6 hg6)
    have HR20 := Lib.hid hr20
    have HR6 := Lib.hid H6.out.1.rd
    clear ho6 hg6 hglt hr20 hB5 hrd ho5 hblk hlt hwq l24 l25 HRD HRD20 H4 HPS p1 p2 q1 q2 hz3
    refine Sched.walk2_app rfl _ _ _ rfl rfl rfl hrun ?_
    clear hrun
    dsimp only [Act.put]
    (try simp only [List.setIfInBounds_toArray, List.set_cons_zero, List.set_cons_succ])
    repeat (first | (refine Sched.walk2_no rfl (fun K hK => ?_); simp only [Act.put, List.setIfInBounds_toArray, List.set_cons_zero, List.set_cons_succ]; refine hK _ ?_; clear hK K) | (refine Sched.walk2_go rfl (fun K hK => ?_); go_simp; (try go_ints); (try (simp only [IntWalk.iteOmega]; go_simp)); first | (refine hK _ _ ?_; clear hK K) | fail))
    refine Sched.walk2_nil ?_
    obtain ⟨s1, hs1⟩ : ∃ s, addS 0 (pseudoL xs) = s := ⟨_, rfl⟩
    obtain ⟨s2, hs2⟩ : ∃ s, addS s1 ((zero26 xs).drop 20) = s := ⟨_, rfl⟩
    have r1 := addS_rng 0 (pseudoL xs)
    have r2 := addS_rng s1 ((zero26 xs).drop 20)
    rw [hs1] at r1
    rw [hs2] at r2
    obtain ⟨r11, r12⟩ := r1
    obtain ⟨r21, r22⟩ := r2
    have HS1 := Lib.hid hs1
    have HS2 := Lib.hid hs2
    have HUS := Lib.hid (udpS_eq xs)
    clear hs1 hs2
    go_upto_region 6 with (fail)
    refine Sched.wp_region_sched 7 [] [] (by kernel_rfl) (by kernel_rfl) ?_
    simp only [List.take_succ_cons, List.take_zero, List.drop_succ_cons, List.drop_zero]
    repeat (first | (refine Sched.walk1_no rfl rfl (fun K hK => ?_); simp only [Act.put, List.setIfInBounds_toArray, List.set_cons_zero, List.set_cons_succ]; refine hK _ ?_; clear hK K) | (refine Sched.walk1_gr rfl rfl rfl (fun K hK => ?_); apply Exists.intro; refine ⟨fun w1 hw1 => ?_, ?_⟩; (focus (go_simp; (try go_ints); (try (simp only [IntWalk.iteOmega]; go_simp)); first | done | ((go_at_call 69; (with_reducible exact gr_same (add_is HS1.out _ (rd_gr HR6.out hw1) (by omega) (by omega))))) | ((go_at_call 69; (with_reducible exact gr_same (add_is HS2.out _ (rd_gr HR20.out hw1) (by omega) (by omega))))) | (with_reducible rfl) | (with_reducible exact ⟨rfl, rfl⟩))); simp only [Act.put, List.setIfInBounds_toArray, List.set_cons_zero, List.set_cons_succ]; refine hK _ ?_; clear hK K) | (refine Sched.walk1_pure rfl rfl rfl (fun K hK => ?_); apply Exists.intro; refine ⟨fun w1 => ?_, ?_⟩; (focus (go_simp; (try go_ints); (try (simp only [IntWalk.iteOmega]; go_simp)); first | done | (with_reducible rfl) | (with_reducible exact ⟨rfl, rfl⟩))); simp only [Act.put, List.setIfInBounds_toArray, List.set_cons_zero, List.set_cons_succ]; refine hK _ ?_; clear hK K) | (refine Sched.walk1_box rfl rfl ?_; apply Exists.intro; refine ⟨fun w1 hw1 => ?_, ?_⟩; (focus (go_simp; exact ⟨Gr.alloc _ _, rfl, by simp, heap_alloc_new _ _⟩))))
    refine Sched.walk1_nil ?_
    intro wq hwq
    dsimp only [Sched.EndN, List.nil_append, List.cons_append, Act.put]
    (try simp only [List.setIfInBounds_toArray, List.set_cons_zero, List.set_cons_succ])
    repeat (first | (refine Sched.walk2_no rfl (fun K hK => ?_); simp only [Act.put, List.setIfInBounds_toArray, List.set_cons_zero, List.set_cons_succ]; refine hK _ ?_; clear hK K) | (refine Sched.walk2_go rfl (fun K hK => ?_); go_simp; (try go_ints); (try (simp only [IntWalk.iteOmega]; go_simp)); first | (refine hK _ _ ?_; clear hK K) | fail))
    refine Sched.walk2_nil ?_
    have HQ := Lib.hid (H6.out.2.trans hwq)
    clear hwq
    by_cases hz : 65535 - s2 = 0
    · have hzb : (65535 - s2 == 0) = true := by simpa using hz
      have HZ := Lib.hid hz
      clear hz
      go_wp2_with fail
      go_ret2
      have e := HE.out
      rw [HU.out, HXS.out, HUS.out, HS1.out, HS2.out, if_pos HZ.out] at e
      rw [e]
      exact ⟨rfl, HQ.out⟩
    · have hzb : (65535 - s2 == 0) = false := by simpa using hz
      have HZ := Lib.hid hz
      clear hz
      go_wp2_with fail
      go_ret2
      have e := HE.out
      rw [HU.out, HXS.out, HUS.out, HS1.out, HS2.out, if_neg HZ.out] at e
      rw [e]
      exact ⟨rfl, HQ.out⟩
theorem rsum_is {a : Option Addr} {len cap : Nat} {bs : List Int} {v : Int} (hv : addS 0 bs = v) (w : World) (hr : Rd .u8 w a len bs) (hL : len ≤ 100000) :
    Calls Try.prog 53 #[.slice a len cap] w fun e w' => e = .returned (.int .i64 (65535 - v)) ∧ w = w' := hv ▸ rsum_any a len cap bs w hr (by omega)
set_option maxRecDepth 100000 in
set_option maxHeartbeats 2000000 in
theorem rudp_any (h : Hdr) (a : Option Addr) (m c : Nat) (ys : List Int) (w : World) (hr : Rd .u8 w a m ys) (hm : m ≤ 140737488351232) : Calls Try.prog 48 #[HVal h, .slice a m c] w fun e w' => e = .returned (.tuple #[.int .i64 (udpF h ys).1, .int .i64 (udpF h ys).2]) ∧ Gr w w' := by
  obtain ⟨R, hR⟩ : ∃ R, buildF h ys = R := ⟨_, rfl⟩
  obtain ⟨U, hU⟩ : ∃ U, udpF h ys = U := ⟨_, rfl⟩
  rw [hU]
  have HU := Lib.hid hU
  have HRF := Lib.hid hR
  have HR := Lib.hid hr
  clear hR hr hU
  go_enter Try.func48, Try.ntmps48
  go_upto_region 1 with (fail)
  obtain ⟨w1, hw1⟩ : ∃ y, y = w.alloc (.cells (HCells h).toArray 29) := ⟨_, rfl⟩
  have hb1 : HBlk w.heap.size h w1 := by rw [hw1]; exact heap_alloc_new _ _
  have hg1 : Gr w w1 := by rw [hw1]; exact Gr.alloc _ _
  simp only [HCells] at hw1
  rw [← hw1]
  unfold HBlk at hb1
  have HB1' := Lib.hid hb1
  have HG1 := Lib.hid hg1
  clear hw1 hb1 hg1
  go_wp2_with (first | (refine wpList_load_row rfl 29 _ rfl w.heap.size rfl 29 _ _ _ HB1'.out Try.underlying29 rfl (by kernel_rfl) ?_))
  refine (rbuild_any h a m c ys w1 (HR.out.kept HG1.out) hm).mono ?_
  rintro e w2 ⟨a2, n, c2, rfl, hn, hby⟩
  rw [HRF.out] at hn hby ⊢
  have H2 := Lib.hid (show BytI w a2 n c2 R.2 w2 from ⟨hby.1.weak HG1.out.size, HG1.out.trans hby.2⟩)
  have HN := Lib.hid hn
  clear hn hby HB1' HG1
  by_cases hre : R.1 = 0
  rotate_left
  · have hre1 : (R.1 == 0) = false := by simpa using hre
    have hre2 : (R.1 != 0) = true := by simpa using hre
    have HE := Lib.hid (udpF_no HRF.out hre)
    clear hre
    go_wp2_with fail
    go_ret2
    have e := HE.out
    rw [HU.out] at e
    rw [e]
    exact ⟨rfl, H2.out.2⟩
  · have hre1 : (R.1 == 0) = true := by simpa using hre
    have hre2 : (R.1 != 0) = false := by simpa using hre
    have HE := Lib.hid (udpF_yes HRF.out hre)
    obtain ⟨hx, hle⟩ := buildF_zero (h := h) (ys := ys) (by rw [HRF.out]; exact hre)
    rw [HRF.out] at hx
    obtain ⟨xs, hxs⟩ : ∃ xs, R.2 = xs := ⟨_, rfl⟩
    have hx2 : bldL (headL h ++ ys) = xs := by rw [← hx, hxs]
    have hlx : xs.length = n := by rw [← hxs]; exact HN.out.symm
    have hl28 : 28 ≤ n := by rw [← hlx, ← hx2, bldL_len, List.length_append, headL_len]; split <;> omega
    have hl15 : n ≤ 1500 := by rw [← hlx, ← hx2, bldL_len]; exact hle
    have h2 := H2.out
    rw [hxs] at h2
    obtain ⟨g, hg, _⟩ := h2.1.some (by omega)
    subst hg
    have hc2 : n ≤ c2 := h2.1.le_cap
    obtain ⟨d, hd⟩ : ∃ d : Nat, n = d + 20 := ⟨n - 20, by omega⟩
    subst hd
    have hps := pseudo_built h ys d (by rw [← bldL_len, hx2, hlx]; omega) (by omega) (by omega)
    rw [hx2] at hps
    have hus := udp_sum h2.1.rd.bytes (by omega)
    have hun := udpS_eq xs
    have HXS := Lib.hid hxs
    have HX2 := Lib.hid hx2
    have HLX := Lib.hid hlx
    have HPS := Lib.hid hps
    have HUSM := Lib.hid hus
    have HUS := Lib.hid hun
    have H3 := Lib.hid h2
    have h12 : 12 < c2 := by omega
    have h20 : 20 < c2 := by omega
    have hne12 : ¬ c2 = 12 := by omega
    have hne20 : ¬ c2 = 20 := by omega
    have hrd := rd_take (rd_at h2.1.rd 12 (by omega) h12) 8 (by omega)
    obtain ⟨a4, c4, w4, hrun4, ho4, hg4, _⟩ := app_u8_nil w2.heap.size w2 (some ⟨g, 12, none⟩) 8 (c2 - 12) _ hrd (by omega) (Nat.le_refl _)
    have HRUN4 := Lib.hid hrun4
    have HRD20 := Lib.hid ((rd_at h2.1.rd 20 (by omega) h20).kept hg4)
    have H4 := Lib.hid (show BytI w a4 8 c4 ((xs.drop 12).take 8) w4 from ⟨ho4.weak H2.out.2.size, H2.out.2.trans hg4⟩)
    have HNE4 := Lib.hid (fun (g' : Nat) (he : (Value.slice a4 8 c4).ownBlock = some g') => show g < g' by
      have := (ho4.below g' he).1
      have := (h2.1.below g rfl).2
      omega)
    clear hre hx hle hxs hx2 hlx h2 H2 HN hrd hrun4 ho4 hg4 hps hus hun
    have hrd2 := rd_new (k := .u8) (w := w4) [0, 17, (d : Int) / 256, (d : Int) % 256] 5 (0, 0) 4 rfl (by simp [maxLen]) (by
      intro z hz
      simp only [List.mem_cons, List.not_mem_nil, or_false] at hz
      rcases hz with rfl | rfl | rfl | rfl <;> exact WalkArith.wf_u8 (by omega))
    have hal : Gr w4 (w4.alloc (.cells ([0, 17, (d : Int) / 256, (d : Int) % 256].map (Value.int .u8)).toArray 5)) := Gr.alloc _ _
    have h4a := H4.out.gr hal
    obtain ⟨a5, c5, w5, hrun5, ho5, hg5, hf5⟩ := app_u8 w.heap.size _ a4 8 c4 _ h4a.1 (some ⟨w4.heap.size, 0, none⟩) 4 4 _ hrd2 (by omega) h4a.2.size
    have hglt : g < w4.heap.size := by
      obtain ⟨b, off, e, hb, _⟩ := HRD20.out.some (by omega)
      injection e with e
      injection e with e
      omega
    have hr205 := rd_keptBut (HRD20.out.kept hal) hg5 (fun b off _ e he => by
      have := HNE4.out b he.symm
      injection e with e
      injection e with e
      omega)
    have hne5 : ∀ g', (Value.slice a5 (8 + 4) c5).ownBlock = some g' → g ≠ g' := by
      intro g' he
      rcases hf5 with h | ⟨g2, h, hg2⟩
      · rw [h] at he; have := HNE4.out g' he; omega
      · rw [h] at he; injection he with he; simp at hg2; omega
    rw [HPS.out] at ho5
    have h5 := h4a.turn ho5 hg5
    simp only [List.map_cons, List.map_nil] at hrun5
    have HRUN5 := Lib.hid hrun5
    obtain ⟨a6, c6, w6, hrun6, hb6⟩ := h5.app (some ⟨g, 20, none⟩) d (c2 - 20) _ (12 + d) (by omega) (by have := hr205; rwa [show d + 20 - 20 = d by omega] at this) (by omega)
    obtain ⟨g6, hg6, _⟩ := hb6.1.some (by omega)
    subst hg6
    have HRUN6 := Lib.hid hrun6
    have H6 := Lib.hid hb6
    clear hrun5 hrun6 hb6 h5 hne5 hr205 hglt ho5 hg5 hf5 h4a hal hrd2 HPS HRD20 HNE4
    have hq : ((d + 20 : Nat) : Int) - 20 = d := by omega
    go_upto_region 6 with (at_builtin; refine wpList_app rfl _ _ _ rfl rfl rfl HRUN4.out ?_)
    clear HRUN4
    go_upto_region 7 with (at_builtin; refine wpList_app rfl _ _ _ rfl rfl rfl HRUN5.out ?_)
    clear HRUN5
    have hdd : d + 20 - 20 = d := by omega
    go_upto_region 8 with (at_builtin; refine wpList_app rfl _ _ _ rfl rfl rfl HRUN6.out ?_)
    clear HRUN6
    go_wp2_with fail
    refine (H6.out.set 18 18 0 rfl (by omega) (by omega) (by omega) (by omega)).mono ?_
    rintro e w7 ⟨rfl, hb7⟩
    have hz2 : putR 0 2 = [0, 0] := by rw [putR2]; rfl
    rw [hz2] at hb7
    have H7 := Lib.hid hb7.2
    obtain ⟨s2, hs2⟩ : ∃ s, addS (addS 0 (pseudoL xs)) ((zero26 xs).drop 20) = s := ⟨_, rfl⟩
    have r2 := addS_rng (addS 0 (pseudoL xs)) ((zero26 xs).drop 20)
    rw [hs2] at r2
    obtain ⟨r21, r22⟩ := r2
    have HS2 := Lib.hid hs2
    have hs3 : addS 0 (setM (pseudoL xs ++ xs.drop 20) 18 [0, 0]) = s2 := by rw [HUSM.out, hs2]
    have HS3 := Lib.hid hs3
    have HR7 := Lib.hid hb7.1.rd
    clear hb7 hz2 hs2 hs3 H6
    go_wp2_with fail
    refine (rsum_is HS3.out w7 HR7.out (by omega)).mono ?_
    rintro e w' ⟨rfl, rfl⟩
    by_cases hz : 65535 - s2 = 0
    · have hzb : (65535 - s2 == 0) = true := by simpa using hz
      have HZ := Lib.hid hz
      clear hz
      go_wp2_with fail
      go_ret2
      have e := HE.out
      rw [HU.out, HXS.out, HUS.out, HS2.out, if_pos HZ.out] at e
      rw [e]
      exact ⟨rfl, H7.out⟩
    · have hzb : (65535 - s2 == 0) = false := by simpa using hz
      have HZ := Lib.hid hz
      clear hz
      go_wp2_with fail
      go_ret2
      have e := HE.out
      rw [HU.out, HXS.out, HUS.out, HS2.out, if_neg HZ.out] at e
      rw [e]
      exact ⟨rfl, H7.out⟩
end Go.Proofs.Ytmojlengjoicoaa
