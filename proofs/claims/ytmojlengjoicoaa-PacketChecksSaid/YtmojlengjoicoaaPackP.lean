/- Layer 05 (packet), plain: what Head, Build, Parse and Udp compute, and what follows of it. -/
import Derived.Test.YtmojlengjoicoaaPackB
import Derived.Test.YtmojlengjoicoaaFlowQ
namespace Go.Proofs.Ytmojlengjoicoaa
open Go.ChangeShapes Go.WideShapes Go.ChangeAt Go.RowKit

def headL (h : Hdr) : List Int := [69, h.tos, 0, 0] ++ (putR h.id 2 ++ ([64 * h.fixed, 0, h.ttl, 17, 0, 0] ++ (putR h.frm 4 ++ (putR h.to 4 ++ (putR h.fport 2 ++ (putR h.tport 2 ++ ([0, 0] ++ (putR h.check 2 ++ (if h.kind = 2 then [128, 128 * h.marker + h.type] ++ (putR h.seq 2 ++ (putR h.time 4 ++ putR h.source 4)) else [])))))))))
def tailL (h : Hdr) : List Int := if h.kind = 2 then [128, 128 * h.marker + h.type] ++ (putR h.seq 2 ++ (putR h.time 4 ++ putR h.source 4)) else []
def put2 (xs : List Int) : List Int := setM (setM xs 2 (putR xs.length 2)) 24 (putR ((xs.length : Int) - 20) 2)
def bldL (xs : List Int) : List Int := setM (put2 xs) 10 (putR (65535 - addS 0 ((put2 xs).take 20)) 2)
def buildF (h : Hdr) (ys : List Int) : Int × List Int :=
  if validH h then (if 1500 < (headL h ++ ys).length then (2, []) else (0, bldL (headL h ++ ys))) else (1, [])
def rtpB (xs : List Int) : Bool := decide (40 ≤ xs.length) && decide (xs[28]?.getD 0 = 128)
def parse0 (xs : List Int) : Hdr := ⟨1, xs[1]?.getD 0, getN xs 4 2, xs[6]?.getD 0 / 64 % 2, xs[8]?.getD 0, getN xs 12 4, getN xs 16 4, getN xs 20 2, getN xs 22 2, getN xs 26 2, 0, 0, 0, 0, 0⟩
def parse1 (xs : List Int) : Hdr := ⟨2, xs[1]?.getD 0, getN xs 4 2, xs[6]?.getD 0 / 64 % 2, xs[8]?.getD 0, getN xs 12 4, getN xs 16 4, getN xs 20 2, getN xs 22 2, getN xs 26 2, xs[29]?.getD 0 / 128, xs[29]?.getD 0 % 128, getN xs 30 2, getN xs 32 4, getN xs 36 4⟩
def parseH (xs : List Int) : Hdr := if rtpB xs then parse1 xs else parse0 xs
def parseN (xs : List Int) : Nat := if rtpB xs then 40 else 28
def parseF (xs : List Int) : Hdr × List Int × Int :=
  if xs.length < 28 ∨ 1500 < xs.length then (zeroH, [], 2)
  else if (buildF (parseH xs) (xs.drop (parseN xs))).2 = xs then (parseH xs, xs.drop (parseN xs), 0) else (zeroH, [], 4)
def pseudoL (xs : List Int) : List Int := (xs.drop 12).take 8 ++ [0, 17, xs[24]?.getD 0, xs[25]?.getD 0]
def udpS (xs : List Int) : Int := let s := 65535 - addS (addS 0 (pseudoL xs)) ((setM xs 26 [0, 0]).drop 20); if s = 0 then 65535 else s
def udpF (h : Hdr) (ys : List Int) : Int × Int := if (buildF h ys).1 = 0 then (udpS (buildF h ys).2, 0) else (0, (buildF h ys).1)

/-! ### forms -/
def ex (h : Hdr) (n s : Int) (r : List Int) : List Int :=
  69 :: h.tos :: n / 256 % 256 :: n % 256 :: h.id / 256 % 256 :: h.id % 256 :: 64 * h.fixed :: 0 :: h.ttl :: 17 :: s / 256 % 256 :: s % 256 ::
  h.frm / 16777216 % 256 :: h.frm / 65536 % 256 :: h.frm / 256 % 256 :: h.frm % 256 :: h.to / 16777216 % 256 :: h.to / 65536 % 256 :: h.to / 256 % 256 :: h.to % 256 ::
  h.fport / 256 % 256 :: h.fport % 256 :: h.tport / 256 % 256 :: h.tport % 256 :: (n - 20) / 256 % 256 :: (n - 20) % 256 :: h.check / 256 % 256 :: h.check % 256 :: r
def ex0 (h : Hdr) (r : List Int) : List Int :=
  69 :: h.tos :: 0 :: 0 :: h.id / 256 % 256 :: h.id % 256 :: 64 * h.fixed :: 0 :: h.ttl :: 17 :: 0 :: 0 ::
  h.frm / 16777216 % 256 :: h.frm / 65536 % 256 :: h.frm / 256 % 256 :: h.frm % 256 :: h.to / 16777216 % 256 :: h.to / 65536 % 256 :: h.to / 256 % 256 :: h.to % 256 ::
  h.fport / 256 % 256 :: h.fport % 256 :: h.tport / 256 % 256 :: h.tport % 256 :: 0 :: 0 :: h.check / 256 % 256 :: h.check % 256 :: r
def ext (h : Hdr) : List Int := [128, 128 * h.marker + h.type, h.seq / 256 % 256, h.seq % 256, h.time / 16777216 % 256, h.time / 65536 % 256, h.time / 256 % 256, h.time % 256,
  h.source / 16777216 % 256, h.source / 65536 % 256, h.source / 256 % 256, h.source % 256]
theorem putR2 (x : Int) : putR x 2 = [x / 256 % 256, x % 256] := by simp [putR]
theorem putR4 (x : Int) : putR x 4 = [x / 16777216 % 256, x / 65536 % 256, x / 256 % 256, x % 256] := by simp [putR]
theorem tailL_ex (h : Hdr) : tailL h = if h.kind = 2 then ext h else [] := by simp only [tailL, putR2, putR4]; rfl
theorem headL_ex (h : Hdr) (ys : List Int) : headL h ++ ys = ex0 h (tailL h ++ ys) := by
  simp only [headL, putR2, putR4, ex0, tailL, List.cons_append, List.nil_append]
theorem tailL_len (h : Hdr) : (tailL h).length = if h.kind = 2 then 12 else 0 := by
  rw [tailL_ex]; split <;> rfl
theorem headL_len (h : Hdr) : (headL h).length = if h.kind = 2 then 40 else 28 := by
  have := congrArg List.length (headL_ex h [])
  simp only [List.append_nil, ex0, List.length_cons, tailL_len] at this
  rw [this]; split <;> rfl
/-- What is written in the sum's place. -/
def sumOf (h : Hdr) (n : Int) : Int := 65535 - addS 0 ((ex h n 0 []).take 20)
theorem put2_ex (h : Hdr) (r : List Int) : put2 (ex0 h r) = ex h (28 + r.length) 0 r := by
  have e : ((ex0 h r).length : Int) = 28 + r.length := by simp [ex0]; omega
  simp only [put2, e, putR2]
  rfl
theorem bldL_ex (h : Hdr) (r : List Int) : bldL (ex0 h r) = ex h (28 + r.length) (sumOf h (28 + r.length)) r := by
  have e : (ex h (28 + r.length) 0 r).take 20 = (ex h (28 + r.length) 0 []).take 20 := rfl
  simp only [bldL, put2_ex, e, putR2, sumOf]
  rfl
theorem words20 (h : Hdr) (n s : Int) (r : List Int) (hs : 0 ≤ s ∧ s ≤ 65535) : words ((ex h n s r).take 20) = words ((ex h n 0 []).take 20) + s := by
  simp only [ex, List.take_succ_cons, List.take_zero, words]
  omega
theorem sum_rng (h : Hdr) (n : Int) : 0 ≤ sumOf h n ∧ sumOf h n ≤ 65535 := by
  have := foldS_rng (foldS 0 + words ((ex h n 0 []).take 20))
  unfold sumOf addS; omega
theorem inB_rng {n m : Int} (h : inB n m = true) : 0 ≤ n ∧ n ≤ m := inB_yes h
theorem valid_all {h : Hdr} (hv : validH h = true) : (h.kind = 1 ∨ h.kind = 2) ∧ (0 ≤ h.tos ∧ h.tos ≤ 255) ∧ (0 ≤ h.ttl ∧ h.ttl ≤ 255) ∧ (0 ≤ h.id ∧ h.id ≤ 65535) ∧ (0 ≤ h.fport ∧ h.fport ≤ 65535) ∧ (0 ≤ h.tport ∧ h.tport ≤ 65535) ∧ (0 ≤ h.check ∧ h.check ≤ 65535) ∧
    (0 ≤ h.fixed ∧ h.fixed ≤ 1) ∧ (0 ≤ h.frm ∧ h.frm ≤ 4294967295) ∧ (0 ≤ h.to ∧ h.to ≤ 4294967295) ∧
    (h.kind = 1 → h.marker = 0 ∧ h.type = 0 ∧ h.seq = 0 ∧ h.time = 0 ∧ h.source = 0) ∧
    (h.kind = 2 → (0 ≤ h.marker ∧ h.marker ≤ 1) ∧ (0 ≤ h.type ∧ h.type ≤ 127) ∧ (0 ≤ h.seq ∧ h.seq ≤ 65535) ∧ (0 ≤ h.time ∧ h.time ≤ 4294967295) ∧ (0 ≤ h.source ∧ h.source ≤ 4294967295)) := by
  simp only [validH, commonB, Bool.and_eq_true] at hv
  obtain ⟨hk, ⟨⟨⟨⟨⟨⟨⟨⟨h1, h2⟩, h3⟩, h4⟩, h5⟩, h6⟩, h7⟩, h8⟩, h9⟩, hr⟩ := hv
  refine ⟨by simpa [kindB] using hk, inB_yes h1, inB_yes h2, inB_yes h3, inB_yes h4, inB_yes h5, inB_yes h6, inB_yes h7, inB_yes h8, inB_yes h9, fun k => ?_, fun k => ?_⟩
  · rw [restB, k] at hr
    simpa [and_assoc] using hr
  · rw [restB, k] at hr
    simp only [show ((2 : Int) == 1) = false from rfl, Bool.false_eq_true, if_false, Bool.and_eq_true] at hr
    obtain ⟨⟨⟨⟨r1, r2⟩, r3⟩, r4⟩, r5⟩ := hr
    exact ⟨inB_yes r1, inB_yes r2, inB_yes r3, inB_yes r4, inB_yes r5⟩
/-- The words of the network's header sum up to a multiple of 65535. -/
theorem words_built {h : Hdr} (hv : validH h = true) (n : Int) (r : List Int) : words ((ex h n (sumOf h n) r).take 20) % 65535 = 0 := by
  obtain ⟨_, ht, htt, hi, _, _, _, hf, hfr, hto, _⟩ := valid_all hv
  rw [words20 h n _ r (sum_rng h n)]
  have hpos : 0 < words ((ex h n 0 []).take 20) := by
    simp only [ex, List.take_succ_cons, List.take_zero, words]
    omega
  unfold sumOf addS
  generalize words ((ex h n 0 []).take 20) = W at *
  have e0 : foldS 0 = 0 := rfl
  rw [e0, Int.zero_add]
  unfold foldS
  rw [if_neg (by omega)]
  omega
theorem buildF_yes {h : Hdr} (hv : validH h = true) {ys : List Int} (hl : (headL h ++ ys).length ≤ 1500) : buildF h ys = (0, bldL (headL h ++ ys)) := by
  rw [buildF, if_pos hv, if_neg (by omega)]
theorem buildF_ex {h : Hdr} (ys : List Int) : bldL (headL h ++ ys) = ex h (28 + (tailL h ++ ys).length) (sumOf h (28 + (tailL h ++ ys).length)) (tailL h ++ ys) := by
  rw [headL_ex, bldL_ex]
theorem ex_len (h : Hdr) (n s : Int) (r : List Int) : (ex h n s r).length = 28 + r.length := by simp only [ex, List.length_cons]; omega
theorem bldL_len (h : Hdr) (ys : List Int) : (bldL (headL h ++ ys)).length = (headL h ++ ys).length := by
  rw [buildF_ex, ex_len, headL_ex]; simp only [ex0, List.length_cons]; omega

/-! ### a built packet is parsed -/
theorem getN2 (xs : List Int) (o : Nat) : getN xs o 2 = 256 * (xs[o]?.getD 0) + xs[o + 1]?.getD 0 := by simp [getN]
theorem getN4 (xs : List Int) (o : Nat) : getN xs o 4 = 256 * (256 * (256 * (xs[o]?.getD 0) + xs[o + 1]?.getD 0) + xs[o + 2]?.getD 0) + xs[o + 3]?.getD 0 := by simp [getN]
theorem w16 {x : Int} (h : 0 ≤ x ∧ x ≤ 65535) : 256 * (x / 256 % 256) + x % 256 = x := by omega
theorem w32 {x : Int} (h : 0 ≤ x ∧ x ≤ 4294967295) : 256 * (256 * (256 * (x / 16777216 % 256) + x / 65536 % 256) + x / 256 % 256) + x % 256 = x := by omega
def parse0x (h : Hdr) : Hdr := ⟨1, h.tos, h.id, h.fixed, h.ttl, h.frm, h.to, h.fport, h.tport, h.check, 0, 0, 0, 0, 0⟩
theorem parse0_ex {h : Hdr} (hv : validH h = true) (n s : Int) (r : List Int) : parse0 (ex h n s r) = parse0x h := by
  obtain ⟨_, ht, htt, hi, hfp, htp, hc, hf, hfr, hto, _⟩ := valid_all hv
  have e : parse0 (ex h n s r) = ⟨1, h.tos, 256 * (h.id / 256 % 256) + h.id % 256, 64 * h.fixed / 64 % 2, h.ttl, 256 * (256 * (256 * (h.frm / 16777216 % 256) + h.frm / 65536 % 256) + h.frm / 256 % 256) + h.frm % 256,
      256 * (256 * (256 * (h.to / 16777216 % 256) + h.to / 65536 % 256) + h.to / 256 % 256) + h.to % 256, 256 * (h.fport / 256 % 256) + h.fport % 256, 256 * (h.tport / 256 % 256) + h.tport % 256, 256 * (h.check / 256 % 256) + h.check % 256, 0, 0, 0, 0, 0⟩ := by
    simp only [parse0, getN2, getN4]; rfl
  rw [e, w16 hi, w32 hfr, w32 hto, w16 hfp, w16 htp, w16 hc, show 64 * h.fixed / 64 % 2 = h.fixed by omega]; rfl
theorem parse1_of (xs : List Int) : parse1 xs = ⟨2, (parse0 xs).tos, (parse0 xs).id, (parse0 xs).fixed, (parse0 xs).ttl, (parse0 xs).frm, (parse0 xs).to, (parse0 xs).fport, (parse0 xs).tport, (parse0 xs).check, xs[29]?.getD 0 / 128, xs[29]?.getD 0 % 128, getN xs 30 2, getN xs 32 4, getN xs 36 4⟩ := rfl
/-- The fields of RTP out of twelve bytes. -/
def rtpH (h : Hdr) (r : List Int) : Hdr := ⟨2, h.tos, h.id, h.fixed, h.ttl, h.frm, h.to, h.fport, h.tport, h.check, r[1]?.getD 0 / 128, r[1]?.getD 0 % 128, getN r 2 2, getN r 4 4, getN r 8 4⟩
theorem parse1_ex {h : Hdr} (hv : validH h = true) (n s : Int) (r : List Int) : parse1 (ex h n s r) = rtpH h r := by
  rw [parse1_of, parse0_ex hv]
  simp only [rtpH, parse0x, getN2, getN4]
  rfl
theorem rtpB_ex (h : Hdr) (n s : Int) (r : List Int) : rtpB (ex h n s r) = (decide (12 ≤ r.length) && decide (r[0]?.getD 0 = 128)) := by
  unfold rtpB
  rw [ex_len]
  rw [show decide (40 ≤ 28 + r.length) = decide (12 ≤ r.length) from decide_eq_decide.2 (by omega)]
  rfl
theorem rtpH_ext {h : Hdr} (hv : validH h = true) (hk : h.kind = 2) (ys : List Int) : rtpH h (ext h ++ ys) = h := by
  obtain ⟨_, ht, htt, hi, hfp, htp, hc, hf, hfr, hto, _, h2⟩ := valid_all hv
  obtain ⟨hm, hty, hs, hti, hso⟩ := h2 hk
  have e : rtpH h (ext h ++ ys) = ⟨2, h.tos, h.id, h.fixed, h.ttl, h.frm, h.to, h.fport, h.tport, h.check, (128 * h.marker + h.type) / 128, (128 * h.marker + h.type) % 128, 256 * (h.seq / 256 % 256) + h.seq % 256,
      256 * (256 * (256 * (h.time / 16777216 % 256) + h.time / 65536 % 256) + h.time / 256 % 256) + h.time % 256, 256 * (256 * (256 * (h.source / 16777216 % 256) + h.source / 65536 % 256) + h.source / 256 % 256) + h.source % 256⟩ := by
    simp only [rtpH, getN2, getN4]; rfl
  rw [e, w16 hs, w32 hti, w32 hso, show (128 * h.marker + h.type) / 128 = h.marker by omega, show (128 * h.marker + h.type) % 128 = h.type by omega, ← hk]
theorem parse0x_one {h : Hdr} (hv : validH h = true) (hk : h.kind = 1) : parse0x h = h := by
  obtain ⟨_, _, _, _, _, _, _, _, _, _, h1, _⟩ := valid_all hv
  obtain ⟨e1, e2, e3, e4, e5⟩ := h1 hk
  cases h; simp_all [parse0x]
theorem b16 {a b : Int} (ha : 0 ≤ a ∧ a ≤ 255) (hb : 0 ≤ b ∧ b ≤ 255) : (256 * a + b) / 256 % 256 = a ∧ (256 * a + b) % 256 = b := by omega
theorem b32 {a b c d : Int} (ha : 0 ≤ a ∧ a ≤ 255) (hb : 0 ≤ b ∧ b ≤ 255) (hc : 0 ≤ c ∧ c ≤ 255) (hd : 0 ≤ d ∧ d ≤ 255) :
    (256 * (256 * (256 * a + b) + c) + d) / 16777216 % 256 = a ∧ (256 * (256 * (256 * a + b) + c) + d) / 65536 % 256 = b ∧ (256 * (256 * (256 * a + b) + c) + d) / 256 % 256 = c ∧ (256 * (256 * (256 * a + b) + c) + d) % 256 = d := by omega
theorem list12 {l : List Int} (h : 12 ≤ l.length) : ∃ a0 a1 a2 a3 a4 a5 a6 a7 a8 a9 a10 a11 r, l = a0 :: a1 :: a2 :: a3 :: a4 :: a5 :: a6 :: a7 :: a8 :: a9 :: a10 :: a11 :: r := by
  match l, h with
  | a0 :: a1 :: a2 :: a3 :: a4 :: a5 :: a6 :: a7 :: a8 :: a9 :: a10 :: a11 :: r, _ => exact ⟨_, _, _, _, _, _, _, _, _, _, _, _, _, rfl⟩
  | [], h => simp at h
  | [_], h => simp at h
  | [_, _], h => simp at h
  | [_, _, _], h => simp at h
  | [_, _, _, _], h => simp at h
  | [_, _, _, _, _], h => simp at h
  | [_, _, _, _, _, _], h => simp at h
  | [_, _, _, _, _, _, _], h => simp at h
  | [_, _, _, _, _, _, _, _], h => simp at h
  | [_, _, _, _, _, _, _, _, _], h => simp at h
  | [_, _, _, _, _, _, _, _, _, _], h => simp at h
  | [_, _, _, _, _, _, _, _, _, _, _], h => simp at h
theorem ex0_kind {h h' : Hdr} (r : List Int) (h1 : h.tos = h'.tos) (h2 : h.id = h'.id) (h3 : h.fixed = h'.fixed) (h4 : h.ttl = h'.ttl) (h5 : h.frm = h'.frm) (h6 : h.to = h'.to) (h7 : h.fport = h'.fport) (h8 : h.tport = h'.tport) (h9 : h.check = h'.check) : ex0 h r = ex0 h' r := by
  simp only [ex0, h1, h2, h3, h4, h5, h6, h7, h8, h9]
/-- Twelve bytes that begin as RTP are its fields. -/
theorem rtp_back (h : Hdr) {r : List Int} (hb : bytesOk r) (hl : 12 ≤ r.length) (h0 : r[0]?.getD 0 = 128) : headL (rtpH h r) ++ r.drop 12 = ex0 h r := by
  obtain ⟨a0, a1, a2, a3, a4, a5, a6, a7, a8, a9, a10, a11, s, rfl⟩ := list12 hl
  have hm := hb
  simp only [bytesOk, List.mem_cons, forall_eq_or_imp] at hm
  obtain ⟨_, m1, m2, m3, m4, m5, m6, m7, m8, m9, m10, m11, _⟩ := hm
  have e : a0 = 128 := h0
  subst e
  rw [headL_ex, tailL_ex, if_pos (show (rtpH h _).kind = 2 from rfl)]
  have d : ext (rtpH h (128 :: a1 :: a2 :: a3 :: a4 :: a5 :: a6 :: a7 :: a8 :: a9 :: a10 :: a11 :: s)) = [128, a1, a2, a3, a4, a5, a6, a7, a8, a9, a10, a11] := by
    obtain ⟨p1, p2⟩ := b16 m2 m3
    obtain ⟨q1, q2, q3, q4⟩ := b32 m4 m5 m6 m7
    obtain ⟨s1, s2, s3, s4⟩ := b32 m8 m9 m10 m11
    have f : rtpH h (128 :: a1 :: a2 :: a3 :: a4 :: a5 :: a6 :: a7 :: a8 :: a9 :: a10 :: a11 :: s) = ⟨2, h.tos, h.id, h.fixed, h.ttl, h.frm, h.to, h.fport, h.tport, h.check, a1 / 128, a1 % 128, 256 * a2 + a3, 256 * (256 * (256 * a4 + a5) + a6) + a7, 256 * (256 * (256 * a8 + a9) + a10) + a11⟩ := by
      simp only [rtpH, getN2, getN4]; rfl
    rw [f]
    simp only [ext, p1, p2, q1, q2, q3, q4, s1, s2, s3, s4, show 128 * (a1 / 128) + a1 % 128 = a1 by omega]
  rw [d]
  rfl
theorem rtpH_valid {h : Hdr} (hv : validH h = true) {r : List Int} (hb : bytesOk r) : validH (rtpH h r) = true := by
  simp only [validH, Bool.and_eq_true] at hv ⊢
  refine ⟨rfl, hv.2.1, ?_⟩
  have h1 := getD_byte hb 1
  have h2 := getN_rng hb 2 2
  have h4 := getN_rng hb 4 4
  have h8 := getN_rng hb 8 4
  have p2 : (256 : Int) ^ 2 = 65536 := rfl
  have p4 : (256 : Int) ^ 4 = 4294967296 := rfl
  rw [p2] at h2
  rw [p4] at h4 h8
  have inB_mk : ∀ {n m : Int}, 0 ≤ n → n ≤ m → inB n m = true := fun a b => by simp [inB, a, b]
  simp only [restB, rtpH, show ((2 : Int) == 1) = false from rfl, Bool.false_eq_true, if_false, Bool.and_eq_true]
  exact ⟨⟨⟨⟨inB_mk (by omega) (by omega), inB_mk (by omega) (by omega)⟩, inB_mk h2.1 (by omega)⟩, inB_mk h4.1 (by omega)⟩, inB_mk h8.1 (by omega)⟩
theorem tail_bytes {h : Hdr} (hv : validH h = true) : bytesOk (tailL h) := by
  rw [tailL_ex]
  split
  · rename_i hk
    obtain ⟨_, _, _, _, _, _, _, _, _, _, _, h2⟩ := valid_all hv
    obtain ⟨hm, hty, _⟩ := h2 hk
    intro x hx
    simp only [ext, List.mem_cons, List.not_mem_nil, or_false] at hx
    rcases hx with rfl | rfl | rfl | rfl | rfl | rfl | rfl | rfl | rfl | rfl | rfl | rfl <;> omega
  · intro x hx; cases hx
/-- Whatever is built is parsed, and built again out of what was parsed. -/
theorem build_parse {h : Hdr} (hv : validH h = true) {ys : List Int} (hb : bytesOk ys) (hl : (headL h ++ ys).length ≤ 1500) :
    parseF (bldL (headL h ++ ys)) = (parseH (bldL (headL h ++ ys)), (bldL (headL h ++ ys)).drop (parseN (bldL (headL h ++ ys))), 0) ∧
    buildF (parseH (bldL (headL h ++ ys))) ((bldL (headL h ++ ys)).drop (parseN (bldL (headL h ++ ys)))) = (0, bldL (headL h ++ ys)) ∧ validH (parseH (bldL (headL h ++ ys))) = true ∧
    ((h.kind = 1 ∧ 12 ≤ ys.length ∧ ys[0]?.getD 0 = 128) ∨ parseH (bldL (headL h ++ ys)) = h ∧ (bldL (headL h ++ ys)).drop (parseN (bldL (headL h ++ ys))) = ys) := by
  have hlen := bldL_len h ys
  have hl28 : 28 ≤ (headL h ++ ys).length := by rw [List.length_append, headL_len]; split <;> omega
  have key : buildF (parseH (bldL (headL h ++ ys))) ((bldL (headL h ++ ys)).drop (parseN (bldL (headL h ++ ys)))) = (0, bldL (headL h ++ ys)) ∧ validH (parseH (bldL (headL h ++ ys))) = true ∧
    ((h.kind = 1 ∧ 12 ≤ ys.length ∧ ys[0]?.getD 0 = 128) ∨ parseH (bldL (headL h ++ ys)) = h ∧ (bldL (headL h ++ ys)).drop (parseN (bldL (headL h ++ ys))) = ys) := by
    rcases (valid_all hv).1 with hk | hk
    · have ht : tailL h = [] := by rw [tailL_ex, if_neg (by omega)]
      have e := buildF_ex (h := h) ys
      rw [ht, List.nil_append] at e
      by_cases hr : 12 ≤ ys.length ∧ ys[0]?.getD 0 = 128
      · have hB : rtpB (bldL (headL h ++ ys)) = true := by rw [e, rtpB_ex]; simp [hr.1, hr.2]
        have hP : parseH (bldL (headL h ++ ys)) = rtpH h ys := by rw [parseH, if_pos hB, e, parse1_ex hv]
        have hN : (bldL (headL h ++ ys)).drop (parseN (bldL (headL h ++ ys))) = ys.drop 12 := by
          rw [parseN, if_pos hB, e]
          show (ex h _ _ ys).drop (28 + 12) = _
          rw [← List.drop_drop]; rfl
        have hx : headL (rtpH h ys) ++ ys.drop 12 = headL h ++ ys := by rw [rtp_back h hb hr.1 hr.2, headL_ex, ht]; rfl
        rw [hP, hN]
        refine ⟨?_, rtpH_valid hv hb, .inl ⟨hk, hr⟩⟩
        rw [buildF_yes (rtpH_valid hv hb) (by rw [hx]; exact hl), hx]
      · have hB : rtpB (bldL (headL h ++ ys)) = false := by
          rw [e, rtpB_ex, ← Bool.decide_and]
          exact decide_eq_false hr
        have hP : parseH (bldL (headL h ++ ys)) = h := by rw [parseH, hB, e]; exact (parse0_ex hv _ _ _).trans (parse0x_one hv hk)
        have hN : (bldL (headL h ++ ys)).drop (parseN (bldL (headL h ++ ys))) = ys := by rw [parseN, hB, e]; rfl
        rw [hP, hN]
        exact ⟨buildF_yes hv hl, hv, .inr ⟨rfl, rfl⟩⟩
    · have ht : tailL h = ext h := by rw [tailL_ex, if_pos hk]
      have e := buildF_ex (h := h) ys
      rw [ht] at e
      have hB : rtpB (bldL (headL h ++ ys)) = true := by
        rw [e, rtpB_ex]
        simp [ext]
      have hP : parseH (bldL (headL h ++ ys)) = h := by rw [parseH, if_pos hB, e, parse1_ex hv, rtpH_ext hv hk]
      have hN : (bldL (headL h ++ ys)).drop (parseN (bldL (headL h ++ ys))) = ys := by rw [parseN, if_pos hB, e]; rfl
      rw [hP, hN]
      exact ⟨buildF_yes hv hl, hv, .inr ⟨rfl, rfl⟩⟩
  refine ⟨?_, key⟩
  rw [parseF, if_neg (by omega), key.1, if_pos rfl]

/-! ### a changed bit -/
theorem words_one (l : List Int) : ∀ (i : Nat) (v : Int), i < l.length → words (l.set i v) = words l + (v - l[i]?.getD 0) * (if i % 2 = 0 then 256 else 1) := by
  match l with
  | [] => intro i v h; simp at h
  | [a] =>
    intro i v h
    have : i = 0 := by simp at h; omega
    subst this
    simp [words]; omega
  | a :: b :: r =>
    intro i v h
    match i with
    | 0 => simp [words]; omega
    | 1 => simp [words]; omega
    | j + 2 =>
      have ih := words_one r j v (by simp at h; omega)
      simp only [List.set_cons_succ, words, ih, List.getElem?_cons_succ, Nat.add_mod_right]
      omega
theorem flip_byte : ∀ x : Fin 256, ∀ j : Fin 8, (Nat.xor x.val (2 ^ j.val) = x.val + 2 ^ j.val) ∨ (Nat.xor x.val (2 ^ j.val) + 2 ^ j.val = x.val) := by decide +kernel
theorem bad_words {W x v : Int} {j : Nat} (hj : j < 8) (h : v = x + 2 ^ j ∨ v + 2 ^ j = x) (q : Nat) (h0 : W % 65535 = 0) : (W + (v - x) * (if q % 2 = 0 then 256 else 1)) % 65535 ≠ 0 := by
  have hj8 : j = 0 ∨ j = 1 ∨ j = 2 ∨ j = 3 ∨ j = 4 ∨ j = 5 ∨ j = 6 ∨ j = 7 := by omega
  rcases hj8 with rfl | rfl | rfl | rfl | rfl | rfl | rfl | rfl <;> (simp only [Int.reducePow] at h; split <;> omega)
theorem parse_words {xs : List Int} (h : (parseF xs).2.2 = 0) : words (xs.take 20) % 65535 = 0 := by
  unfold parseF at h
  split at h
  · simp at h
  split at h
  · rename_i e
    have hv : validH (parseH xs) = true := by
      cases hb : validH (parseH xs)
      · rw [buildF, hb] at e
        simp only [Bool.false_eq_true, if_false] at e
        rename_i hn
        exact absurd (show xs.length < 28 ∨ 1500 < xs.length from .inl (by rw [← e]; simp)) hn
      · rfl
    have hl : (headL (parseH xs) ++ xs.drop (parseN xs)).length ≤ 1500 := by
      rcases Nat.lt_or_ge 1500 (headL (parseH xs) ++ xs.drop (parseN xs)).length with hc | hc
      · rw [buildF, if_pos hv, if_pos hc] at e
        rename_i hn
        exact absurd (show xs.length < 28 ∨ 1500 < xs.length from .inl (by rw [← e]; simp)) hn
      · exact hc
    rw [buildF_yes hv hl] at e
    have e2 : bldL (headL (parseH xs) ++ xs.drop (parseN xs)) = xs := e
    rw [buildF_ex] at e2
    have := words_built hv (28 + (tailL (parseH xs) ++ xs.drop (parseN xs)).length) (tailL (parseH xs) ++ xs.drop (parseN xs))
    rw [e2] at this
    exact this
  · simp at h
/-- A changed bit of the network's header is noticed. -/
theorem flip_seen {h : Hdr} (hv : validH h = true) (ys : List Int) (i j : Nat) (v : Int) (hi : i < 20) (hj : j < 8) (hl : (headL h ++ ys).length ≤ 1500)
    (hx : v = (bldL (headL h ++ ys))[i]?.getD 0 + 2 ^ j ∨ v + 2 ^ j = (bldL (headL h ++ ys))[i]?.getD 0) : (parseF ((bldL (headL h ++ ys)).set i v)).2.2 = 4 := by
  have hlen := bldL_len h ys
  have hl28 : 28 ≤ (headL h ++ ys).length := by rw [List.length_append, headL_len]; split <;> omega
  have hno : ¬ (parseF ((bldL (headL h ++ ys)).set i v)).2.2 = 0 := by
    intro h0
    have h1 := parse_words h0
    have h2 := words_built hv (28 + (tailL h ++ ys).length) (tailL h ++ ys)
    rw [← buildF_ex] at h2
    rw [List.take_set, words_one _ i v (by simp; omega)] at h1
    have hg : ((bldL (headL h ++ ys)).take 20)[i]?.getD 0 = (bldL (headL h ++ ys))[i]?.getD 0 := by rw [List.getElem?_take_of_lt hi]
    rw [hg] at h1
    exact bad_words hj hx i h2 h1
  unfold parseF at hno ⊢
  rw [if_neg (by simp; omega)] at hno ⊢
  split at hno
  · exact absurd rfl hno
  · rename_i hc; rw [if_neg hc]
end Go.Proofs.Ytmojlengjoicoaa
