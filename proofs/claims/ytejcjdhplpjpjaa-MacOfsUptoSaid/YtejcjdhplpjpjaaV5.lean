/- A symbolic executor over the model's code, and that it is sound, part 5: lemmas for the proofs of this seat, no statement of their own. No conditions. -/
import Derived.Test.YtejcjdhplpjpjaaV4
import Derived.JoinedCond
import Derived.SizedLaws

set_option linter.unusedVariables false
/- Plain law of the bytes of numbers modulo 2^255 - 19. -/
namespace Go.Vx
open Go

/-! ### the least -/
def fleaL (t : Nat → Int) : List Int :=
  let o0 := ushr (uadd .u64 (t 0) 19) 51
  let o1 := ushr (uadd .u64 (t 1) o0) 51
  let o2 := ushr (uadd .u64 (t 2) o1) 51
  let o3 := ushr (uadd .u64 (t 3) o2) 51
  let o4 := ushr (uadd .u64 (t 4) o3) 51
  let s0 := uadd .u64 (t 0) (umul .u64 19 o4)
  let s1 := uadd .u64 (t 1) (ushr s0 51)
  let s2 := uadd .u64 (t 2) (ushr s1 51)
  let s3 := uadd .u64 (t 3) (ushr s2 51)
  let s4 := uadd .u64 (t 4) (ushr s3 51)
  [umask s0 2251799813685247, umask s1 2251799813685247, umask s2 2251799813685247, umask s3 2251799813685247, umask s4 2251799813685247]
/-- below 2^51 all -/
def FF (a : Nat → Int) : Prop := (0 ≤ a 0 ∧ a 0 < 2251799813685248) ∧ (0 ≤ a 1 ∧ a 1 < 2251799813685248) ∧ (0 ≤ a 2 ∧ a 2 < 2251799813685248) ∧ (0 ≤ a 3 ∧ a 3 < 2251799813685248) ∧ (0 ≤ a 4 ∧ a 4 < 2251799813685248)
theorem add51 {t c s : Int} (ht : 0 ≤ t ∧ t ≤ 2251799813685248) (hc : 0 ≤ c ∧ c ≤ 2251799813685248) (hs : s = (t + c) / 2251799813685248) : uadd .u64 t c = t + c ∧ ushr (t + c) 51 = s ∧ umask (t + c) 2251799813685247 = t + c - 2251799813685248 * s ∧ 0 ≤ s ∧ s ≤ 2 := by
  refine ⟨uadd64 ht.1 hc.1 (by omega), ?_, ?_, by omega, by omega⟩
  · rw [hs]; exact ushr51 (by omega)
  · rw [umask51 (by omega), hs]; omega
theorem fsum_lt {a0 a1 a2 a3 a4 : Int} (h0 : 0 ≤ a0 ∧ a0 < 2251799813685248) (h1 : 0 ≤ a1 ∧ a1 < 2251799813685248) (h2 : 0 ≤ a2 ∧ a2 < 2251799813685248) (h3 : 0 ≤ a3 ∧ a3 < 2251799813685248) (h4 : 0 ≤ a4 ∧ a4 < 2251799813685248) :
    0 ≤ a0 + 2251799813685248 * a1 + 5070602400912917605986812821504 * a2 + 11417981541647679048466287755595961091061972992 * a3 + 25711008708143844408671393477458601640355247900524685364822016 * a4 ∧
    a0 + 2251799813685248 * a1 + 5070602400912917605986812821504 * a2 + 11417981541647679048466287755595961091061972992 * a3 + 25711008708143844408671393477458601640355247900524685364822016 * a4 < 57896044618658097711785492504343953926634992332820282019728792003956564819968 := by omega
theorem flea_spec {la : List Int} (h : FS la) : FF (atL (fleaL (atL la))) ∧ W5 (atL (fleaL (atL la))) = W5 (atL la) % Q := by
  obtain ⟨h0, h1, h2, h3, h4⟩ := h
  generalize atL la = t at *
  obtain ⟨o0, k0⟩ : ∃ c, c = (t 0 + 19) / 2251799813685248 := ⟨_, rfl⟩
  obtain ⟨e0, f0, g0, p0⟩ := add51 (t := t 0) (c := 19) (by omega) (by decide) k0
  obtain ⟨o1, k1⟩ : ∃ c, c = (t 1 + o0) / 2251799813685248 := ⟨_, rfl⟩
  obtain ⟨e1, f1, g1, p1⟩ := add51 (t := t 1) (c := o0) (by omega) (by omega) k1
  obtain ⟨o2, k2⟩ : ∃ c, c = (t 2 + o1) / 2251799813685248 := ⟨_, rfl⟩
  obtain ⟨e2, f2, g2, p2⟩ := add51 (t := t 2) (c := o1) (by omega) (by omega) k2
  obtain ⟨o3, k3⟩ : ∃ c, c = (t 3 + o2) / 2251799813685248 := ⟨_, rfl⟩
  obtain ⟨e3, f3, g3, p3⟩ := add51 (t := t 3) (c := o2) (by omega) (by omega) k3
  obtain ⟨o4, k4⟩ : ∃ c, c = (t 4 + o3) / 2251799813685248 := ⟨_, rfl⟩
  obtain ⟨e4, f4, g4, p4⟩ := add51 (t := t 4) (c := o3) (by omega) (by omega) k4
  have e5 : umul .u64 19 o4 = 19 * o4 := umul64 (by decide) (by omega) (by omega)
  obtain ⟨d0, l0⟩ : ∃ c, c = (t 0 + 19 * o4) / 2251799813685248 := ⟨_, rfl⟩
  obtain ⟨u0, v0, x0, y0⟩ := add51 (t := t 0) (c := 19 * o4) (by omega) (by omega) l0
  obtain ⟨d1, l1⟩ : ∃ c, c = (t 1 + d0) / 2251799813685248 := ⟨_, rfl⟩
  obtain ⟨u1, v1, x1, y1⟩ := add51 (t := t 1) (c := d0) (by omega) (by omega) l1
  obtain ⟨d2, l2⟩ : ∃ c, c = (t 2 + d1) / 2251799813685248 := ⟨_, rfl⟩
  obtain ⟨u2, v2, x2, y2⟩ := add51 (t := t 2) (c := d1) (by omega) (by omega) l2
  obtain ⟨d3, l3⟩ : ∃ c, c = (t 3 + d2) / 2251799813685248 := ⟨_, rfl⟩
  obtain ⟨u3, v3, x3, y3⟩ := add51 (t := t 3) (c := d2) (by omega) (by omega) l3
  obtain ⟨d4, l4⟩ : ∃ c, c = (t 4 + d3) / 2251799813685248 := ⟨_, rfl⟩
  obtain ⟨u4, v4, x4, y4⟩ := add51 (t := t 4) (c := d3) (by omega) (by omega) l4
  have e : fleaL t = [t 0 + 19 * o4 - 2251799813685248 * d0, t 1 + d0 - 2251799813685248 * d1, t 2 + d1 - 2251799813685248 * d2, t 3 + d2 - 2251799813685248 * d3, t 4 + d3 - 2251799813685248 * d4] := by
    simp only [fleaL, e0, f0, e1, f1, e2, f2, e3, f3, e4, f4, e5, u0, v0, x0, u1, v1, x1, u2, v2, x2, u3, v3, x3, u4, x4]
  obtain ⟨m0, hm0⟩ : ∃ m, m = t 0 + 19 * o4 - 2251799813685248 * d0 := ⟨_, rfl⟩
  obtain ⟨m1, hm1⟩ : ∃ m, m = t 1 + d0 - 2251799813685248 * d1 := ⟨_, rfl⟩
  obtain ⟨m2, hm2⟩ : ∃ m, m = t 2 + d1 - 2251799813685248 * d2 := ⟨_, rfl⟩
  obtain ⟨m3, hm3⟩ : ∃ m, m = t 3 + d2 - 2251799813685248 * d3 := ⟨_, rfl⟩
  obtain ⟨m4, hm4⟩ : ∃ m, m = t 4 + d3 - 2251799813685248 * d4 := ⟨_, rfl⟩
  obtain ⟨r0, hr0⟩ : ∃ m, m = t 0 + 19 - 2251799813685248 * o0 := ⟨_, rfl⟩
  obtain ⟨r1, hr1⟩ : ∃ m, m = t 1 + o0 - 2251799813685248 * o1 := ⟨_, rfl⟩
  obtain ⟨r2, hr2⟩ : ∃ m, m = t 2 + o1 - 2251799813685248 * o2 := ⟨_, rfl⟩
  obtain ⟨r3, hr3⟩ : ∃ m, m = t 3 + o2 - 2251799813685248 * o3 := ⟨_, rfl⟩
  obtain ⟨r4, hr4⟩ : ∃ m, m = t 4 + o3 - 2251799813685248 * o4 := ⟨_, rfl⟩
  rw [← hm0, ← hm1, ← hm2, ← hm3, ← hm4] at e
  rw [e]
  clear e e0 e1 e2 e3 e4 e5 f0 f1 f2 f3 f4 g0 g1 g2 g3 g4 u0 u1 u2 u3 u4 v0 v1 v2 v3 v4 x0 x1 x2 x3 x4
  have bm0 : 0 ≤ m0 ∧ m0 < 2251799813685248 := by omega
  have bm1 : 0 ≤ m1 ∧ m1 < 2251799813685248 := by omega
  have bm2 : 0 ≤ m2 ∧ m2 < 2251799813685248 := by omega
  have bm3 : 0 ≤ m3 ∧ m3 < 2251799813685248 := by omega
  have bm4 : 0 ≤ m4 ∧ m4 < 2251799813685248 := by omega
  have br0 : 0 ≤ r0 ∧ r0 < 2251799813685248 := by omega
  have br1 : 0 ≤ r1 ∧ r1 < 2251799813685248 := by omega
  have br2 : 0 ≤ r2 ∧ r2 < 2251799813685248 := by omega
  have br3 : 0 ≤ r3 ∧ r3 < 2251799813685248 := by omega
  have br4 : 0 ≤ r4 ∧ r4 < 2251799813685248 := by omega
  refine ⟨⟨bm0, bm1, bm2, bm3, bm4⟩, ?_⟩
  have M := fsum_lt bm0 bm1 bm2 bm3 bm4
  have R := fsum_lt br0 br1 br2 br3 br4
  have hM : m0 + 2251799813685248 * m1 + 5070602400912917605986812821504 * m2 + 11417981541647679048466287755595961091061972992 * m3 + 25711008708143844408671393477458601640355247900524685364822016 * m4 = W5 t + 19 * o4 - 57896044618658097711785492504343953926634992332820282019728792003956564819968 * d4 := by
    clear M R k0 k1 k2 k3 k4 l0 l1 l2 l3 l4; unfold W5; omega
  have hR : r0 + 2251799813685248 * r1 + 5070602400912917605986812821504 * r2 + 11417981541647679048466287755595961091061972992 * r3 + 25711008708143844408671393477458601640355247900524685364822016 * r4 = W5 t + 19 - 57896044618658097711785492504343953926634992332820282019728792003956564819968 * o4 := by
    clear M R hM k0 k1 k2 k3 k4 l0 l1 l2 l3 l4; unfold W5; omega
  have hT : 0 ≤ W5 t ∧ W5 t ≤ 57896044618658097711785492504343953926634992332820282019728792003956564819968 + 5070602400912917605986812821504 := by
    clear M R hM hR k0 k1 k2 k3 k4 l0 l1 l2 l3 l4 hm0 hm1 hm2 hm3 hm4 hr0 hr1 hr2 hr3 hr4; unfold W5; omega
  show m0 + 2251799813685248 * m1 + 5070602400912917605986812821504 * m2 + 11417981541647679048466287755595961091061972992 * m3 + 25711008708143844408671393477458601640355247900524685364822016 * m4 = _
  rw [hM] at M ⊢
  rw [hR] at R
  generalize W5 t = V at *
  clear hM hR k0 k1 k2 k3 k4 l0 l1 l2 l3 l4 hm0 hm1 hm2 hm3 hm4 hr0 hr1 hr2 hr3 hr4 bm0 bm1 bm2 bm3 bm4 br0 br1 br2 br3 br4 h0 h1 h2 h3 h4
  have hd : d4 = o4 := by omega
  subst hd
  exact (emod_of (N := V) (p := Q) (by omega) (by unfold Q; omega) ⟨d4, by unfold Q; omega⟩).symm
def fword (m : Nat → Int) : List Int := [uor (m 0) (ushl .u64 (m 1) 51), uor (ushr (m 1) 13) (ushl .u64 (m 2) 38), uor (ushr (m 2) 26) (ushl .u64 (m 3) 25), uor (ushr (m 3) 39) (ushl .u64 (m 4) 12)]
def fbytL (m : Nat → Int) : List Int :=
  let w := atL (fword m)
  [ucut .u8 (ushr (w 0) 0), ucut .u8 (ushr (w 0) 8), ucut .u8 (ushr (w 0) 16), ucut .u8 (ushr (w 0) 24), ucut .u8 (ushr (w 0) 32), ucut .u8 (ushr (w 0) 40), ucut .u8 (ushr (w 0) 48), ucut .u8 (ushr (w 0) 56), ucut .u8 (ushr (w 1) 0), ucut .u8 (ushr (w 1) 8), ucut .u8 (ushr (w 1) 16), ucut .u8 (ushr (w 1) 24), ucut .u8 (ushr (w 1) 32), ucut .u8 (ushr (w 1) 40), ucut .u8 (ushr (w 1) 48), ucut .u8 (ushr (w 1) 56), ucut .u8 (ushr (w 2) 0), ucut .u8 (ushr (w 2) 8), ucut .u8 (ushr (w 2) 16), ucut .u8 (ushr (w 2) 24), ucut .u8 (ushr (w 2) 32), ucut .u8 (ushr (w 2) 40), ucut .u8 (ushr (w 2) 48), ucut .u8 (ushr (w 2) 56), ucut .u8 (ushr (w 3) 0), ucut .u8 (ushr (w 3) 8), ucut .u8 (ushr (w 3) 16), ucut .u8 (ushr (w 3) 24), ucut .u8 (ushr (w 3) 32), ucut .u8 (ushr (w 3) 40), ucut .u8 (ushr (w 3) 48), ucut .u8 (ushr (w 3) 56)]
theorem fword_spec {m : Nat → Int} (h : FF m) : atL (fword m) 0 = W5 m % 18446744073709551616 ∧ atL (fword m) 1 = W5 m / 18446744073709551616 % 18446744073709551616 ∧ atL (fword m) 2 = W5 m / 340282366920938463463374607431768211456 % 18446744073709551616 ∧ atL (fword m) 3 = W5 m / 6277101735386680763835789423207666416102355444464034512896 % 18446744073709551616 ∧ 0 ≤ W5 m := by
  obtain ⟨h0, h1, h2, h3, h4⟩ := h
  have s1 : ushl .u64 (m 1) 51 = m 1 % 8192 * 2251799813685248 := by rw [show ushl .u64 (m 1) 51 = m 1 * 2251799813685248 % 18446744073709551616 from ushlE _ 51 h1.1]; omega
  have s2 : ushl .u64 (m 2) 38 = m 2 % 67108864 * 274877906944 := by rw [show ushl .u64 (m 2) 38 = m 2 * 274877906944 % 18446744073709551616 from ushlE _ 38 h2.1]; omega
  have s3 : ushl .u64 (m 3) 25 = m 3 % 549755813888 * 33554432 := by rw [show ushl .u64 (m 3) 25 = m 3 * 33554432 % 18446744073709551616 from ushlE _ 25 h3.1]; omega
  have s4 : ushl .u64 (m 4) 12 = m 4 * 4096 := by rw [show ushl .u64 (m 4) 12 = m 4 * 4096 % 18446744073709551616 from ushlE _ 12 h4.1]; omega
  have r1 : ushr (m 1) 13 = m 1 / 8192 := ushrE _ 13 h1.1
  have r2 : ushr (m 2) 26 = m 2 / 67108864 := ushrE _ 26 h2.1
  have r3 : ushr (m 3) 39 = m 3 / 549755813888 := ushrE _ 39 h3.1
  have e0 : atL (fword m) 0 = m 0 + m 1 % 8192 * 2251799813685248 := by
    show uor (m 0) (ushl .u64 (m 1) 51) = _
    rw [s1, uor_add 51 h0.1 (by show _ < (2251799813685248 : Int); omega) (by omega) (by show _ % (2251799813685248 : Int) = 0; omega)]
  have e1 : atL (fword m) 1 = m 1 / 8192 + m 2 % 67108864 * 274877906944 := by
    show uor (ushr (m 1) 13) (ushl .u64 (m 2) 38) = _
    rw [s2, r1, uor_add 38 (by omega) (by show _ < (274877906944 : Int); omega) (by omega) (by show _ % (274877906944 : Int) = 0; omega)]
  have e2 : atL (fword m) 2 = m 2 / 67108864 + m 3 % 549755813888 * 33554432 := by
    show uor (ushr (m 2) 26) (ushl .u64 (m 3) 25) = _
    rw [s3, r2, uor_add 25 (by omega) (by show _ < (33554432 : Int); omega) (by omega) (by show _ % (33554432 : Int) = 0; omega)]
  have e3 : atL (fword m) 3 = m 3 / 549755813888 + m 4 * 4096 := by
    show uor (ushr (m 3) 39) (ushl .u64 (m 4) 12) = _
    rw [s4, r3, uor_add 12 (by omega) (by show _ < (4096 : Int); omega) (by omega) (by show _ % (4096 : Int) = 0; omega)]
  rw [e0, e1, e2, e3]
  clear s1 s2 s3 s4 r1 r2 r3 e0 e1 e2 e3
  unfold W5
  refine ⟨by omega, by omega, by omega, by omega, by omega⟩
theorem fb0 {N : Int} (h : 0 ≤ N) : ucut .u8 (ushr (N % 18446744073709551616) 0) = byteN N 0 := by
  unfold byteN
  rw [show ucut .u8 (ushr (N % 18446744073709551616) 0) = (N % 18446744073709551616) / 1 % 256 from cut_shr 0 (by omega), show ((256 ^ 0 : Nat) : Int) = 1 from rfl]; omega
theorem fb1 {N : Int} (h : 0 ≤ N) : ucut .u8 (ushr (N % 18446744073709551616) 8) = byteN N 1 := by
  unfold byteN
  rw [show ucut .u8 (ushr (N % 18446744073709551616) 8) = (N % 18446744073709551616) / 256 % 256 from cut_shr 8 (by omega), show ((256 ^ 1 : Nat) : Int) = 256 from rfl]; omega
theorem fb2 {N : Int} (h : 0 ≤ N) : ucut .u8 (ushr (N % 18446744073709551616) 16) = byteN N 2 := by
  unfold byteN
  rw [show ucut .u8 (ushr (N % 18446744073709551616) 16) = (N % 18446744073709551616) / 65536 % 256 from cut_shr 16 (by omega), show ((256 ^ 2 : Nat) : Int) = 65536 from rfl]; omega
theorem fb3 {N : Int} (h : 0 ≤ N) : ucut .u8 (ushr (N % 18446744073709551616) 24) = byteN N 3 := by
  unfold byteN
  rw [show ucut .u8 (ushr (N % 18446744073709551616) 24) = (N % 18446744073709551616) / 16777216 % 256 from cut_shr 24 (by omega), show ((256 ^ 3 : Nat) : Int) = 16777216 from rfl]; omega
theorem fb4 {N : Int} (h : 0 ≤ N) : ucut .u8 (ushr (N % 18446744073709551616) 32) = byteN N 4 := by
  unfold byteN
  rw [show ucut .u8 (ushr (N % 18446744073709551616) 32) = (N % 18446744073709551616) / 4294967296 % 256 from cut_shr 32 (by omega), show ((256 ^ 4 : Nat) : Int) = 4294967296 from rfl]; omega
theorem fb5 {N : Int} (h : 0 ≤ N) : ucut .u8 (ushr (N % 18446744073709551616) 40) = byteN N 5 := by
  unfold byteN
  rw [show ucut .u8 (ushr (N % 18446744073709551616) 40) = (N % 18446744073709551616) / 1099511627776 % 256 from cut_shr 40 (by omega), show ((256 ^ 5 : Nat) : Int) = 1099511627776 from rfl]; omega
theorem fb6 {N : Int} (h : 0 ≤ N) : ucut .u8 (ushr (N % 18446744073709551616) 48) = byteN N 6 := by
  unfold byteN
  rw [show ucut .u8 (ushr (N % 18446744073709551616) 48) = (N % 18446744073709551616) / 281474976710656 % 256 from cut_shr 48 (by omega), show ((256 ^ 6 : Nat) : Int) = 281474976710656 from rfl]; omega
theorem fb7 {N : Int} (h : 0 ≤ N) : ucut .u8 (ushr (N % 18446744073709551616) 56) = byteN N 7 := by
  unfold byteN
  rw [show ucut .u8 (ushr (N % 18446744073709551616) 56) = (N % 18446744073709551616) / 72057594037927936 % 256 from cut_shr 56 (by omega), show ((256 ^ 7 : Nat) : Int) = 72057594037927936 from rfl]; omega
theorem fb8 {N : Int} (h : 0 ≤ N) : ucut .u8 (ushr (N / 18446744073709551616 % 18446744073709551616) 0) = byteN N 8 := by
  unfold byteN
  rw [show ucut .u8 (ushr (N / 18446744073709551616 % 18446744073709551616) 0) = (N / 18446744073709551616 % 18446744073709551616) / 1 % 256 from cut_shr 0 (by omega), show ((256 ^ 8 : Nat) : Int) = 18446744073709551616 from rfl]; omega
theorem fb9 {N : Int} (h : 0 ≤ N) : ucut .u8 (ushr (N / 18446744073709551616 % 18446744073709551616) 8) = byteN N 9 := by
  unfold byteN
  rw [show ucut .u8 (ushr (N / 18446744073709551616 % 18446744073709551616) 8) = (N / 18446744073709551616 % 18446744073709551616) / 256 % 256 from cut_shr 8 (by omega), show ((256 ^ 9 : Nat) : Int) = 4722366482869645213696 from rfl]; omega
theorem fb10 {N : Int} (h : 0 ≤ N) : ucut .u8 (ushr (N / 18446744073709551616 % 18446744073709551616) 16) = byteN N 10 := by
  unfold byteN
  rw [show ucut .u8 (ushr (N / 18446744073709551616 % 18446744073709551616) 16) = (N / 18446744073709551616 % 18446744073709551616) / 65536 % 256 from cut_shr 16 (by omega), show ((256 ^ 10 : Nat) : Int) = 1208925819614629174706176 from rfl]; omega
theorem fb11 {N : Int} (h : 0 ≤ N) : ucut .u8 (ushr (N / 18446744073709551616 % 18446744073709551616) 24) = byteN N 11 := by
  unfold byteN
  rw [show ucut .u8 (ushr (N / 18446744073709551616 % 18446744073709551616) 24) = (N / 18446744073709551616 % 18446744073709551616) / 16777216 % 256 from cut_shr 24 (by omega), show ((256 ^ 11 : Nat) : Int) = 309485009821345068724781056 from rfl]; omega
theorem fb12 {N : Int} (h : 0 ≤ N) : ucut .u8 (ushr (N / 18446744073709551616 % 18446744073709551616) 32) = byteN N 12 := by
  unfold byteN
  rw [show ucut .u8 (ushr (N / 18446744073709551616 % 18446744073709551616) 32) = (N / 18446744073709551616 % 18446744073709551616) / 4294967296 % 256 from cut_shr 32 (by omega), show ((256 ^ 12 : Nat) : Int) = 79228162514264337593543950336 from rfl]; omega
theorem fb13 {N : Int} (h : 0 ≤ N) : ucut .u8 (ushr (N / 18446744073709551616 % 18446744073709551616) 40) = byteN N 13 := by
  unfold byteN
  rw [show ucut .u8 (ushr (N / 18446744073709551616 % 18446744073709551616) 40) = (N / 18446744073709551616 % 18446744073709551616) / 1099511627776 % 256 from cut_shr 40 (by omega), show ((256 ^ 13 : Nat) : Int) = 20282409603651670423947251286016 from rfl]; omega
theorem fb14 {N : Int} (h : 0 ≤ N) : ucut .u8 (ushr (N / 18446744073709551616 % 18446744073709551616) 48) = byteN N 14 := by
  unfold byteN
  rw [show ucut .u8 (ushr (N / 18446744073709551616 % 18446744073709551616) 48) = (N / 18446744073709551616 % 18446744073709551616) / 281474976710656 % 256 from cut_shr 48 (by omega), show ((256 ^ 14 : Nat) : Int) = 5192296858534827628530496329220096 from rfl]; omega
theorem fb15 {N : Int} (h : 0 ≤ N) : ucut .u8 (ushr (N / 18446744073709551616 % 18446744073709551616) 56) = byteN N 15 := by
  unfold byteN
  rw [show ucut .u8 (ushr (N / 18446744073709551616 % 18446744073709551616) 56) = (N / 18446744073709551616 % 18446744073709551616) / 72057594037927936 % 256 from cut_shr 56 (by omega), show ((256 ^ 15 : Nat) : Int) = 1329227995784915872903807060280344576 from rfl]; omega
theorem fb16 {N : Int} (h : 0 ≤ N) : ucut .u8 (ushr (N / 340282366920938463463374607431768211456 % 18446744073709551616) 0) = byteN N 16 := by
  unfold byteN
  rw [show ucut .u8 (ushr (N / 340282366920938463463374607431768211456 % 18446744073709551616) 0) = (N / 340282366920938463463374607431768211456 % 18446744073709551616) / 1 % 256 from cut_shr 0 (by omega), show ((256 ^ 16 : Nat) : Int) = 340282366920938463463374607431768211456 from rfl]; omega
theorem fb17 {N : Int} (h : 0 ≤ N) : ucut .u8 (ushr (N / 340282366920938463463374607431768211456 % 18446744073709551616) 8) = byteN N 17 := by
  unfold byteN
  rw [show ucut .u8 (ushr (N / 340282366920938463463374607431768211456 % 18446744073709551616) 8) = (N / 340282366920938463463374607431768211456 % 18446744073709551616) / 256 % 256 from cut_shr 8 (by omega), show ((256 ^ 17 : Nat) : Int) = 87112285931760246646623899502532662132736 from rfl]; omega
theorem fb18 {N : Int} (h : 0 ≤ N) : ucut .u8 (ushr (N / 340282366920938463463374607431768211456 % 18446744073709551616) 16) = byteN N 18 := by
  unfold byteN
  rw [show ucut .u8 (ushr (N / 340282366920938463463374607431768211456 % 18446744073709551616) 16) = (N / 340282366920938463463374607431768211456 % 18446744073709551616) / 65536 % 256 from cut_shr 16 (by omega), show ((256 ^ 18 : Nat) : Int) = 22300745198530623141535718272648361505980416 from rfl]; omega
theorem fb19 {N : Int} (h : 0 ≤ N) : ucut .u8 (ushr (N / 340282366920938463463374607431768211456 % 18446744073709551616) 24) = byteN N 19 := by
  unfold byteN
  rw [show ucut .u8 (ushr (N / 340282366920938463463374607431768211456 % 18446744073709551616) 24) = (N / 340282366920938463463374607431768211456 % 18446744073709551616) / 16777216 % 256 from cut_shr 24 (by omega), show ((256 ^ 19 : Nat) : Int) = 5708990770823839524233143877797980545530986496 from rfl]; omega
theorem fb20 {N : Int} (h : 0 ≤ N) : ucut .u8 (ushr (N / 340282366920938463463374607431768211456 % 18446744073709551616) 32) = byteN N 20 := by
  unfold byteN
  rw [show ucut .u8 (ushr (N / 340282366920938463463374607431768211456 % 18446744073709551616) 32) = (N / 340282366920938463463374607431768211456 % 18446744073709551616) / 4294967296 % 256 from cut_shr 32 (by omega), show ((256 ^ 20 : Nat) : Int) = 1461501637330902918203684832716283019655932542976 from rfl]; omega
theorem fb21 {N : Int} (h : 0 ≤ N) : ucut .u8 (ushr (N / 340282366920938463463374607431768211456 % 18446744073709551616) 40) = byteN N 21 := by
  unfold byteN
  rw [show ucut .u8 (ushr (N / 340282366920938463463374607431768211456 % 18446744073709551616) 40) = (N / 340282366920938463463374607431768211456 % 18446744073709551616) / 1099511627776 % 256 from cut_shr 40 (by omega), show ((256 ^ 21 : Nat) : Int) = 374144419156711147060143317175368453031918731001856 from rfl]; omega
theorem fb22 {N : Int} (h : 0 ≤ N) : ucut .u8 (ushr (N / 340282366920938463463374607431768211456 % 18446744073709551616) 48) = byteN N 22 := by
  unfold byteN
  rw [show ucut .u8 (ushr (N / 340282366920938463463374607431768211456 % 18446744073709551616) 48) = (N / 340282366920938463463374607431768211456 % 18446744073709551616) / 281474976710656 % 256 from cut_shr 48 (by omega), show ((256 ^ 22 : Nat) : Int) = 95780971304118053647396689196894323976171195136475136 from rfl]; omega
theorem fb23 {N : Int} (h : 0 ≤ N) : ucut .u8 (ushr (N / 340282366920938463463374607431768211456 % 18446744073709551616) 56) = byteN N 23 := by
  unfold byteN
  rw [show ucut .u8 (ushr (N / 340282366920938463463374607431768211456 % 18446744073709551616) 56) = (N / 340282366920938463463374607431768211456 % 18446744073709551616) / 72057594037927936 % 256 from cut_shr 56 (by omega), show ((256 ^ 23 : Nat) : Int) = 24519928653854221733733552434404946937899825954937634816 from rfl]; omega
theorem fb24 {N : Int} (h : 0 ≤ N) : ucut .u8 (ushr (N / 6277101735386680763835789423207666416102355444464034512896 % 18446744073709551616) 0) = byteN N 24 := by
  unfold byteN
  rw [show ucut .u8 (ushr (N / 6277101735386680763835789423207666416102355444464034512896 % 18446744073709551616) 0) = (N / 6277101735386680763835789423207666416102355444464034512896 % 18446744073709551616) / 1 % 256 from cut_shr 0 (by omega), show ((256 ^ 24 : Nat) : Int) = 6277101735386680763835789423207666416102355444464034512896 from rfl]; omega
theorem fb25 {N : Int} (h : 0 ≤ N) : ucut .u8 (ushr (N / 6277101735386680763835789423207666416102355444464034512896 % 18446744073709551616) 8) = byteN N 25 := by
  unfold byteN
  rw [show ucut .u8 (ushr (N / 6277101735386680763835789423207666416102355444464034512896 % 18446744073709551616) 8) = (N / 6277101735386680763835789423207666416102355444464034512896 % 18446744073709551616) / 256 % 256 from cut_shr 8 (by omega), show ((256 ^ 25 : Nat) : Int) = 1606938044258990275541962092341162602522202993782792835301376 from rfl]; omega
theorem fb26 {N : Int} (h : 0 ≤ N) : ucut .u8 (ushr (N / 6277101735386680763835789423207666416102355444464034512896 % 18446744073709551616) 16) = byteN N 26 := by
  unfold byteN
  rw [show ucut .u8 (ushr (N / 6277101735386680763835789423207666416102355444464034512896 % 18446744073709551616) 16) = (N / 6277101735386680763835789423207666416102355444464034512896 % 18446744073709551616) / 65536 % 256 from cut_shr 16 (by omega), show ((256 ^ 26 : Nat) : Int) = 411376139330301510538742295639337626245683966408394965837152256 from rfl]; omega
theorem fb27 {N : Int} (h : 0 ≤ N) : ucut .u8 (ushr (N / 6277101735386680763835789423207666416102355444464034512896 % 18446744073709551616) 24) = byteN N 27 := by
  unfold byteN
  rw [show ucut .u8 (ushr (N / 6277101735386680763835789423207666416102355444464034512896 % 18446744073709551616) 24) = (N / 6277101735386680763835789423207666416102355444464034512896 % 18446744073709551616) / 16777216 % 256 from cut_shr 24 (by omega), show ((256 ^ 27 : Nat) : Int) = 105312291668557186697918027683670432318895095400549111254310977536 from rfl]; omega
theorem fb28 {N : Int} (h : 0 ≤ N) : ucut .u8 (ushr (N / 6277101735386680763835789423207666416102355444464034512896 % 18446744073709551616) 32) = byteN N 28 := by
  unfold byteN
  rw [show ucut .u8 (ushr (N / 6277101735386680763835789423207666416102355444464034512896 % 18446744073709551616) 32) = (N / 6277101735386680763835789423207666416102355444464034512896 % 18446744073709551616) / 4294967296 % 256 from cut_shr 32 (by omega), show ((256 ^ 28 : Nat) : Int) = 26959946667150639794667015087019630673637144422540572481103610249216 from rfl]; omega
theorem fb29 {N : Int} (h : 0 ≤ N) : ucut .u8 (ushr (N / 6277101735386680763835789423207666416102355444464034512896 % 18446744073709551616) 40) = byteN N 29 := by
  unfold byteN
  rw [show ucut .u8 (ushr (N / 6277101735386680763835789423207666416102355444464034512896 % 18446744073709551616) 40) = (N / 6277101735386680763835789423207666416102355444464034512896 % 18446744073709551616) / 1099511627776 % 256 from cut_shr 40 (by omega), show ((256 ^ 29 : Nat) : Int) = 6901746346790563787434755862277025452451108972170386555162524223799296 from rfl]; omega
theorem fb30 {N : Int} (h : 0 ≤ N) : ucut .u8 (ushr (N / 6277101735386680763835789423207666416102355444464034512896 % 18446744073709551616) 48) = byteN N 30 := by
  unfold byteN
  rw [show ucut .u8 (ushr (N / 6277101735386680763835789423207666416102355444464034512896 % 18446744073709551616) 48) = (N / 6277101735386680763835789423207666416102355444464034512896 % 18446744073709551616) / 281474976710656 % 256 from cut_shr 48 (by omega), show ((256 ^ 30 : Nat) : Int) = 1766847064778384329583297500742918515827483896875618958121606201292619776 from rfl]; omega
theorem fb31 {N : Int} (h : 0 ≤ N) : ucut .u8 (ushr (N / 6277101735386680763835789423207666416102355444464034512896 % 18446744073709551616) 56) = byteN N 31 := by
  unfold byteN
  rw [show ucut .u8 (ushr (N / 6277101735386680763835789423207666416102355444464034512896 % 18446744073709551616) 56) = (N / 6277101735386680763835789423207666416102355444464034512896 % 18446744073709551616) / 72057594037927936 % 256 from cut_shr 56 (by omega), show ((256 ^ 31 : Nat) : Int) = 452312848583266388373324160190187140051835877600158453279131187530910662656 from rfl]; omega
theorem fbyt_spec {m : Nat → Int} (h : FF m) : fbytL m = listF 32 (byteN (W5 m)) 0 := by
  obtain ⟨e0, e1, e2, e3, n0⟩ := fword_spec h
  generalize W5 m = N at *
  simp only [fbytL, e0, e1, e2, e3]
  rw [fb0 n0, fb1 n0, fb2 n0, fb3 n0, fb4 n0, fb5 n0, fb6 n0, fb7 n0, fb8 n0, fb9 n0, fb10 n0, fb11 n0, fb12 n0, fb13 n0, fb14 n0, fb15 n0, fb16 n0, fb17 n0, fb18 n0, fb19 n0, fb20 n0, fb21 n0, fb22 n0, fb23 n0, fb24 n0, fb25 n0, fb26 n0, fb27 n0, fb28 n0, fb29 n0, fb30 n0, fb31 n0]
  rfl
def fencN (la : List Int) (i : Nat) : Int := (fbytL (atL (fleaL (fcarN la)))).getD i 0
theorem fenc_spec {la : List Int} (h : FS la) : listF 32 (fencN la) 0 = listF 32 (byteN (W5 (atL la) % Q)) 0 := by
  obtain ⟨h1, q, hq⟩ := fcar_spec h.wide
  obtain ⟨f1, f2⟩ := flea_spec h1
  have e : W5 (atL (listF 5 (fcarN la) 0)) = W5 (fcarN la) := rfl
  have e2 : fleaL (atL (listF 5 (fcarN la) 0)) = fleaL (fcarN la) := rfl
  rw [e, hq] at f2
  rw [e2] at f1 f2
  rw [show W5 (atL la) % Q = (W5 (atL la) - Q * q) % Q from (Int.sub_mul_emod_self_left _ _ _).symm, ← f2, ← fbyt_spec f1]
  rfl

/-! ### decoded -/
def fdecL (f : Nat → Int) : List Int := [umask (word8 f 0) 2251799813685247, umask (ushr (word8 f 6) 3) 2251799813685247, umask (ushr (word8 f 12) 6) 2251799813685247, umask (ushr (word8 f 19) 1) 2251799813685247, umask (ushr (word8 f 24) 12) 2251799813685247]
theorem word_at {f : Nat → Int} (h : ∀ i, i < 32 → Byte (f i)) (i : Nat) (hi : i + 8 ≤ 32) : word8 f i = leN 32 f 0 / ((256 ^ i : Nat) : Int) % 18446744073709551616 := by
  have hw : ∀ j, j < 8 → Byte (f (i + j)) := fun j hj => h _ (by omega)
  rw [word8_spec hw]
  have e1 : leN 32 f 0 = leN i f 0 + ((256 ^ i : Nat) : Int) * leN (32 - i) f i := by
    have := leN_add i (32 - i) f 0
    rw [show i + (32 - i) = 32 by omega, Nat.zero_add] at this
    exact this
  have e2 : leN (32 - i) f i = leN 8 f i + 18446744073709551616 * leN (24 - i) f (i + 8) := by
    have := leN_add 8 (24 - i) f i
    rw [show 8 + (24 - i) = 32 - i by omega] at this
    exact this
  have b1 := leN_nonneg i (f := f) 0 (fun j hj => h _ (by omega))
  have b2 := leN_nonneg 8 (f := f) i hw
  have b3 : ((256 ^ 8 : Nat) : Int) = 18446744073709551616 := rfl
  rw [b3] at b2
  have hK : (0 : Int) < ((256 ^ i : Nat) : Int) := by exact_mod_cast Nat.pow_pos (by decide)
  rw [e1, e2]
  generalize ((256 ^ i : Nat) : Int) = K at *
  generalize leN i f 0 = A at *
  generalize leN 8 f i = B at *
  generalize leN (24 - i) f (i + 8) = C at *
  rw [Int.add_mul_ediv_left _ _ (by omega), Int.ediv_eq_zero_of_lt b1.1 b1.2]
  omega
theorem fdec_spec {f : Nat → Int} (h : ∀ i, i < 32 → Byte (f i)) : FS (fdecL f) ∧ W5 (atL (fdecL f)) = leN 32 f 0 % 57896044618658097711785492504343953926634992332820282019728792003956564819968 := by
  have w0 : word8 f 0 = leN 32 f 0 / 1 % 18446744073709551616 := word_at h 0 (by decide)
  have w1 : word8 f 6 = leN 32 f 0 / 281474976710656 % 18446744073709551616 := word_at h 6 (by decide)
  have w2 : word8 f 12 = leN 32 f 0 / 79228162514264337593543950336 % 18446744073709551616 := word_at h 12 (by decide)
  have w3 : word8 f 19 = leN 32 f 0 / 5708990770823839524233143877797980545530986496 % 18446744073709551616 := word_at h 19 (by decide)
  have w4 : word8 f 24 = leN 32 f 0 / 6277101735386680763835789423207666416102355444464034512896 % 18446744073709551616 := word_at h 24 (by decide)
  have n0 := (leN_nonneg 32 (f := f) 0 (fun j hj => h _ (by omega))).1
  generalize leN 32 f 0 = N at *
  have e0 : umask (word8 f 0) 2251799813685247 = N % 2251799813685248 := by rw [w0, umask51 (by omega)]; omega
  have e1 : umask (ushr (word8 f 6) 3) 2251799813685247 = N / 2251799813685248 % 2251799813685248 := by
    rw [w1, show ushr (N / 281474976710656 % 18446744073709551616) 3 = N / 281474976710656 % 18446744073709551616 / 8 from ushrE _ 3 (by omega), umask51 (by omega)]; omega
  have e2 : umask (ushr (word8 f 12) 6) 2251799813685247 = N / 5070602400912917605986812821504 % 2251799813685248 := by
    rw [w2, show ushr (N / 79228162514264337593543950336 % 18446744073709551616) 6 = N / 79228162514264337593543950336 % 18446744073709551616 / 64 from ushrE _ 6 (by omega), umask51 (by omega)]; omega
  have e3 : umask (ushr (word8 f 19) 1) 2251799813685247 = N / 11417981541647679048466287755595961091061972992 % 2251799813685248 := by
    rw [w3, show ushr (N / 5708990770823839524233143877797980545530986496 % 18446744073709551616) 1 = N / 5708990770823839524233143877797980545530986496 % 18446744073709551616 / 2 from ushrE _ 1 (by omega), umask51 (by omega)]; omega
  have e4 : umask (ushr (word8 f 24) 12) 2251799813685247 = N / 25711008708143844408671393477458601640355247900524685364822016 % 2251799813685248 := by
    rw [w4, show ushr (N / 6277101735386680763835789423207666416102355444464034512896 % 18446744073709551616) 12 = N / 6277101735386680763835789423207666416102355444464034512896 % 18446744073709551616 / 4096 from ushrE _ 12 (by omega), umask51 (by omega)]; omega
  have e : fdecL f = [N % 2251799813685248, N / 2251799813685248 % 2251799813685248, N / 5070602400912917605986812821504 % 2251799813685248, N / 11417981541647679048466287755595961091061972992 % 2251799813685248, N / 25711008708143844408671393477458601640355247900524685364822016 % 2251799813685248] := by
    simp only [fdecL, e0, e1, e2, e3, e4]
  rw [e]
  clear e e0 e1 e2 e3 e4 w0 w1 w2 w3 w4
  refine ⟨?_, ?_⟩
  · simp only [FS, atL, List.getD_cons_zero, List.getD_cons_succ]
    refine ⟨by omega, by omega, by omega, by omega, by omega⟩
  · simp only [W5, atL, List.getD_cons_zero, List.getD_cons_succ]
    omega
end Go.Vx

/- Prime numbers: Fermat's little theorem, and a test for primes (Pocklington). Plain law. -/
namespace Go.Vx

def Pr (p : Nat) : Prop := 2 ≤ p ∧ ∀ m, m ∣ p → m = 1 ∨ m = p
theorem Pr.coprime {p a : Nat} (h : Pr p) (hn : ¬ p ∣ a) : Nat.gcd p a = 1 := by
  rcases h.2 _ (Nat.gcd_dvd_left p a) with e | e
  · exact e
  · exact absurd (e ▸ Nat.gcd_dvd_right p a) hn
theorem Pr.dvd_mul {p a b : Nat} (h : Pr p) (hd : p ∣ a * b) : p ∣ a ∨ p ∣ b := by
  by_cases ha : p ∣ a
  · exact .inl ha
  · exact .inr (Nat.Coprime.dvd_of_dvd_mul_left (h.coprime ha) hd)
theorem Pr.exists : ∀ n : Nat, 2 ≤ n → ∃ p, Pr p ∧ p ∣ n := by
  intro n
  induction n using Nat.strongRecOn with
  | ind n ih =>
    intro hn
    by_cases h : ∃ m, m ∣ n ∧ m ≠ 1 ∧ m ≠ n
    · obtain ⟨m, hm, h1, h2⟩ := h
      have hpos : 0 < m := Nat.pos_of_dvd_of_pos hm (by omega)
      have hle : m ≤ n := Nat.le_of_dvd (by omega) hm
      obtain ⟨p, hp, hd⟩ := ih m (by omega) (by omega)
      exact ⟨p, hp, Nat.dvd_trans hd hm⟩
    · refine ⟨n, ⟨hn, fun m hm => ?_⟩, Nat.dvd_refl n⟩
      by_cases h1 : m = 1
      · exact .inl h1
      · by_cases h2 : m = n
        · exact .inr h2
        · exact absurd ⟨m, hm, h1, h2⟩ h

/-! ### Fermat -/
def ch : Nat → Nat → Nat
  | _, 0 => 1
  | 0, _ + 1 => 0
  | n + 1, k + 1 => ch n k + ch n (k + 1)
theorem ch_zero (n : Nat) : ch n 0 = 1 := by cases n <;> rfl
theorem ch_over : ∀ (n k : Nat), n < k → ch n k = 0
  | 0, k + 1, _ => rfl
  | n + 1, k + 1, h => by
    show ch n k + ch n (k + 1) = 0
    rw [ch_over n k (by omega), ch_over n (k + 1) (by omega)]
theorem ch_self : ∀ n, ch n n = 1
  | 0 => rfl
  | n + 1 => by show ch n n + ch n (n + 1) = 1; rw [ch_self n, ch_over n (n + 1) (by omega)]
theorem ch_mul : ∀ n k, (k + 1) * ch (n + 1) (k + 1) = (n + 1) * ch n k
  | 0, 0 => rfl
  | 0, k + 1 => by
    show (k + 1 + 1) * (ch 0 (k + 1) + ch 0 (k + 1 + 1)) = (0 + 1) * ch 0 (k + 1)
    rw [ch_over 0 (k + 1) (by omega), ch_over 0 (k + 1 + 1) (by omega)]; omega
  | n + 1, 0 => by
    have h := ch_mul n 0
    show (0 + 1) * (ch (n + 1) 0 + ch (n + 1) 1) = (n + 1 + 1) * ch (n + 1) 0
    rw [ch_zero] at h ⊢
    rw [Nat.zero_add] at h
    omega
  | n + 1, j + 1 => by
    have h1 := ch_mul n j
    have h2 := ch_mul n (j + 1)
    show (j + 1 + 1) * (ch (n + 1) (j + 1) + ch (n + 1) (j + 1 + 1)) = (n + 1 + 1) * ch (n + 1) (j + 1)
    rw [Nat.mul_add, h2]
    have e : ch (n + 1) (j + 1) = ch n j + ch n (j + 1) := rfl
    rw [Nat.add_mul (j + 1) 1, Nat.one_mul, h1, Nat.add_mul (n + 1) 1, Nat.one_mul]
    rw [e, Nat.mul_add]
    omega
def sm (n x : Nat) : Nat → Nat
  | 0 => 0
  | m + 1 => sm n x m + ch n m * x ^ m
theorem sm_succ (n x : Nat) : ∀ m, sm (n + 1) x (m + 1) = x * sm n x m + sm n x (m + 1)
  | 0 => by simp [sm, ch_zero]
  | m + 1 => by
    have ih := sm_succ n x m
    show sm (n + 1) x (m + 1) + (ch n m + ch n (m + 1)) * x ^ (m + 1) = x * (sm n x m + ch n m * x ^ m) + (sm n x (m + 1) + ch n (m + 1) * x ^ (m + 1))
    rw [ih, Nat.add_mul, Nat.mul_add, Nat.pow_succ]
    have : ch n m * (x ^ m * x) = x * (ch n m * x ^ m) := by rw [← Nat.mul_assoc, Nat.mul_comm]
    omega
theorem pow_sm (x : Nat) : ∀ n, (x + 1) ^ n = sm n x (n + 1)
  | 0 => by simp [sm, ch_zero]
  | n + 1 => by
    have ih := pow_sm x n
    rw [sm_succ n x (n + 1), Nat.pow_succ, ih]
    have e : sm n x (n + 1 + 1) = sm n x (n + 1) := by
      show sm n x (n + 1) + ch n (n + 1) * x ^ (n + 1) = _
      rw [ch_over n (n + 1) (by omega)]; omega
    rw [e, Nat.mul_add, Nat.mul_one, Nat.mul_comm]
theorem ch_dvd {p : Nat} (h : Pr p) {k : Nat} (h0 : 0 < k) (h1 : k < p) : p ∣ ch p k := by
  obtain ⟨n, rfl⟩ : ∃ n, p = n + 1 := ⟨p - 1, by have := h.1; omega⟩
  obtain ⟨j, rfl⟩ : ∃ j, k = j + 1 := ⟨k - 1, by omega⟩
  have e := ch_mul n j
  rcases h.dvd_mul (a := j + 1) (b := ch (n + 1) (j + 1)) ⟨ch n j, e⟩ with hd | hd
  · have := Nat.le_of_dvd (by omega) hd
    omega
  · exact hd
theorem sm_mod {p : Nat} (h : Pr p) (x : Nat) : ∀ m, m + 1 ≤ p → sm p x (m + 1) % p = 1 % p
  | 0, _ => by simp [sm, ch_zero]
  | m + 1, hm => by
    have ih := sm_mod h x m (by omega)
    obtain ⟨c, hc⟩ := ch_dvd h (k := m + 1) (by omega) (by omega)
    show (sm p x (m + 1) + ch p (m + 1) * x ^ (m + 1)) % p = _
    rw [hc, Nat.mul_assoc, Nat.add_mul_mod_self_left, ih]
theorem fermat {p : Nat} (h : Pr p) : ∀ a, a ^ p % p = a % p
  | 0 => by
    have := h.1
    obtain ⟨n, rfl⟩ : ∃ n, p = n + 1 := ⟨p - 1, by omega⟩
    simp [Nat.pow_succ]
  | a + 1 => by
    have ih := fermat h a
    have hs := sm_mod h a (p - 1) (by have := h.1; omega)
    rw [show p - 1 + 1 = p by have := h.1; omega] at hs
    rw [pow_sm]
    show (sm p a p + ch p p * a ^ p) % p = _
    rw [ch_self, Nat.one_mul, Nat.add_mod, hs, ih, ← Nat.add_mod, Nat.add_comm]
theorem fermat1 {p : Nat} (h : Pr p) {a : Nat} (ha : ¬ p ∣ a) : a ^ (p - 1) % p = 1 := by
  have h2 := h.1
  have hf := fermat h a
  have e : a ^ p = a ^ (p - 1) * a := by rw [← Nat.pow_succ]; congr 1; omega
  have hpos : 0 < a := by
    rcases Nat.eq_zero_or_pos a with h0 | h0
    · subst h0; exact absurd (Nat.dvd_zero p) ha
    · exact h0
  have h1 : 1 ≤ a ^ (p - 1) := Nat.pow_pos hpos
  have hd : p ∣ a * (a ^ (p - 1) - 1) := by
    rw [Nat.mul_sub, Nat.mul_one, Nat.mul_comm, ← e]
    have hle : a ≤ a ^ p := by rw [e]; exact Nat.le_mul_of_pos_left a h1
    exact Nat.dvd_of_mod_eq_zero (Nat.sub_mod_eq_zero_of_mod_eq hf)
  rcases h.dvd_mul hd with h3 | h3
  · exact absurd h3 ha
  · obtain ⟨c, hc⟩ := h3
    have : a ^ (p - 1) = 1 + p * c := by omega
    rw [this, Nat.add_mul_mod_self_left, Nat.mod_eq_of_lt (by omega)]

/-! ### a test for primes -/
/-- a raised to e, modulo n -/
def pm (n a : Nat) : Nat → Nat → Nat
  | 0, _ => 1 % n
  | f + 1, e => if e % 2 = 1 then (pm n (a * a % n) f (e / 2)) * a % n else pm n (a * a % n) f (e / 2)
theorem pm_eq (n : Nat) : ∀ (f a e : Nat), e < 2 ^ f → pm n a f e = a ^ e % n
  | 0, a, e, h => by
    have : e = 0 := by simpa using h
    subst this; rfl
  | f + 1, a, e, h => by
    have ih := pm_eq n f (a * a % n) (e / 2) (by rw [Nat.pow_succ] at h; omega)
    have hp : (a * a % n) ^ (e / 2) % n = a ^ (2 * (e / 2)) % n := by
      rw [← Nat.pow_mod, Nat.pow_mul, Nat.pow_two]
    show (if e % 2 = 1 then _ else _) = _
    by_cases ho : e % 2 = 1
    · rw [if_pos ho, ih, hp, Nat.mod_mul_mod, ← Nat.pow_succ]
      congr 2; omega
    · rw [if_neg ho, ih, hp]
      congr 2; omega
theorem one_gcd {l b : Nat} (hl : 2 ≤ l) : ∀ (m n : Nat), b ^ m % l = 1 → b ^ n % l = 1 → b ^ (Nat.gcd m n) % l = 1 := by
  intro m
  induction m using Nat.strongRecOn with
  | ind m ih =>
    intro n hm hn
    by_cases h0 : m = 0
    · subst h0; rw [Nat.gcd_zero_left]; exact hn
    · rw [Nat.gcd_rec]
      refine ih (n % m) (Nat.mod_lt _ (by omega)) m ?_ hm
      have e : n = m * (n / m) + n % m := (Nat.div_add_mod n m).symm
      rw [e, Nat.pow_add, Nat.pow_mul, Nat.mul_mod, Nat.pow_mod, hm, Nat.one_pow, Nat.mod_eq_of_lt (by omega : 1 < l), Nat.one_mul, Nat.mod_mod] at hn
      exact hn
/-- every prime that divides n is 1 more than a multiple of p -/
theorem pock_step {n p a : Nat} (hn : 2 ≤ n) (hp : Pr p) (hd : p ∣ n - 1) (h1 : a ^ (n - 1) % n = 1) (h2 : Nat.gcd (a ^ ((n - 1) / p) % n + n - 1) n = 1) {l : Nat} (hl : Pr l) (hln : l ∣ n) : p ∣ l - 1 := by
  by_cases hc : p ∣ l - 1
  · exact hc
  · exfalso
    have l2 := hl.1
    obtain ⟨b, hb⟩ : ∃ b, b = a ^ ((n - 1) / p) := ⟨_, rfl⟩
    have e1 : b ^ p % l = 1 := by
      rw [hb, ← Nat.pow_mul, Nat.div_mul_cancel hd, ← Nat.mod_mod_of_dvd _ hln, h1, Nat.mod_eq_of_lt (by omega)]
    have hlb : ¬ l ∣ b := fun hh => by
      obtain ⟨c, hc⟩ := hh
      have p2 := hp.1
      rw [hc, show p = (p - 1) + 1 by omega, Nat.pow_succ, Nat.mul_left_comm, Nat.mul_mod_right] at e1
      omega
    have e2 := fermat1 hl hlb
    have e3 := one_gcd l2 p (l - 1) e1 e2
    rw [hp.coprime hc, Nat.pow_one] at e3
    have e4 : l ∣ b % n + n - 1 := by
      have h4 : (b % n) % l = 1 := by rw [Nat.mod_mod_of_dvd _ hln]; exact e3
      have h5 : 1 ≤ b % n := by
        rcases Nat.eq_zero_or_pos (b % n) with h0 | h0
        · rw [h0] at h4; simp at h4
        · exact h0
      obtain ⟨c, hc⟩ := hln
      have h6 : b % n = l * (b % n / l) + 1 := by have := Nat.div_add_mod (b % n) l; omega
      refine ⟨b % n / l + c, ?_⟩
      rw [Nat.mul_add, ← hc]; omega
    have e5 : l ∣ 1 := by rw [← h2]; exact Nat.dvd_gcd (hb ▸ e4) hln
    have := Nat.le_of_dvd (by omega) e5
    omega
theorem two_dvd {p q m : Nat} (hp : Pr p) (hq : Pr q) (hne : p ≠ q) (h1 : p ∣ m) (h2 : q ∣ m) : p * q ∣ m := by
  refine Nat.Coprime.mul_dvd_of_dvd_of_dvd (hp.coprime fun h => ?_) h1 h2
  rcases hq.2 _ h with e | e
  · have := hp.1; omega
  · exact hne e
theorem pr_of {n F : Nat} (hn : 2 ≤ n) (hF : n < F * F) (h : ∀ l, Pr l → l ∣ n → F ∣ l - 1) : Pr n := by
  refine ⟨hn, fun m hm => ?_⟩
  by_cases h1 : m = 1
  · exact .inl h1
  · right
    have m0 : 0 < m := Nat.pos_of_dvd_of_pos hm (by omega)
    obtain ⟨k, hk⟩ := hm
    have big : ∀ x, 2 ≤ x → x ∣ n → F < x := fun x hx hd => by
      obtain ⟨l, hl, hlx⟩ := Pr.exists x hx
      have := Nat.le_of_dvd (by have := hl.1; omega) (h l hl (Nat.dvd_trans hlx hd))
      have := Nat.le_of_dvd (by omega) hlx
      omega
    have b1 := big m (by omega) ⟨k, hk⟩
    by_cases k1 : k = 1
    · rw [hk, k1, Nat.mul_one]
    · have k0 : 0 < k := by
        rcases Nat.eq_zero_or_pos k with h0 | h0
        · subst h0; omega
        · exact h0
      have b2 := big k (by omega) ⟨m, by rw [hk, Nat.mul_comm]⟩
      have := Nat.mul_lt_mul'' b1 b2
      omega
theorem pock1 {n p a : Nat} (hp : Pr p) (hn : 2 ≤ n) (hd : (n - 1) % p = 0) (hF : n < p * p) {f : Nat} (hf : n < 2 ^ f) (h1 : pm n a f (n - 1) = 1) (h2 : Nat.gcd (pm n a f ((n - 1) / p) + n - 1) n = 1) : Pr n := by
  rw [pm_eq n f a _ (by omega)] at h1
  rw [pm_eq n f a _ (Nat.lt_of_le_of_lt (Nat.div_le_self _ _) (by omega))] at h2
  exact pr_of hn hF fun l hl hln => pock_step hn hp (Nat.dvd_of_mod_eq_zero hd) h1 h2 hl hln
theorem pock2 {n p q a b : Nat} (hp : Pr p) (hq : Pr q) (hne : p ≠ q) (hn : 2 ≤ n) (hd : (n - 1) % p = 0) (hd' : (n - 1) % q = 0) (hF : n < (p * q) * (p * q)) {f : Nat} (hf : n < 2 ^ f) (h1 : pm n a f (n - 1) = 1) (h2 : Nat.gcd (pm n a f ((n - 1) / p) + n - 1) n = 1)
    (h3 : pm n b f (n - 1) = 1) (h4 : Nat.gcd (pm n b f ((n - 1) / q) + n - 1) n = 1) : Pr n := by
  rw [pm_eq n f _ _ (by omega)] at h1 h3
  rw [pm_eq n f _ _ (Nat.lt_of_le_of_lt (Nat.div_le_self _ _) (by omega))] at h2 h4
  exact pr_of hn hF fun l hl hln => two_dvd hp hq hne (pock_step hn hp (Nat.dvd_of_mod_eq_zero hd) h1 h2 hl hln) (pock_step hn hq (Nat.dvd_of_mod_eq_zero hd') h3 h4 hl hln)
/-- by trial -/
def noDiv (n : Nat) : Nat → Bool
  | 0 => true
  | 1 => true
  | k + 2 => (n % (k + 2) != 0) && noDiv n (k + 1)
theorem noDiv_spec {n : Nat} : ∀ {k : Nat}, noDiv n k = true → ∀ m, 2 ≤ m → m ≤ k → ¬ m ∣ n
  | 0, _, m, h1, h2 => by omega
  | 1, _, m, h1, h2 => by omega
  | k + 2, h, m, h1, h2 => by
    simp only [noDiv, Bool.and_eq_true, bne_iff_ne, ne_eq] at h
    by_cases e : m = k + 2
    · subst e; exact fun hd => h.1 (Nat.mod_eq_zero_of_dvd hd)
    · exact noDiv_spec h.2 m h1 (by omega)
theorem trial {n k : Nat} (hn : 2 ≤ n) (hk : n < (k + 1) * (k + 1)) (h : noDiv n k = true) : Pr n := by
  refine ⟨hn, fun m hm => ?_⟩
  by_cases h1 : m = 1
  · exact .inl h1
  · right
    obtain ⟨j, hj⟩ := hm
    have m0 : 0 < m := by
      rcases Nat.eq_zero_or_pos m with h0 | h0
      · subst h0; omega
      · exact h0
    have a1 : k < m := by
      by_cases hle : m ≤ k
      · exact absurd ⟨j, hj⟩ (noDiv_spec h m (by omega) hle)
      · omega
    by_cases j1 : j = 1
    · rw [hj, j1, Nat.mul_one]
    · have j0 : 0 < j := by
        rcases Nat.eq_zero_or_pos j with h0 | h0
        · subst h0; omega
        · exact h0
      have a2 : k < j := by
        by_cases hle : j ≤ k
        · exact absurd ⟨m, by rw [hj, Nat.mul_comm]⟩ (noDiv_spec h j (by omega) hle)
        · omega
      have := Nat.mul_le_mul (show k + 1 ≤ m from a1) (show k + 1 ≤ j from a2)
      omega
end Go.Vx

/- 2^255 - 19 is prime. -/
namespace Go.Vx
theorem pr_a : Pr 8574133 := trial (k := 2928) (by decide) (by decide) (by kernel_rfl)
theorem pr_b : Pr 47 := trial (k := 6) (by decide) (by decide) (by kernel_rfl)
theorem pr_c : Pr 75707 := trial (k := 275) (by decide) (by decide) (by kernel_rfl)
theorem pr_d : Pr 353 := trial (k := 18) (by decide) (by decide) (by kernel_rfl)
theorem pr_e : Pr 1919519569386763 := pock2 (p := 8574133) (q := 47) (a := 2) (b := 2) (f := 51) pr_a pr_b (by decide) (by decide) (by decide) (by decide) (by decide) (by decide +kernel) (by kernel_rfl) (by kernel_rfl) (by kernel_rfl) (by kernel_rfl)
theorem pr_f : Pr 75445702479781427272750846543864801 := pock2 (p := 1919519569386763) (q := 75707) (a := 2) (b := 2) (f := 116) pr_e pr_c (by decide) (by decide) (by decide) (by decide) (by decide) (by decide +kernel) (by kernel_rfl) (by kernel_rfl) (by kernel_rfl) (by kernel_rfl)
theorem pr_g : Pr 74058212732561358302231226437062788676166966415465897661863160754340907 := pock2 (p := 75445702479781427272750846543864801) (q := 353) (a := 2) (b := 2) (f := 236) pr_f pr_d (by decide) (by decide) (by decide) (by decide) (by decide) (by decide +kernel) (by kernel_rfl) (by kernel_rfl) (by kernel_rfl) (by kernel_rfl)
theorem pr_Q : Pr 57896044618658097711785492504343953926634992332820282019728792003956564819949 := pock1 (p := 74058212732561358302231226437062788676166966415465897661863160754340907) (a := 2) (f := 255) pr_g (by decide) (by decide) (by decide) (by decide +kernel) (by kernel_rfl) (by kernel_rfl)
end Go.Vx

/- Inverses modulo 2^255 - 19. Plain law. -/
namespace Go.Vx
open Go

def Qn : Nat := 57896044618658097711785492504343953926634992332820282019728792003956564819949
theorem Qn_pr : Pr Qn := pr_Q
theorem Q_Qn : Q = (Qn : Int) := rfl
theorem zpow_mod (n : Int) (e : Nat) : n ^ e % Q = (((n % Q).toNat ^ e % Qn : Nat) : Int) := by
  have h0 : 0 ≤ n % Q := Int.emod_nonneg _ (by decide)
  obtain ⟨m, hm⟩ := Int.eq_ofNat_of_zero_le h0
  have e1 : n ^ e % Q = (n % Q) ^ e % Q := by
    induction e with
    | zero => rw [Int.pow_zero, Int.pow_zero]
    | succ e ih => rw [Int.pow_succ, Int.pow_succ, Int.mul_emod, ih, Int.mul_emod ((n % Q) ^ e) (n % Q), Int.emod_emod_of_dvd n (Int.dvd_refl Q)]
  rw [e1, hm, Int.toNat_natCast, Q_Qn, ← Int.natCast_pow, ← Int.natCast_emod]
theorem fermatQ {n : Int} (h : n % Q ≠ 0) : n ^ (Qn - 1) % Q = 1 := by
  rw [zpow_mod]
  have h0 : 0 ≤ n % Q := Int.emod_nonneg _ (by decide)
  have h1 : n % Q < Q := Int.emod_lt_of_pos _ (by decide)
  rw [fermat1 Qn_pr fun hd => ?_]
  · rfl
  · obtain ⟨m, hm⟩ := Int.eq_ofNat_of_zero_le h0
    rw [hm, Int.toNat_natCast] at hd
    have := Nat.le_of_dvd (by omega) hd
    rw [hm, Q_Qn] at h1
    omega
theorem zmul_zero {a b : Int} (h : a * b % Q = 0) : a % Q = 0 ∨ b % Q = 0 := by
  have ha : 0 ≤ a % Q := Int.emod_nonneg _ (by decide)
  have hb : 0 ≤ b % Q := Int.emod_nonneg _ (by decide)
  have la : a % Q < Q := Int.emod_lt_of_pos _ (by decide)
  have lb : b % Q < Q := Int.emod_lt_of_pos _ (by decide)
  rw [Int.mul_emod] at h
  obtain ⟨x, hx⟩ := Int.eq_ofNat_of_zero_le ha
  obtain ⟨y, hy⟩ := Int.eq_ofNat_of_zero_le hb
  rw [hx, hy, Q_Qn, ← Int.natCast_mul, ← Int.natCast_emod] at h
  rw [hx, Q_Qn] at la
  rw [hy, Q_Qn] at lb
  have hd : Qn ∣ x * y := Nat.dvd_of_mod_eq_zero (by omega)
  rcases Qn_pr.dvd_mul hd with h1 | h1
  · left
    rw [hx]
    rcases Nat.eq_zero_or_pos x with h2 | h2
    · omega
    · have := Nat.le_of_dvd h2 h1; omega
  · right
    rw [hy]
    rcases Nat.eq_zero_or_pos y with h2 | h2
    · omega
    · have := Nat.le_of_dvd h2 h1; omega
/-- powers, reckoned modulo Q -/
def pwN (a : Int) : Nat → Int
  | 0 => a
  | n + 1 => pwN a n * pwN a n * a
def invP (n : Int) : Int :=
  let y := pwN n 249
  let y1 := y * y
  let y2 := y1 * y1 * n
  let y3 := y2 * y2
  let y4 := y3 * y3 * n
  y4 * y4 * n
def ex : Nat → Nat
  | 0 => 1
  | n + 1 => ex n + ex n + 1
theorem pwN_pow (a : Int) : ∀ n, pwN a n = a ^ ex n
  | 0 => by show a = a ^ (0 + 1); rw [Int.pow_succ, Int.pow_zero, Int.one_mul]
  | n + 1 => by
    show pwN a n * pwN a n * a = _
    rw [pwN_pow a n, ← Int.pow_add, ← Int.pow_succ]; rfl
theorem invP_pow (n : Int) : invP n = n ^ (Qn - 2) := by
  have h : ∀ {x : Int} {e : Nat}, x = n ^ e → x * x = n ^ (e + e) := fun h => by rw [h, ← Int.pow_add]
  have h' : ∀ {x : Int} {e : Nat}, x = n ^ e → x * n = n ^ (e + 1) := fun h => by rw [h, ← Int.pow_succ]
  have h0 := pwN_pow n 249
  have r := h' (h (h' (h (h (h' (h (h h0)))))))
  have e : ((ex 249 + ex 249 + (ex 249 + ex 249) + 1 + (ex 249 + ex 249 + (ex 249 + ex 249) + 1) + (ex 249 + ex 249 + (ex 249 + ex 249) + 1 + (ex 249 + ex 249 + (ex 249 + ex 249) + 1)) + 1 + (ex 249 + ex 249 + (ex 249 + ex 249) + 1 + (ex 249 + ex 249 + (ex 249 + ex 249) + 1) + (ex 249 + ex 249 + (ex 249 + ex 249) + 1 + (ex 249 + ex 249 + (ex 249 + ex 249) + 1)) + 1) + 1)) = Qn - 2 := by kernel_rfl
  rw [e] at r
  exact r
theorem inv_zero {n : Int} (h : n % Q = 0) : invP n % Q = 0 := by
  obtain ⟨e, he⟩ : ∃ e, Qn - 2 = e + 1 := ⟨Qn - 3, by decide⟩
  rw [invP_pow, he, Int.pow_succ, Int.mul_emod, h, Int.mul_zero]; rfl
theorem inv_mul {n : Int} (h : n % Q ≠ 0) : n * invP n % Q = 1 := by
  have e : Qn - 1 = Qn - 2 + 1 := by decide
  have hf := fermatQ h
  rw [e, Int.pow_succ, Int.mul_comm, ← invP_pow] at hf
  exact hf
theorem inv_nz {n : Int} (h : n % Q ≠ 0) : invP n % Q ≠ 0 := fun h2 => by
  have := inv_mul h
  rw [Int.mul_emod, h2, Int.mul_zero] at this
  exact absurd this (by decide)
theorem emod_mul_l {a b c : Int} (h : a % Q = b % Q) : c * a % Q = c * b % Q := by rw [Int.mul_emod, h, ← Int.mul_emod]
theorem emod_mul_r {a b c : Int} (h : a % Q = b % Q) : a * c % Q = b * c % Q := by rw [Int.mul_emod, h, ← Int.mul_emod]
theorem inv_inv (n : Int) : invP (invP n) % Q = n % Q := by
  by_cases h : n % Q = 0
  · rw [inv_zero (inv_zero h), h]
  · have h1 := inv_mul h
    have h2 := inv_mul (inv_nz h)
    have e1 : n * (invP n * invP (invP n)) % Q = n * 1 % Q := emod_mul_l h2
    have e2 : n * invP n * invP (invP n) % Q = 1 * invP (invP n) % Q := emod_mul_r h1
    rw [Int.mul_assoc, e1, Int.mul_one, Int.one_mul] at e2
    exact e2.symm
theorem inv_prod (a b : Int) : invP (a * b) = invP a * invP b := by rw [invP_pow, invP_pow, invP_pow, Int.mul_pow]
end Go.Vx

/- Numbers as sixteen digits of 16 bits. Plain law. -/
namespace Go.Vx
open Go

/-- the number of n digits to the base 65536 from the i-th on -/
def hx : Nat → (Nat → Int) → Nat → Int
  | 0, _, _ => 0
  | n + 1, f, i => f i + 65536 * hx n f (i + 1)
abbrev E255 : Int := 57896044618658097711785492504343953926634992332820282019728792003956564819968
def dgN (N : Int) (i : Nat) : Int := if i = 15 then N / ((65536 ^ 15 : Nat) : Int) % 32768 else N / ((65536 ^ i : Nat) : Int) % 65536
/-- what is carried into the i-th digit -/
def hcr (t : Nat → Int) : Nat → Int
  | 0 => 0
  | i + 1 => (t i + hcr t i) / 65536
theorem hx_nonneg : ∀ (n : Nat) {f : Nat → Int} (i : Nat), (∀ j, j < n → 0 ≤ f (i + j)) → 0 ≤ hx n f i
  | 0, f, i, _ => by simp [hx]
  | n + 1, f, i, h => by
    have h0 := h 0 (by omega)
    have h1 := hx_nonneg n (f := f) (i + 1) (fun j hj => by have := h (j + 1) (by omega); rw [show i + 1 + j = i + (j + 1) by omega]; exact this)
    simp only [hx]
    rw [Nat.add_zero] at h0
    omega
theorem hx_carry {t : Nat → Int} : ∀ (i n : Nat), hx (i + n) t 0 / ((65536 ^ i : Nat) : Int) = hcr t i + hx n t i
  | 0, n => by simp [hcr]
  | i + 1, n => by
    have ih := hx_carry (t := t) i (n + 1)
    have e : ((65536 ^ (i + 1) : Nat) : Int) = ((65536 ^ i : Nat) : Int) * 65536 := by rw [Nat.pow_succ]; omega
    rw [e, ← Int.ediv_ediv_of_nonneg (by exact Int.natCast_nonneg _), show i + 1 + n = i + (n + 1) by omega, ih]
    simp only [hx, hcr]
    omega
theorem hx_digit {t : Nat → Int} {i : Nat} (hi : i < 16) : (t i + hcr t i) % 65536 = hx 16 t 0 / ((65536 ^ i : Nat) : Int) % 65536 := by
  have e := hx_carry (t := t) i (15 - i + 1)
  have e1 : hx 16 t 0 = hx (i + (15 - i + 1)) t 0 := by rw [show i + (15 - i + 1) = 16 by omega]
  rw [e1, e]; simp only [hx]; omega
theorem hx_last {t : Nat → Int} : t 15 + hcr t 15 = hx 16 t 0 / ((65536 ^ 15 : Nat) : Int) := by
  have e := hx_carry (t := t) 15 1
  rw [show (16 : Nat) = 15 + 1 from rfl, e]; simp only [hx]; omega
theorem hcr_lt {t : Nat → Int} {B : Int} (hB : 65536 ≤ B) (h : ∀ j, j < 16 → -B < t j ∧ t j < B) : ∀ i, i ≤ 16 → -B ≤ hcr t i ∧ hcr t i < B
  | 0, _ => by simp only [hcr]; omega
  | i + 1, hi => by
    have ih := hcr_lt hB h i (by omega)
    have := h i (by omega)
    simp only [hcr]
    omega
theorem hx_congr : ∀ (n : Nat) {f g : Nat → Int} (i : Nat), (∀ j, j < n → f (i + j) = g (i + j)) → hx n f i = hx n g i
  | 0, _, _, _, _ => rfl
  | n + 1, f, g, i, h => by
    simp only [hx]
    have h0 := h 0 (by omega)
    rw [Nat.add_zero] at h0
    have h1 := hx_congr n (f := f) (g := g) (i + 1) (fun j hj => by have := h (j + 1) (by omega); rw [show i + 1 + j = i + (j + 1) by omega]; exact this)
    rw [h0, h1]
/-- the digits of a number -/
theorem hx_digits : ∀ (n : Nat) (N : Int) (i : Nat), hx n (fun j => N / ((65536 ^ j : Nat) : Int) % 65536) i = N / ((65536 ^ i : Nat) : Int) % ((65536 ^ n : Nat) : Int)
  | 0, N, i => by simp [hx, Int.emod_one]
  | n + 1, N, i => by
    simp only [hx, hx_digits n N (i + 1)]
    have e : ((65536 ^ (i + 1) : Nat) : Int) = ((65536 ^ i : Nat) : Int) * 65536 := by rw [Nat.pow_succ]; omega
    have e2 : ((65536 ^ (n + 1) : Nat) : Int) = 65536 * ((65536 ^ n : Nat) : Int) := by rw [Nat.pow_succ]; omega
    rw [e, ← Int.ediv_ediv_of_nonneg (by exact Int.natCast_nonneg _), e2]
    generalize N / ((65536 ^ i : Nat) : Int) = M
    have hK : (0 : Int) < ((65536 ^ n : Nat) : Int) := by exact_mod_cast Nat.pow_pos (by decide)
    generalize ((65536 ^ n : Nat) : Int) = K at hK
    have h1 := Int.emod_nonneg (M / 65536) (show K ≠ 0 by omega)
    have h2 := Int.emod_lt_of_pos (M / 65536) hK
    have h3 := Int.mul_ediv_add_emod (M / 65536) K
    refine (emod_of (by omega) (by omega) ⟨M / 65536 / K, ?_⟩).symm
    have h4 : 65536 * K * (M / 65536 / K) = 65536 * (K * (M / 65536 / K)) := Int.mul_assoc _ _ _
    rw [h4]
    omega
theorem p15 : ((65536 ^ 15 : Nat) : Int) = 1766847064778384329583297500742918515827483896875618958121606201292619776 := rfl
theorem p16 : ((65536 ^ 16 : Nat) : Int) = 115792089237316195423570985008687907853269984665640564039457584007913129639936 := rfl
theorem hx_dgN (N : Int) : hx 16 (dgN N) 0 = N % E255 := by
  have h1 : hx 16 (dgN N) 0 = hx 15 (dgN N) 0 + 1766847064778384329583297500742918515827483896875618958121606201292619776 * dgN N 15 := by
    have split : ∀ (n : Nat) (f : Nat → Int) (i : Nat), hx (n + 1) f i = hx n f i + ((65536 ^ n : Nat) : Int) * f (i + n) := by
      intro n
      induction n with
      | zero => intro f i; simp [hx]
      | succ n ih =>
        intro f i
        rw [show hx (n + 1 + 1) f i = f i + 65536 * hx (n + 1) f (i + 1) from rfl, ih f (i + 1), show hx (n + 1) f i = f i + 65536 * hx n f (i + 1) from rfl, Nat.pow_succ, show i + 1 + n = i + (n + 1) by omega]
        have : (((65536 ^ n * 65536 : Nat)) : Int) = 65536 * ((65536 ^ n : Nat) : Int) := by omega
        rw [this, Int.mul_add, Int.mul_assoc, Int.add_assoc]
    rw [show (16 : Nat) = 15 + 1 from rfl, split 15, p15, Nat.zero_add]
  have h2 : hx 15 (dgN N) 0 = hx 15 (fun j => N / ((65536 ^ j : Nat) : Int) % 65536) 0 := hx_congr 15 0 fun j hj => by
    show dgN N (0 + j) = N / ((65536 ^ (0 + j) : Nat) : Int) % 65536
    unfold dgN; rw [if_neg (by omega)]
  have h3 := hx_digits 15 N 0
  have e0 : ((65536 ^ 0 : Nat) : Int) = 1 := rfl
  rw [e0, p15, Int.ediv_one] at h3
  have e15 : dgN N 15 = N / 1766847064778384329583297500742918515827483896875618958121606201292619776 % 32768 := rfl
  rw [h1, h2, h3, e15]
  simp only [E255]
  omega
theorem dgN_bound (N : Int) (i : Nat) : 0 ≤ dgN N i ∧ dgN N i < 65536 ∧ (i = 15 → dgN N i < 32768) := by
  unfold dgN
  split
  · refine ⟨by omega, by omega, fun _ => by omega⟩
  · refine ⟨by omega, by omega, fun h => absurd h (by assumption)⟩
end Go.Vx

/- Sums and products of numbers of sixteen digits. Plain law. -/
namespace Go.Vx
open Go

theorem hx_plus : ∀ (n : Nat) (f g : Nat → Int) (i : Nat), hx n (fun j => f j + g j) i = hx n f i + hx n g i
  | 0, _, _, _ => rfl
  | n + 1, f, g, i => by simp only [hx, hx_plus n f g (i + 1)]; omega
theorem hx_minus : ∀ (n : Nat) (f g : Nat → Int) (i : Nat), hx n (fun j => f j - g j) i = hx n f i - hx n g i
  | 0, _, _, _ => rfl
  | n + 1, f, g, i => by simp only [hx, hx_minus n f g (i + 1)]; omega
theorem hx_times (c : Int) : ∀ (n : Nat) (f : Nat → Int) (i : Nat), hx n (fun j => c * f j) i = c * hx n f i
  | 0, _, _ => by simp [hx]
  | n + 1, f, i => by
    simp only [hx, hx_times c n f (i + 1), Int.mul_add]
    rw [Int.mul_left_comm]
theorem hx_null : ∀ (n : Nat) {f : Nat → Int} (i : Nat), (∀ j, j < n → f (i + j) = 0) → hx n f i = 0
  | 0, _, _, _ => rfl
  | n + 1, f, i, h => by
    simp only [hx]
    have h0 := h 0 (by omega)
    rw [Nat.add_zero] at h0
    rw [h0, hx_null n (i + 1) (fun j hj => by have := h (j + 1) (by omega); rw [show i + 1 + j = i + (j + 1) by omega]; exact this)]
    rfl
theorem hx_cut : ∀ (n m : Nat) (f : Nat → Int) (i : Nat), hx (n + m) f i = hx n f i + ((65536 ^ n : Nat) : Int) * hx m f (i + n)
  | 0, m, f, i => by simp [hx]
  | n + 1, m, f, i => by
    rw [show n + 1 + m = (n + m) + 1 by omega]
    simp only [hx, hx_cut n m f (i + 1)]
    have e : ((65536 ^ (n + 1) : Nat) : Int) = 65536 * ((65536 ^ n : Nat) : Int) := by rw [Nat.pow_succ]; omega
    rw [e, show i + 1 + n = i + (n + 1) by omega, Int.mul_add, Int.mul_assoc]
    omega
theorem hx_moved : ∀ (n : Nat) {f g : Nat → Int} (i k : Nat), (∀ j, j < n → f (i + j) = g (k + j)) → hx n f i = hx n g k
  | 0, _, _, _, _, _ => rfl
  | n + 1, f, g, i, k, h => by
    simp only [hx]
    have h0 := h 0 (by omega)
    rw [Nat.add_zero, Nat.add_zero] at h0
    rw [h0, hx_moved n (f := f) (g := g) (i + 1) (k + 1) (fun j hj => by have := h (j + 1) (by omega); rw [show i + 1 + j = i + (j + 1) by omega, show k + 1 + j = k + (j + 1) by omega]; exact this)]

/-- the columns after i rows -/
def mwC (a b : Nat → Int) : Nat → Nat → Int
  | 0, _ => 0
  | i + 1, j => bif (Nat.ble i j).and (Nat.blt j (i + 16)) then mwC a b i j + a i * b (j - i) else mwC a b i j
/-- one row -/
def mrC (a b : Nat → Int) (i j : Nat) : Int := bif (Nat.ble i j).and (Nat.blt j (i + 16)) then a i * b (j - i) else 0
theorem mwC_succ (a b : Nat → Int) (i j : Nat) : mwC a b (i + 1) j = mwC a b i j + mrC a b i j := by
  simp only [mwC, mrC]
  cases (Nat.ble i j).and (Nat.blt j (i + 16)) <;> simp
theorem mr_in {a b : Nat → Int} {i j : Nat} (h : i ≤ j) (h2 : j < i + 16) : mrC a b i j = a i * b (j - i) := by
  have e : (Nat.ble i j).and (Nat.blt j (i + 16)) = true := by
    rw [Bool.and_eq_true, Nat.ble_eq, Nat.blt_eq]; exact ⟨h, h2⟩
  simp only [mrC, e, cond_true]
theorem mr_out {a b : Nat → Int} {i j : Nat} (h : j < i ∨ i + 16 ≤ j) : mrC a b i j = 0 := by
  have e : (Nat.ble i j).and (Nat.blt j (i + 16)) = false := by
    rw [← Bool.not_eq_true, Bool.and_eq_true, Nat.ble_eq, Nat.blt_eq]; omega
  simp only [mrC, e, cond_false]
theorem hx_row (a b : Nat → Int) {i : Nat} (hi : i < 16) : hx 32 (mrC a b i) 0 = ((65536 ^ i : Nat) : Int) * (a i * hx 16 b 0) := by
  have e : (32 : Nat) = i + (16 + (16 - i)) := by omega
  rw [e, hx_cut i, hx_cut 16, hx_null i 0 (fun j hj => mr_out (.inl (by omega))), hx_null (16 - i) _ (fun j hj => mr_out (.inr (by omega)))]
  rw [hx_moved 16 (f := mrC a b i) (g := fun j => a i * b j) (0 + i) 0 (fun j hj => by
    rw [mr_in (by omega) (by omega), show 0 + i + j - i = 0 + j by omega]), hx_times]
  simp
theorem hx_rows (a b : Nat → Int) : ∀ i, i ≤ 16 → hx 32 (mwC a b i) 0 = hx i a 0 * hx 16 b 0
  | 0, _ => by rw [hx_null 32 0 (fun j _ => rfl)]; simp [hx]
  | i + 1, h => by
    have e : mwC a b (i + 1) = fun j => mwC a b i j + mrC a b i j := funext fun j => mwC_succ a b i j
    rw [e, hx_plus, hx_rows a b i (by omega), hx_row a b (by omega), hx_cut i 1]
    simp only [hx, Nat.zero_add, Int.mul_zero, Int.add_zero]
    rw [Int.add_mul, Int.mul_assoc]
theorem hx_prod (a b : Nat → Int) : hx 32 (mwC a b 16) 0 = hx 16 a 0 * hx 16 b 0 := hx_rows a b 16 (Nat.le_refl _)

theorem mul_bound {x y : Int} (hx : 0 ≤ x ∧ x ≤ 65535) (hy : 0 ≤ y ∧ y ≤ 65535) : 0 ≤ x * y ∧ x * y ≤ 4294836225 := by
  refine ⟨Int.mul_nonneg hx.1 hy.1, ?_⟩
  have := Int.mul_le_mul hx.2 hy.2 hy.1 (by decide : (0 : Int) ≤ 65535)
  omega
theorem mr_bound {a b : Nat → Int} (ha : ∀ j, j < 16 → 0 ≤ a j ∧ a j ≤ 65535) (hb : ∀ j, j < 16 → 0 ≤ b j ∧ b j ≤ 65535) {i : Nat} (hi : i < 16) (j : Nat) : 0 ≤ mrC a b i j ∧ mrC a b i j ≤ 4294836225 := by
  by_cases h : i ≤ j ∧ j < i + 16
  · rw [mr_in h.1 h.2]; exact mul_bound (ha i hi) (hb _ (by omega))
  · rw [mr_out (by omega)]; decide
theorem mw_bound {a b : Nat → Int} (ha : ∀ j, j < 16 → 0 ≤ a j ∧ a j ≤ 65535) (hb : ∀ j, j < 16 → 0 ≤ b j ∧ b j ≤ 65535) : ∀ (i : Nat), i ≤ 16 → ∀ j, 0 ≤ mwC a b i j ∧ mwC a b i j ≤ 4294836225 * i
  | 0, _, j => by simp [mwC]
  | i + 1, h, j => by
    have ih := mw_bound ha hb i (by omega) j
    have h1 := mr_bound ha hb (i := i) (by omega) j
    rw [mwC_succ]
    omega
/-- the columns folded by 2^256 = 38 -/
def mtC (a b : Nat → Int) (i : Nat) : Int := mwC a b 16 i + 38 * mwC a b 16 (i + 16)
theorem hx_mt (a b : Nat → Int) : ∃ q, hx 16 (mtC a b) 0 = hx 16 a 0 * hx 16 b 0 - 57896044618658097711785492504343953926634992332820282019728792003956564819949 * q := by
  have h := hx_prod a b
  rw [show (32 : Nat) = 16 + 16 from rfl, hx_cut 16 16] at h
  have e : hx 16 (mtC a b) 0 = hx 16 (mwC a b 16) 0 + 38 * hx 16 (mwC a b 16) (0 + 16) := by
    show hx 16 (fun j => mwC a b 16 j + 38 * mwC a b 16 (j + 16)) 0 = _
    rw [hx_plus, hx_times, hx_moved 16 (f := fun j => mwC a b 16 (j + 16)) (g := mwC a b 16) 0 (0 + 16) (fun j _ => by
      show mwC a b 16 (0 + j + 16) = _; rw [show 0 + j + 16 = 0 + 16 + j by omega])]
  rw [p16] at h
  refine ⟨2 * hx 16 (mwC a b 16) (0 + 16), ?_⟩
  rw [e, ← h]
  omega
end Go.Vx

/- Chunks that change their number; a nil slice in a chunk's last cell as a slice of its own. -/
namespace Go.Vx
open Go
section
variable {w0 : World} {O : Own} {ρ : Rho} {w : World} {Φ : Nat → Foot}

theorem relH_adoptB {B : List Body} {k : Nat} {cs : List SV} {bd : Body} (hk : B[k]? = some (.cells (cs ++ [.raw (.slice none 0 0)]))) (hb : emptyB bd) (hn : ρ B.length = none) (x : RelH w0 O ρ (BH B) w Φ) :
    RelH w0 O (upR ρ B.length (.sl none 0 0)) (BH (B.set k (.cells (cs ++ [.own B.length])) ++ [bd])) w (upF Φ B.length fun _ _ => False) := by
  have hkl : k < B.length := (List.getElem?_eq_some_iff.1 hk).1
  have y := x.adopt hn hb
  have hk2 : upH (BH B) B.length (some bd) k = some (.cells (cs ++ [.raw (.slice none 0 0)])) := by
    unfold upH; rw [if_neg (by omega)]; exact hk
  have z := y.swap (i := k) (bd' := .cells (cs ++ [.own B.length])) hk2 (fun hd hr hh => by
    cases hd with
    | sl a b c => exact hh.elim
    | «at» b base =>
      obtain ⟨q1, q2, q3⟩ := hh
      refine ⟨trivial, ?_, ?_⟩
      · have : (cellsOf (Body.cells (cs ++ [SV.own B.length]))).length = (cellsOf (Body.cells (cs ++ [SV.raw (.slice none 0 0)]))).length := by simp [cellsOf]
        rw [this]; exact q2
      · intro j c hj
        by_cases hlt : j < cs.length
        · refine q3 j c ?_
          have h1 : (cs ++ [SV.own B.length])[j]? = some c := hj
          show (cs ++ [SV.raw (.slice none 0 0)])[j]? = some c
          rw [List.getElem?_append_left hlt] at h1 ⊢
          exact h1
        · have h1 : (cs ++ [SV.own B.length])[j]? = some c := hj
          have hj2 : j = cs.length := by
            have := (List.getElem?_eq_some_iff.1 h1).1
            simp at this; omega
          subst hj2
          simp at h1; subst h1
          obtain ⟨v, a1, a2, a3, a4⟩ := q3 cs.length (.raw (.slice none 0 0)) (by show (cs ++ [SV.raw (.slice none 0 0)])[cs.length]? = _; simp)
          refine ⟨v, a1, ?_, a3, a4⟩
          simp only [DenC] at a2 ⊢
          obtain ⟨e, _⟩ := a2
          simp at e; subst e
          exact ⟨none, 0, 0, by simp [upR], rfl⟩)
  refine relH_funext (fun j => ?_) z
  unfold upH BH
  by_cases e : j = k
  · subst e
    rw [if_pos rfl, List.getElem?_append_left (by simpa using hkl)]
    simp [hkl]
  · rw [if_neg e]
    by_cases e2 : j = B.length
    · subst e2; simp
    · rw [if_neg e2]
      by_cases hjl : j < B.length
      · rw [List.getElem?_append_left (by simpa using hjl), List.getElem?_set_ne (Ne.symm e)]
      · rw [List.getElem?_eq_none (Nat.le_of_not_lt hjl), List.getElem?_eq_none (by simp; omega)]
end

theorem SimC.adoptB {P : Program} {w0 : World} {O : Own} {nT m : Nat} {c : Code} {S S1 : List (Nat × SV)} {B B1 : List Body} {e : Ex} {k : Nat} {cs : List SV} (bd : Body) (hk : B[k]? = some (.cells (cs ++ [.raw (.slice none 0 0)]))) (hb : emptyB bd)
    (h : SimC P w0 O nT c S (B.set k (.cells (cs ++ [.own B.length])) ++ [bd]) e S1 B1 m) : SimC P w0 O nT c S B e S1 B1 m := by
  intro ρ Φ a w r hr
  have hn := hr B.length (Nat.le_refl _)
  have x := relH_adoptB hk hb hn r.heap
  refine wpL_mono (h _ _ a w ⟨r.size, r.defers, fun t' => DenV.mono (Ext.up hn _) (r.tmps t'), x⟩ fun j hj => by
    simp at hj
    simp [upR, show j ≠ B.length by omega]; exact hr j (by omega)) fun e' a' w' ⟨he, ρ', Φ', q1, q2, q3⟩ => ⟨he, ρ', Φ', fun j hd hj hh => q1 j hd hj (Ext.up hn _ j hd hh), q2, q3⟩

theorem FnOk.adoptB {g : Ctx} {f : FuncId} {args : List SV} {B : List Body} {k : Nat} {cs : List SV} {bd bd' : Body} {v v' : SV} {upd upd' : List (Nat × Option Body)} {C C' : List Prop} (hk : B[k]? = some (.cells (cs ++ [.raw (.slice none 0 0)]))) (hb : emptyB bd) (hnd : (upto B.length ++ [B.length + 1]).Nodup)
    (h : FnOk g f args (B.set k (.cells (cs ++ [.own B.length])) ++ [bd]) { val := v, upd, new := [bd'], C })
    (hv : mapC (idx (upto B.length ++ [B.length + 1])) v = v') (hu : ∀ y ∈ upd', y.1 < B.length) {bd2 : Body}
    (hL : ∀ j, j < B.length + 1 → renH (afterH (B.set k (.cells (cs ++ [.own B.length])) ++ [bd]) { val := v, upd, new := [bd'], C }) (upto B.length ++ [B.length + 1]) j = afterH B { val := v', upd := upd', new := [bd2], C := C' } j) :
    FnOk g f args B { val := v', upd := upd', new := [bd2], C := C' } := by
  intro w0 O hG ρ Φ vs w d x hr
  have hn := hr B.length (Nat.le_refl _)
  have hlen : (B.set k (.cells (cs ++ [.own B.length])) ++ [bd]).length = B.length + 1 := by simp
  have hidl : (upto B.length ++ [B.length + 1]).length = B.length + 1 := by simp [upto_length]
  refine (h w0 O hG _ _ vs w (DenT.mono (Ext.up hn _) _ _ d) (relH_adoptB hk hb hn x) (fun j hj => by
    rw [hlen] at hj
    simp [upR, show j ≠ B.length by omega]; exact hr j (by omega))).mono fun u w' ⟨ρ', Φ', p1, p2, p3, p4⟩ => ?_
  refine ⟨inR ρ' (upto B.length ++ [B.length + 1]), inF Φ' (upto B.length ++ [B.length + 1]), ?_, fun j hd hj => ?_, fun j hj => ?_, ?_⟩
  · rw [← hv]; exact denV_map (inR_idx ρ' _) p1
  · have hjl : j < B.length := by
      rcases Nat.lt_or_ge j B.length with e | e
      · exact e
      · rw [hr j e] at hj; simp at hj
    have : (upto B.length ++ [B.length + 1])[j]? = some j := by rw [List.getElem?_append_left (by rw [upto_length]; exact hjl), upto_get, if_pos hjl]
    simp [inR, this]
    exact p2 j hd (Ext.up hn _ j hd hj)
  · simp at hj
    simp [inR, List.getElem?_eq_none (show (upto B.length ++ [B.length + 1]).length ≤ j by omega)]
  · refine relH_funext (fun j => ?_) (relH_ren p4 hnd)
    rcases Nat.lt_or_ge j (B.length + 1) with hj | hj
    · exact hL j hj
    · unfold renH afterH newH
      rw [List.getElem?_eq_none (by omega), newAll_get, if_neg (by simp; omega)]
      simp only [Option.bind_none, Option.map_none]
      rw [updAll_far upd' (BH B) (fun y hy => by have := hu y hy; omega)]
      simp [BH, List.getElem?_eq_none (show B.length ≤ j by omega)]

/-- a chunk that stays, told of under a new number -/
theorem FnOk.shift {g : Ctx} {f : FuncId} {args : List SV} {B : List Body} {i : Nat} {v v' : SV} {upd upd' : List (Nat × Option Body)} {C C' : List Prop} {bd : Body} (ids : List Nat) (hi : i < B.length) (hlen : ids.length = B.length + 1) (hnd : ids.Nodup)
    (h1 : ∀ j, j < B.length → j ≠ i → ids[j]? = some j) (h2 : ids[i]? = some (B.length + 1))
    (h : FnOk g f args B { val := v, upd, C }) (hv : mapC (idx ids) v = v') (hu : ∀ y ∈ upd', y.1 < B.length)
    (hL : ∀ j, j < B.length + 1 → renH (afterH B { val := v, upd, C }) ids j = afterH B { val := v', upd := upd', new := [bd], C := C' } j) :
    FnOk g f args B { val := v', upd := upd', new := [bd], C := C' } := by
  intro w0 O hG ρ Φ vs w d x hr
  refine (h w0 O hG ρ Φ vs w d x hr).mono fun u w' ⟨ρ', Φ', p1, p2, p3, p4⟩ => ?_
  have hE : Ext (inR ρ' ids) (fun j => if j = i then ρ' i else inR ρ' ids j) := fun j hd hj => by
    by_cases e : j = i
    · subst e
      simp only [inR, h2, Option.bind_some] at hj
      rw [p3 (B.length + 1) (by simp)] at hj
      simp at hj
    · simp only [if_neg e]; exact hj
  refine ⟨fun j => if j = i then ρ' i else inR ρ' ids j, inF Φ' ids, ?_, fun j hd hj => ?_, fun j hj => ?_, ?_⟩
  · rw [← hv]; exact DenV.mono hE (denV_map (inR_idx ρ' ids) p1)
  · have hjl : j < B.length := by
      rcases Nat.lt_or_ge j B.length with e | e
      · exact e
      · rw [hr j e] at hj; simp at hj
    by_cases e : j = i
    · subst e; simp; exact p2 j hd hj
    · simp only [if_neg e]
      simp [inR, h1 j hjl e]
      exact p2 j hd hj
  · simp at hj
    show (if j = i then ρ' i else inR ρ' ids j) = none
    rw [if_neg (by omega)]
    simp [inR, List.getElem?_eq_none (show ids.length ≤ j by omega)]
  · refine relH_funext (fun j => ?_) ((relH_ren p4 hnd).mono hE)
    rcases Nat.lt_or_ge j (B.length + 1) with hj | hj
    · exact hL j hj
    · unfold renH afterH newH
      rw [List.getElem?_eq_none (by omega), newAll_get, if_neg (by simp; omega)]
      simp only [Option.bind_none, Option.map_none]
      rw [updAll_far upd' (BH B) (fun y hy => by have := hu y hy; omega)]
      simp [BH, List.getElem?_eq_none (show B.length ≤ j by omega)]

theorem impL_app : ∀ {a c b d : List SV}, ImpL a c → ImpL b d → ImpL (a ++ b) (c ++ d)
  | [], [], _, _, _, h => h
  | x :: a, y :: c, b, d, h, h2 => ⟨h.1, impL_app h.2 h2⟩
  | [], _ :: _, _, _, h, _ => h.elim
  | _ :: _, [], _, _, h, _ => h.elim
theorem ro_facts {w0 : World} {O : Own} {ρ : Rho} {sz n : Nat} {f : Nat → SV} {v : Value} (h : DenV w0 O ρ (.ro sz n f) v) : ∀ i, i < n → factsC (f i) := fun i hi => by
  rcases h with h | ⟨_, h⟩
  · simp at h
  · simp only [DenC] at h
    obtain ⟨a, cap, _, _, h3⟩ := h
    obtain ⟨b, o, _, h4⟩ := h3 (by omega)
    obtain ⟨us, _, _, h5⟩ := h4 i hi
    exact denC_facts _ _ h5
end Go.Vx

namespace Go.Vx
open Go.ChangeShapes Go.WideShapes Go.ChangeAt
variable {H : Type} {enc : TypeId × Value → H} {P : Program} {spare : Nat → Bool} {held : Bool}
/-! ### how long the lists of a list are -/
theorem weightsEach_mem {x : Nat} : ∀ {ts : List TypeId} {ds : List (DataW H)} {j : Nat} {t : TypeId} {d : DataW H}, ts[j]? = some t → ds[j]? = some d → x ∈ d.weights P t → x ∈ DataW.weightsEach P ts ds
  | [], _, _, _, _, h, _, _ => by simp at h
  | _ :: _, [], _, _, _, _, h, _ => by simp at h
  | t0 :: ts, d0 :: ds, 0, t, d, h1, h2, h3 => by
    simp at h1 h2; subst h1; subst h2
    simp only [DataW.weightsEach]
    exact List.mem_append.2 (.inl h3)
  | t0 :: ts, d0 :: ds, j + 1, t, d, h1, h2, h3 => by
    simp only [DataW.weightsEach]
    exact List.mem_append.2 (.inr (weightsEach_mem (j := j) (by simpa using h1) (by simpa using h2) h3))
theorem weightsAll_mem {x : Nat} {e : TypeId} : ∀ {ds : List (DataW H)} {d : DataW H}, d ∈ ds → x ∈ d.weights P e → x ∈ DataW.weightsAll P e ds
  | [], _, h, _ => by simp at h
  | d0 :: ds, d, h, h3 => by
    simp only [DataW.weightsAll]
    rcases List.mem_cons.1 h with rfl | h
    · exact List.mem_append.2 (.inl h3)
    · exact List.mem_append.2 (.inr (weightsAll_mem h h3))
theorem lists_reach {W : World} {base : Nat} {ts : List TypeId} {ds : List (DataW H)} (h : (DataW.weightsEach P ts ds).all (· ≤ reachBytes) = true) {j : Nat} {t e e' : TypeId} {v : Value} {d : DataW H} {ps : List MemPlace} (ht : ts[j]? = some t) (hd : ds[j]? = some d)
    (hu : P.underlying t = some (.slice e)) (hu' : P.underlying e = some (.slice e')) (hc : P.cellsOf e = 1) (hb : P.bytesOf e' = 1) (hT : DataW.Trod enc P W base spare held t v d ps) {k : IntKind} {n : Nat} {dd : Nat → List Int} {ρ : Rho} (hD : DenV W (O0 W) ρ (.ro 1 n fun i => .roi k (dd i)) v) :
    ∀ i, i < n → (dd i).length ≤ 140737488351232 := fun i hi => by
  rcases hD with h0 | ⟨hag, hD⟩
  · simp at h0
  simp only [DenC] at hD
  obtain ⟨a, cap, hv, h2, h3⟩ := hD
  obtain ⟨b, o, ha, h4⟩ := h3 (by omega)
  obtain ⟨us, g1, g2, g3⟩ := h4 i hi
  have g3 : DenC W (O0 W) (fun _ => none) (.roi k (dd i)) us := g3
  simp only [DenC] at g3
  obtain ⟨a', cap', e1, _⟩ := g3
  have hag : isAggV v = false := hag.symm
  rw [not_agg_cells hag] at hv
  simp at hv
  subst hv
  obtain ⟨fuel, hf⟩ := hT
  rw [not_agg_cells rfl] at hf
  rcases DataW.trod_slice hu hf with hz | ⟨a1, len, cap1, elems, rest, m, _, q1, q2, _, _, _, q3, q4, _⟩
  · have := hz.1
    simp at this
    omega
  simp at q1
  obtain ⟨q0, rfl, rfl⟩ := q1
  have hel := q4 i hi
  rw [List.getElem?_eq_getElem (by omega)] at hel
  obtain ⟨cs, w1, w2⟩ := Option.bind_eq_some_iff.1 hel
  obtain ⟨c1, c2⟩ := cells_mem w1
  have hcs : ∃ u, cs = [u] := by
    rw [hc] at c1
    match cs, c1 with
    | [u], _ => exact ⟨u, rfl⟩
  obtain ⟨u, rfl⟩ := hcs
  have m1 := c2 0 u rfl
  rw [ha] at q0
  simp at q0
  subst q0
  rw [e1] at g2
  have m2 : W.cell? (adr b (o + i * 1 + 0)) = some (.slice a' (dd i).length cap') := g2 0 _ rfl
  have ea : (Addr.add (Addr.add (adr b o) (i * P.cellsOf e)) 0) = adr b (o + i * 1 + 0) := by
    rw [hc, adr_add, adr_add]
  rw [ea, m2] at m1
  simp only [Option.some.injEq] at m1
  subst m1
  rcases DataW.trod_slice hu' w2 with hz | ⟨a2, len2, cap2, elems2, rest2, m2, _, r1, r2, _, _, _, r3, _⟩
  · have := hz.1
    simp at this
    rw [this.2.1]; simp
  simp at r1
  have hw : (elems2.length + rest2.length) * P.bytesOf e' ∈ DataW.weightsEach P ts ds := by
    refine weightsEach_mem ht hd ?_
    have : d = .slice (elems.map (·.1)) (rest.map (·.1)) := by injection q2
    rw [this]
    simp only [DataW.weights, hu]
    refine List.mem_cons_of_mem _ (List.mem_append.2 (.inl (weightsAll_mem (d := elems[i].1) (List.mem_map.2 ⟨_, List.getElem_mem _, rfl⟩) ?_)))
    rw [r2]
    simp only [DataW.weights, hu', List.length_map]
    exact List.mem_cons_self
  have := List.all_eq_true.1 h _ hw
  have h5 : reachBytes = 140737488351232 := by decide
  rw [hb, h5] at this
  have := of_decide_eq_true this
  have := r1.2.1
  omega
end Go.Vx

/- A law that holds where a condition on the arguments does: its contract is handed both the condition and the reach. -/
namespace Go.Vx
open Go Go.ChangeShapes
variable {H : Type} {enc : TypeId × Value → H}
theorem returnsInHanded_of_cond_sized {a : Assume} {C : Checked} {os : Os} {f : FuncId} {fn : Func} {s : OpenSpec} {k : (H : Type) → List (DataW H) → Bool} (hk : s.cond = some k) {F : Stop.Interp} {conds : List PathCond} {apart fresh handsOn again : Bool}
    (own : ownKnob C.prog.godebug = none) (started : os.Started) (noInit : C.prog.inits.idxOf? f = none) (hfn : C.prog.funcs[f]? = some fn)
    (witness : ∃ (w : World) (tape : Tape) (i : Input), w.os = os ∧ (w.forCall tape i).Shaped C.prog ∧ i.vars = [] ∧ Input.okWide C.prog (w.forCall tape i) .any w.heap.size f i ∧
      s.pre6 enc C.prog fn conds apart (w.forCall tape i).memory i.args ∧ a.holds C.prog (lone (Frame.enter C.prog f i.args .normal) [] (w.forCall tape i)))
    (contract : ∀ (W : World) (base : Nat) (args : Array Value) (ds gs : List (DataW H)) (before : List MemPlace),
      (∀ (j : Nat) t v, fn.params[j]? = some t → args[j]? = some v → Value.okWide C.prog W .any base t v) →
      DataW.Whole enc C.prog fn.params.toList s.vars apart W args.toList ds gs before →
      (DataW.weightsEach C.prog (fn.params.toList ++ s.bare.plain.varTypes C.prog) (ds ++ gs)).all (· ≤ reachBytes) = true →
      Calls C.prog f args W fun e W' => ∃ v, e = .returned v ∧ (s.at F).post enc C.prog fn apart fresh handsOn again W args v W') :
    ReturnsInHanded a C os f .any (s.pre6 enc C.prog fn conds apart) ((s.at F).post enc C.prog fn apart fresh handsOn again) := by
  refine returnsInHanded_of_calls own started noInit witness ?_
  intro w tape i _ _ _ hok hpre hholds
  obtain ⟨_, _, _, fn', hfn', _, _, _, _, hval⟩ := hok
  have e : fn' = fn := Option.some.inj (hfn'.symm.trans hfn)
  subst e
  obtain ⟨hp1, hz⟩ := hpre
  obtain ⟨ds, gs, before, hw, hc, hkk⟩ := (OpenSpec.pre_some hk conds apart _ _).1 hp1
  have hw' := DataW.Whole.of_heap (w' := w.forCall tape i) (by rfl) hw
  refine (contract (w.forCall tape i) w.heap.size i.args ds gs before hval hw' (hz.weights hw)).mono fun e W' ⟨v, he, hp⟩ => ?_
  subst he
  exact ChangeSpec.post_blind hp
end Go.Vx
