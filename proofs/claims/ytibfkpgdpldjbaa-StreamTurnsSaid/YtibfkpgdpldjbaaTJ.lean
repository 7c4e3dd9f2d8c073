/- Accounts of this seat's functions: lemmas, no statement of their own. No conditions. -/
import Derived.Test.YtibfkpgdpldjbaaTI
namespace Go.Proofs.Ytibfkpgdpldjbaa
open Go Go.Vx

theorem splice_get {l src : List Int} {off p : Nat} (h : off + src.length ≤ l.length) : (splice l off src).getD p 0 = if off ≤ p ∧ p < off + src.length then src.getD (p - off) 0 else l.getD p 0 := by
  unfold splice
  have h1 : (l.take off).length = off := by simp; omega
  rw [List.getD_eq_getElem?_getD, List.append_assoc]
  by_cases c1 : p < off
  · rw [List.getElem?_append_left (by omega), if_neg (by omega), List.getElem?_take, if_pos c1, ← List.getD_eq_getElem?_getD]
  · rw [List.getElem?_append_right (by omega), h1]
    by_cases c2 : p < off + src.length
    · rw [List.getElem?_append_left (by omega), if_pos (by omega), ← List.getD_eq_getElem?_getD]
    · rw [List.getElem?_append_right (by omega), if_neg (by omega), List.getElem?_drop, ← List.getD_eq_getElem?_getD]
      congr 1; omega
theorem splice_len {l src : List Int} {off : Nat} (h : off + src.length ≤ l.length) : (splice l off src).length = l.length := by
  unfold splice; simp; omega
theorem S1_sb (n : Nat) (s : Nat → Int) (j : Nat) : sb (S1 n s) j = sb s (a1 n + j) := by
  unfold S1 a1
  rw [sb_listF, sb_bump, show 64 * (4 * (n / 256)) + j = 256 * (n / 256) + j by omega]
theorem L2_eq (off n : Nat) (l : List Int) (s : Nat → Int) : L2 off n l s = xorF l off (a2 n) (sb s) := xorF_append fun j _ => S1_sb n s j
theorem S2_blk (n : Nat) (s : Nat → Int) {j : Nat} (hj : j < 64) : blk (S2 n s) j = sb s (a2 n + j) := by
  have e1 : ∀ i, i < 16 → S2 n s i = bump s (4 * (n / 256) + (n - a1 n) / 64) i := fun i hi => by
    unfold S2
    rw [atL_listF hi, bump_congr (fun i h => by unfold S1; exact atL_listF h) _ i hi, bump_bump]
  rw [blk_congr e1 hj, blk_bump s _ hj, show 64 * (4 * (n / 256) + (n - a1 n) / 64) + j = a2 n + j by unfold a2 a1; omega]
theorem cpy_get {X : List Int} (h : X.length ≤ 64) {e : Nat} : cpy X e = if e < X.length then X.getD e 0 else 0 := by
  unfold cpy
  rw [List.take_of_length_le h]
  simp
theorem a2_le (n : Nat) : a2 n ≤ n ∧ n - a2 n < 64 := by unfold a2 a1; omega
theorem tail_eq (off n : Nat) (l : List Int) (s : Nat → Int) (h : off + n ≤ l.length) :
    splice (L2 off n l s) (off + a2 n) ((Y3 (X3 off n (L2 off n l s)) (blk (S2 n s))).take (n - a2 n)) = xorF l off n (sb s) := by
  rw [L2_eq]
  have ha := a2_le n
  have hx := xorF_len l off (a2 n) (sb s)
  have hX : (X3 off n (xorF l off (a2 n) (sb s))).length = n - a2 n := by unfold X3; simp [hx]; omega
  have hY : ((Y3 (X3 off n (xorF l off (a2 n) (sb s))) (blk (S2 n s))).take (n - a2 n)).length = n - a2 n := by simp [Y3, listF_length]; omega
  refine ext_getD (by rw [splice_len (by rw [hY, hx]; omega), hx, xorF_len]) fun p hp => ?_
  rw [splice_len (by rw [hY, hx]; omega), hx] at hp
  rw [splice_get (by rw [hY, hx]; omega), hY, xorF_get l off n _ hp]
  by_cases c : off + a2 n ≤ p ∧ p < off + a2 n + (n - a2 n)
  · rw [if_pos c, if_pos (by omega)]
    have hj : p - (off + a2 n) < 64 := by omega
    rw [List.getD_eq_getElem?_getD, List.getElem?_take, if_pos (by omega), ← List.getD_eq_getElem?_getD]
    have e1 : (Y3 (X3 off n (xorF l off (a2 n) (sb s))) (blk (S2 n s))).getD (p - (off + a2 n)) 0 = uxor (cpy (X3 off n (xorF l off (a2 n) (sb s))) (p - (off + a2 n))) (blk (S2 n s) (p - (off + a2 n))) := by
      unfold Y3
      rw [List.getD_eq_getElem?_getD, listF_get, if_pos hj, Nat.zero_add]
      simp only [Option.getD_some]
      rw [atL_listF hj, atL_listF hj]
    rw [e1, cpy_get (by omega), if_pos (by omega), S2_blk n s hj]
    have e2 : (X3 off n (xorF l off (a2 n) (sb s))).getD (p - (off + a2 n)) 0 = l.getD p 0 := by
      unfold X3
      rw [List.getD_eq_getElem?_getD, List.getElem?_take, if_pos (by omega), List.getElem?_drop, ← List.getD_eq_getElem?_getD, show off + a2 n + (p - (off + a2 n)) = p by omega, xorF_get l off (a2 n) _ hp, if_neg (by omega)]
    rw [e2, show a2 n + (p - (off + a2 n)) = p - off by omega]
  · rw [if_neg c, xorF_get l off (a2 n) _ hp]
    by_cases c2 : off ≤ p ∧ p < off + a2 n
    · rw [if_pos c2, if_pos (by omega)]
    · rw [if_neg c2, if_neg (by omega)]
theorem stt12 (k : Nat → Int) (c : Int) (m : Nat → Int) : stt k c m 12 = c := rfl
theorem S0_12 (k : Nat → Int) (c : Int) (m : Nat → Int) : S0 k c m 12 = c := atL_listF (f := stt _ c _) (show 12 < 16 by decide)
/-- the bytes of the stream -/
def strm (k : Nat → Int) (c : Int) (m : Nat → Int) : Nat → Int := sb (stt k c m)
theorem stt_congr {k k' m m' : Nat → Int} (c : Int) (hk : ∀ i, i < 32 → k i = k' i) (hm : ∀ i, i < 12 → m i = m' i) : stt k c m = stt k' c m' := by
  unfold stt
  simp only [hk 0 (by decide), hk 1 (by decide), hk 2 (by decide), hk 3 (by decide), hk 4 (by decide), hk 5 (by decide), hk 6 (by decide), hk 7 (by decide), hk 8 (by decide), hk 9 (by decide), hk 10 (by decide), hk 11 (by decide), hk 12 (by decide), hk 13 (by decide), hk 14 (by decide), hk 15 (by decide), hk 16 (by decide), hk 17 (by decide), hk 18 (by decide), hk 19 (by decide), hk 20 (by decide), hk 21 (by decide), hk 22 (by decide), hk 23 (by decide), hk 24 (by decide), hk 25 (by decide), hk 26 (by decide), hk 27 (by decide), hk 28 (by decide), hk 29 (by decide), hk 30 (by decide), hk 31 (by decide),
    hm 0 (by decide), hm 1 (by decide), hm 2 (by decide), hm 3 (by decide), hm 4 (by decide), hm 5 (by decide), hm 6 (by decide), hm 7 (by decide), hm 8 (by decide), hm 9 (by decide), hm 10 (by decide), hm 11 (by decide)]
theorem S0_sb (k : Nat → Int) (c : Int) (m : Nat → Int) (j : Nat) : sb (S0 k c m) j = strm k c m j := by
  unfold S0 strm
  rw [sb_listF, stt_congr c (fun i h => atL_listF h) (fun i h => atL_listF h)]
theorem xn_C1 {off n : Nat} {l : List Int} {s : Nat → Int} (h1 : off + n ≤ l.length) (h2 : n ≤ 140737488355328) (h3 : Fits .u32 (s 12)) : AllC (C1 off n l s) := by
  have ha : a1 n ≤ n := by unfold a1; omega
  have hx := xorF_len l off (a1 n) (sb s)
  have e : S1 n s 12 = bump s (4 * (n / 256)) 12 := atL_listF (by decide)
  have h4 : Fits .u32 (S1 n s 12) := by
    rw [e]
    unfold bump uadd
    rw [if_pos rfl, m32, Int.ofNat_eq_natCast]
    refine ⟨?_, ?_⟩
    · show (0 : Int) ≤ _; omega
    · show _ ≤ (4294967295 : Int); omega
  have hl1 := n1_loop
  have hl2 := n2_loop
  unfold C1
  rw [hx]
  (simp only [allC_cons, allC_nil, and_true]; repeat' (with_reducible (first | refine And.intro ?_ ?_ | exact True.intro | assumption | omega | exact decide_eq_true (by first | assumption | omega) | exact decide_eq_false (by first | assumption | omega) | rfl | (simp; done))))
theorem xn_ok {off n : Nat} {l : List Int} (k : Nat → Int) (c : Int) (m : Nat → Int) (h1 : off + n ≤ l.length) (h2 : n ≤ 140737488355328) (h3 : Fits .u32 c) :
    FnOk g3 10 [.raw (.pointer none), .agg (k32 k), .int .u32 c, .agg (n12 m), .sl 0 0 off 1 0 n false] [.ints .u8 l] { val := .tuple [], upd := [(0, some (.ints .u8 (xorF l off n (strm k c m))))] } := by
  have ha := a2_le n
  have F2 : Fits .i64 ((n : Int) - (a2 n : Nat)) := fits_of (by omega) (by omega)
  have F3 : Fits .i64 (n : Int) := fits_of (by omega) (by omega)
  have hc := xn_C1 (s := S0 k c m) h1 h2 (by rw [S0_12]; exact h3)
  have ex : xorF l off n (sb (S0 k c m)) = xorF l off n (strm k c m) := xorF_congr fun j _ => S0_sb k c m j
  by_cases h : n - a2 n = 0
  · have hr := xn_run0 off n l k c m
    rw [L2_eq, show a2 n = n by omega, ex] at hr
    refine FnOk.run g3_ok hr ?_ (by simp [upto]) rfl (by simp) (by simp) (fun j hj => by match j, hj with | 0, _ => rfl)
    rw [allC_append]
    refine ⟨hc, ?_⟩
    have F4 : Fits .i64 ((n : Int) - n) := fits_of (by omega) (by omega)
    (simp only [allC_cons, allC_nil, and_true]; repeat' (with_reducible (first | refine And.intro ?_ ?_ | exact True.intro | assumption | omega | exact decide_eq_true (by first | assumption | omega) | exact decide_eq_false (by first | assumption | omega) | rfl | (simp; done))))
  · have hr := xn_run1 off n l k c m
    have hx := xorF_len l off (a2 n) (sb (S0 k c m))
    have hX : (X3 off n (L2 off n l (S0 k c m))).length = n - a2 n := by rw [L2_eq]; unfold X3; simp [hx]; omega
    have hY : (Y3 (X3 off n (L2 off n l (S0 k c m))) (blk (S2 n (S0 k c m)))).length = 64 := by simp [Y3, listF_length]
    have hL : (L2 off n l (S0 k c m)).length = l.length := by rw [L2_eq]; exact hx
    have ht : ((X3 off n (L2 off n l (S0 k c m))).take 64).length ≤ 64 := by simp; omega
    have hy : ((Y3 (X3 off n (L2 off n l (S0 k c m))) (blk (S2 n (S0 k c m)))).take (n - a2 n)).length = n - a2 n := by rw [List.length_take, hY]; omega
    rw [tail_eq off n l _ h1, ex] at hr
    refine FnOk.run g3_ok hr ?_ (by simp [upto]) rfl (by simp) (by simp) (fun j hj => by match j, hj with | 0, _ => rfl)
    rw [allC_append]
    refine ⟨hc, ?_⟩
    rw [hX, hY, hL, hy]
    have F4 : Fits .i64 ((min (n - a2 n) 64 : Nat) : Int) := fits_of (by omega) (by omega)
    have F5 : Fits .i64 ((min 64 (n - a2 n) : Nat) : Int) := fits_of (by omega) (by omega)
    (simp only [allC_cons, allC_nil, and_true]; repeat' (with_reducible (first | refine And.intro ?_ ?_ | exact True.intro | assumption | omega | exact decide_eq_true (by first | assumption | omega) | exact decide_eq_false (by first | assumption | omega) | rfl | (simp; done))))
end Go.Proofs.Ytibfkpgdpldjbaa
