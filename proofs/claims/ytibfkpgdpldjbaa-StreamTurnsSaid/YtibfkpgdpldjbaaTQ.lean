/- Accounts of this seat's functions: lemmas, no statement of their own. No conditions. -/
import Derived.Test.YtibfkpgdpldjbaaTP
namespace Go.Proofs.Ytibfkpgdpldjbaa
open Go Go.Vx
/-! ### StreamZeros -/
abbrev BL (k : Nat → Int) (c : Int) (o : Nat → Int) : List Int := listF 64 (blk (stt (atL (listF 32 k 0)) c (atL (listF 12 o 0)))) 0
abbrev zr (n : Nat) (s : Nat → Int) : List Int := xorF (List.replicate n 0) 0 n s
theorem ze_low (k : Nat → Int) (c : Int) (o : Nat → Int) (n : Int) : runF g5 300 [.br true, .br true, .br true] 5 [.agg (k32 k), .int .u32 c, .agg (n12 o), .int .i64 n] [] [] =
    some (.sbool true, [], [decide (n < 0) = true, (0 : Int) ≤ 64 ∧ (64 : Int) = 64 ∧ 64 * 1 ≤ 140737488355328, 0 + 64 ≤ (List.replicate 64 (0 : Int)).length, 64 ≤ 1000000000, Fits .u32 c, true = true, 0 + 64 ≤ (zr 64 (s1 k c o)).length, 0 + 64 ≤ (BL k c o).length, 64 ≤ 140737488355328, subI (zr 64 (s1 k c o)) 0 64 = subI (BL k c o) 0 64]) :=
  run_parts (by kernel_rfl) (by kernel_rfl) (by kernel_rfl)
theorem ze_high (k : Nat → Int) (c : Int) (o : Nat → Int) (n : Int) : runF g5 300 [.br false, .br true, .br true, .br true] 5 [.agg (k32 k), .int .u32 c, .agg (n12 o), .int .i64 n] [] [] =
    some (.sbool true, [], [decide (n < 0) = false, decide (64 < n) = true, (0 : Int) ≤ 64 ∧ (64 : Int) = 64 ∧ 64 * 1 ≤ 140737488355328, 0 + 64 ≤ (List.replicate 64 (0 : Int)).length, 64 ≤ 1000000000, Fits .u32 c, true = true, 0 + 64 ≤ (zr 64 (s1 k c o)).length, 0 + 64 ≤ (BL k c o).length, 64 ≤ 140737488355328, subI (zr 64 (s1 k c o)) 0 64 = subI (BL k c o) 0 64]) :=
  run_parts (by kernel_rfl) (by kernel_rfl) (by kernel_rfl)
theorem ze_mid (k : Nat → Int) (c : Int) (o : Nat → Int) (n : Int) : runF g5 300 [.br false, .br false, .br true, .br true] 5 [.agg (k32 k), .int .u32 c, .agg (n12 o), .int .i64 n] [] [] =
    some (.sbool true, [], [decide (n < 0) = false, decide (64 < n) = false, (0 : Int) ≤ n ∧ n = n ∧ n.toNat * 1 ≤ 140737488355328, 0 + n.toNat ≤ (List.replicate n.toNat (0 : Int)).length, n.toNat ≤ 1000000000, Fits .u32 c, true = true, 0 + n.toNat ≤ (zr n.toNat (s1 k c o)).length, 0 + (n.toNat - 0) ≤ (BL k c o).length, n.toNat ≤ 140737488355328, subI (zr n.toNat (s1 k c o)) 0 n.toNat = subI (BL k c o) 0 (n.toNat - 0), (0 : Int) ≤ 0 ∧ (0 : Int) ≤ n ∧ n ≤ 64]) :=
  run_parts (by kernel_rfl) (by kernel_rfl) (by kernel_rfl)
theorem uxor_zl {y : Int} (h : 0 ≤ y) : uxor 0 y = y := by
  unfold uxor
  rw [show (0 : Int).toNat = 0 from rfl, Nat.zero_xor, Int.ofNat_eq_natCast]
  omega
theorem blk_nonneg (s : Nat → Int) (j : Nat) : 0 ≤ blk s j := by
  unfold blk ucut
  rw [Int.ofNat_eq_natCast]; omega
theorem strm_blk {k : Nat → Int} {c : Int} {o : Nat → Int} (hc : Fits .u32 c) {j : Nat} (hj : j < 64) : strm k c o j = blk (stt k c o) j := by
  unfold strm sb
  rw [show j / 64 = 0 by omega, show j % 64 = j by omega]
  exact blk_congr (fun i _ => bump_zero (by rw [stt12]; exact hc) i) hj
theorem ze_sub {k : Nat → Int} {c : Int} {o : Nat → Int} (hc : Fits .u32 c) {n : Nat} (hn : n ≤ 64) : subI (zr n (s1 k c o)) 0 n = subI (BL k c o) 0 n := by
  have h1 : (zr n (s1 k c o)).length = n := by rw [xorF_len, List.length_replicate]
  have h2 : (BL k c o).length = 64 := listF_length _ _ _
  refine ext_getD (by rw [subI_length (by omega), subI_length (by omega)]) fun p hp => ?_
  rw [subI_length (by omega)] at hp
  rw [subI_get hp, subI_get hp, Nat.zero_add, xorF_get _ _ _ _ (by rw [List.length_replicate]; exact hp), if_pos (by omega)]
  rw [show (List.replicate n (0 : Int)).getD p 0 = 0 by rw [List.getD_eq_getElem?_getD, List.getElem?_replicate, if_pos hp]; rfl]
  have e : s1 k c o = strm k c o := strm_list k c o
  rw [e, Nat.sub_zero, strm_blk hc (by omega), uxor_zl (blk_nonneg _ _)]
  rw [List.getD_eq_getElem?_getD, listF_get, if_pos (by omega), Nat.zero_add]
  simp only [Option.getD_some]
  rw [stt_congr c (fun i h => atL_listF h) (fun i h => atL_listF h)]
theorem zeros_ok (k : Nat → Int) (c : Int) (hc : Fits .u32 c) (o : Nat → Int) (n : Int) : FnOk g5 5 [.agg (k32 k), .int .u32 c, .agg (n12 o), .int .i64 n] [] { val := .sbool true } := by
  have h2 : (BL k c o).length = 64 := listF_length _ _ _
  have hz : ∀ n : Nat, (zr n (s1 k c o)).length = n := fun n => by rw [xorF_len, List.length_replicate]
  have hs := ze_sub (k := k) (o := o) hc (Nat.le_refl 64)
  by_cases hb : n < 0
  · exact FnOk.pure g5_ok (ze_low k c o n) (by rw [h2, hz, List.length_replicate]; (simp only [allC_cons, allC_nil, and_true]; repeat' (with_reducible (first | refine And.intro ?_ ?_ | exact True.intro | assumption | omega | exact decide_eq_true (by first | assumption | omega) | exact decide_eq_false (by first | assumption | omega) | rfl | (simp; done)))))
  · by_cases hb2 : 64 < n
    · exact FnOk.pure g5_ok (ze_high k c o n) (by rw [h2, hz, List.length_replicate]; (simp only [allC_cons, allC_nil, and_true]; repeat' (with_reducible (first | refine And.intro ?_ ?_ | exact True.intro | assumption | omega | exact decide_eq_true (by first | assumption | omega) | exact decide_eq_false (by first | assumption | omega) | rfl | (simp; done)))))
    · have hs := ze_sub (k := k) (o := o) hc (show n.toNat ≤ 64 by omega)
      exact FnOk.pure g5_ok (ze_mid k c o n) (by rw [h2, hz, List.length_replicate, Nat.sub_zero]; (simp only [allC_cons, allC_nil, and_true]; repeat' (with_reducible (first | refine And.intro ?_ ?_ | exact True.intro | assumption | omega | exact decide_eq_true (by first | assumption | omega) | exact decide_eq_false (by first | assumption | omega) | rfl | (simp; done)))))
end Go.Proofs.Ytibfkpgdpldjbaa
