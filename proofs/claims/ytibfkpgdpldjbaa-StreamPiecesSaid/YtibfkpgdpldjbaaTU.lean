/- Accounts of this seat's functions: lemmas, no statement of their own. No conditions. -/
import Derived.Test.YtibfkpgdpldjbaaTS
namespace Go.Proofs.Ytibfkpgdpldjbaa
open Go Go.Vx
abbrev two (d q : List Int) (s t : Nat → Int) : List Int := xorF (xorF (roomL d) 0 (64 * piG' q d.length) s) (0 + 64 * piG' q d.length) (d.length - 64 * piG' q d.length) t
abbrev cP (c : Int) (d q : List Int) : Int := uadd .u32 c (piG' q d.length : Nat)
theorem pc_big (k : Nat → Int) (c : Int) (o : Nat → Int) (d q : List Int) : runF g5 300 [.br true] 4 [.agg (k32 k), .int .u32 c, .agg (n12 o), .roi .u8 d, .roi .i64 q] [] [] =
    some (.bool true, [], [Fits .i64 (d.length : Int), decide ((131072 : Int) < (d.length : Int)) = true]) := by kernel_rfl
theorem pc_run (k : Nat → Int) (c : Int) (o : Nat → Int) (d q : List Int) : runF g5 3000 [.br false, .loop 9 piKeep 4 (.exit 0) (mkLoopN piG), .br true, .br true, .br true] 4 [.agg (k32 k), .int .u32 c, .agg (n12 o), .roi .u8 d, .roi .i64 q] [] [] =
    some (.sbool true, [], [Fits .i64 (d.length : Int), decide ((131072 : Int) < (d.length : Int)) = false, d.length ≤ 1000000000, d.length ≤ 1000000000, 0 + (d.length - 0) ≤ (roomL d).length, d.length - 0 ≤ 1000000000, Fits .u32 c, (0 : Int) ≤ 0 ∧ (0 : Int) ≤ (d.length : Int) ∧ (d.length : Int) ≤ ((d.length + 70 : Nat) : Int),
      LoopGood g5 100 (.loop piBody) piKeep 4 (.exit 0) (mkLoopN piG), (0 : Int) ≤ (d.length : Int), (d.length : Int) ≤ 131072, d.length ≤ d.length + 70, d.length + 70 ≤ (roomL d).length, Fits .u32 c, Fits .i64 (q.length : Int),
      0 + 64 * piG' q d.length + (d.length - 64 * piG' q d.length) ≤ (xorF (roomL d) 0 (64 * piG' q d.length) (s1 k c o)).length, d.length - 64 * piG' q d.length ≤ 1000000000, Fits .u32 (cP c d q), (0 : Int) ≤ (64 * piG' q d.length : Nat) ∧ ((64 * piG' q d.length : Nat) : Int) ≤ (d.length : Int) ∧ (d.length : Int) ≤ ((d.length + 70 : Nat) : Int), true = true,
      0 + (d.length + 70) ≤ (two d q (s1 k c o) (s2 k (cP c d q) o)).length, d.length + 70 ≤ 140737488355328, marked (two d q (s1 k c o) (s2 k (cP c d q) o)) 0 (d.length + 70) (d.length : Int), true = true,
      0 + (d.length + 70) ≤ (onc d (s1 k c o)).length, 0 + (d.length + 70) ≤ (two d q (s1 k c o) (s2 k (cP c d q) o)).length, d.length + 70 ≤ 140737488355328, subI (onc d (s1 k c o)) 0 (d.length + 70) = subI (two d q (s1 k c o) (s2 k (cP c d q) o)) 0 (d.length + 70)]) :=
  run_parts (by kernel_rfl) (by kernel_rfl) (by kernel_rfl)
theorem pieces_ok (k : Nat → Int) (c : Int) (hc : Fits .u32 c) (o : Nat → Int) (d : List Int) (hd : ∀ x ∈ d, Fits .u8 x) (hl : d.length * Try.prog.bytesOf 5 ≤ 140737488351232) (q : List Int) (hq : ∀ x ∈ q, Fits .i64 x) (hlq : q.length * Try.prog.bytesOf 3 ≤ 140737488351232) :
    FnOk g5 4 [.agg (k32 k), .int .u32 c, .agg (n12 o), .roi .u8 d, .roi .i64 q] [] { val := .sbool true } := by
  have e1 : Try.prog.bytesOf 5 = 1 := by kernel_rfl
  have e3 : Try.prog.bytesOf 3 = 8 := by kernel_rfl
  rw [e1] at hl
  rw [e3] at hlq
  have F1 : Fits .i64 (d.length : Int) := fits_small (by omega)
  by_cases hb : 131072 < d.length
  · exact FnOk.toSb (b := true) (FnOk.pure g5_ok (pc_big k c o d q) (by (simp only [allC_cons, allC_nil, and_true]; repeat' (with_reducible (first | refine And.intro ?_ ?_ | exact True.intro | assumption | omega | exact decide_eq_true (by first | assumption | omega) | exact decide_eq_false (by first | assumption | omega) | rfl | (simp; done)))))) rfl
  · refine FnOk.pure g5_ok (pc_run k c o d q) ?_
    have F2 : Fits .i64 (q.length : Int) := fits_small (by omega)
    have F3 := uadd_fits c (piG' q d.length : Nat)
    have hp : 64 * piG' q d.length ≤ d.length := bl_le q d.length _
    have f1 : s1 k c o = strm k c o := strm_list k c o
    have f2 : s2 k (cP c d q) o = strm k (cP c d q) o := by unfold s2; rw [strm_list, strm_list]
    have f3 : two d q (strm k c o) (strm k (cP c d q) o) = onc d (strm k c o) := by
      unfold two onc
      rw [xorF_append (f := strm k c o) (fun j _ => strm_later k c o _ j), show 64 * piG' q d.length + (d.length - 64 * piG' q d.length) = d.length - 0 by omega]
    rw [f1, f2, f3]
    have hr := roomL_len d
    have ho : (onc d (strm k c o)).length = d.length + 70 := by rw [xorF_len, hr]
    have hx : (xorF (roomL d) 0 (64 * piG' q d.length) (strm k c o)).length = d.length + 70 := by rw [xorF_len, hr]
    have hM : marked (onc d (strm k c o)) 0 (d.length + 70) (d.length : Int) := ⟨d.length, rfl, by omega, fun i h1 h2 => by
      rw [Nat.zero_add, xorF_get _ _ _ _ (by rw [hr]; exact h2), if_neg (by omega), roomL_get d h2, if_neg (by omega)]⟩
    have hL := pi_loop
    rw [ho, hx, hr]
    (simp only [allC_cons, allC_nil, and_true]; repeat' (with_reducible (first | refine And.intro ?_ ?_ | exact True.intro | assumption | omega | exact decide_eq_true (by first | assumption | omega) | exact decide_eq_false (by first | assumption | omega) | rfl | (simp; done))))
end Go.Proofs.Ytibfkpgdpldjbaa
