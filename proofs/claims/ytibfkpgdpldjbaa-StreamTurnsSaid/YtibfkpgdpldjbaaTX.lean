/- Accounts of this seat's functions: lemmas, no statement of their own. No conditions. -/
import Derived.Test.YtibfkpgdpldjbaaTW
namespace Go.Proofs.Ytibfkpgdpldjbaa
open Go Go.Vx
/-! ### StreamBlind -/
abbrev xa (n : Nat) (a : List Int) : List Int := [] ++ (a.drop 0).take (n - 0)
abbrev lg (m : Nat) : List (List Int) := [] ++ evX m ++ [[3, 22]]
abbrev bdC (n : Nat) (c1 c2 : Int) (a b : List Int) : List Prop :=
  [(xa n a).length * 1 ≤ 140737488355328, (0 : Int) ≤ 0 ∧ (0 : Int) ≤ (n : Int) ∧ (n : Int) ≤ (a.length : Int), (xa n b).length * 1 ≤ 140737488355328, (0 : Int) ≤ 0 ∧ (0 : Int) ≤ (n : Int) ∧ (n : Int) ≤ (b.length : Int),
   0 + (xa n a).length ≤ (xa n a).length, (xa n a).length ≤ 1000000000, Fits .u32 c1, ([] : List (List Int)).length + (xa n a).length ≤ 1000000000000, 0 + (xa n b).length ≤ (xa n b).length, (xa n b).length ≤ 1000000000, Fits .u32 c2, ([] : List (List Int)).length + (xa n b).length ≤ 1000000000000,
   ([] ++ evX (xa n a).length).length < 1099511627776, ([] ++ evX (xa n b).length).length < 1099511627776, decide ((4 : Int) ≤ ((lg (xa n a).length).length : Int)) = true, true = true, lg (xa n a).length = lg (xa n b).length, (lg (xa n a).length).length ≤ 140737488355328]
noncomputable abbrev bdA (k1 k2 : Nat → Int) (c1 c2 : Int) (o1 o2 : Nat → Int) (a b : List Int) : List SV := [.agg (k32 k1), .agg (k32 k2), .int .u32 c1, .int .u32 c2, .agg (n12 o1), .agg (n12 o2), .roi .u8 a, .roi .u8 b]
theorem bd_b (k1 k2 : Nat → Int) (c1 c2 : Int) (o1 o2 : Nat → Int) (a b : List Int) : runF g6 3000 [.br true, .br false, .br true, .br true, .br true] 8 (bdA k1 k2 c1 c2 o1 o2 a b) [] [] =
    some (.sbool true, [], [Fits .i64 (a.length : Int), Fits .i64 (b.length : Int), decide ((b.length : Int) < (a.length : Int)) = true, Fits .i64 (b.length : Int), decide ((131072 : Int) < (b.length : Int)) = false] ++ bdC b.length c1 c2 a b) :=
  run_parts (by kernel_rfl) (by kernel_rfl) (by kernel_rfl)
theorem bd_a (k1 k2 : Nat → Int) (c1 c2 : Int) (o1 o2 : Nat → Int) (a b : List Int) : runF g6 3000 [.br false, .br false, .br true, .br true, .br true] 8 (bdA k1 k2 c1 c2 o1 o2 a b) [] [] =
    some (.sbool true, [], [Fits .i64 (a.length : Int), Fits .i64 (b.length : Int), decide ((b.length : Int) < (a.length : Int)) = false, decide ((131072 : Int) < (a.length : Int)) = false] ++ bdC a.length c1 c2 a b) :=
  run_parts (by kernel_rfl) (by kernel_rfl) (by kernel_rfl)
theorem bd_bB (k1 k2 : Nat → Int) (c1 c2 : Int) (o1 o2 : Nat → Int) (a b : List Int) : runF g6 3000 [.br true, .br true] 8 (bdA k1 k2 c1 c2 o1 o2 a b) [] [] =
    some (.bool true, [], [Fits .i64 (a.length : Int), Fits .i64 (b.length : Int), decide ((b.length : Int) < (a.length : Int)) = true, Fits .i64 (b.length : Int), decide ((131072 : Int) < (b.length : Int)) = true]) :=
  run_parts (by kernel_rfl) (by kernel_rfl) (by kernel_rfl)
theorem bd_aB (k1 k2 : Nat → Int) (c1 c2 : Int) (o1 o2 : Nat → Int) (a b : List Int) : runF g6 3000 [.br false, .br true] 8 (bdA k1 k2 c1 c2 o1 o2 a b) [] [] =
    some (.bool true, [], [Fits .i64 (a.length : Int), Fits .i64 (b.length : Int), decide ((b.length : Int) < (a.length : Int)) = false, decide ((131072 : Int) < (a.length : Int)) = true]) :=
  run_parts (by kernel_rfl) (by kernel_rfl) (by kernel_rfl)
theorem evX_len (n : Nat) : 3 ≤ (evX n).length ∧ (evX n).length ≤ 2 * n + 5 := by
  have h1 : 3 * ((n - a1 n) / 64) ≤ n := by unfold a1; omega
  have h2 : 3 * (n / 256) ≤ n := by omega
  unfold evX
  split <;> simp only [List.length_append, e1_len, e2_len, List.length_cons, List.length_nil] <;> omega
theorem bdC_ok {n : Nat} {c1 c2 : Int} {a b : List Int} (h1 : Fits .u32 c1) (h2 : Fits .u32 c2) (hn : n ≤ 131072) (ha : n ≤ a.length) (hb : n ≤ b.length) : AllC (bdC n c1 c2 a b) := by
  have ea : (xa n a).length = n := by simp; omega
  have eb : (xa n b).length = n := by simp; omega
  have he := evX_len n
  have hg : (lg n).length = (evX n).length + 1 := by simp
  have hz : ([] : List (List Int)).length = 0 := rfl
  have hy : ([] ++ evX n).length = (evX n).length := rfl
  unfold bdC
  rw [ea, eb, hg, hz, hy]
  (simp only [allC_cons, allC_nil, and_true]; repeat' (with_reducible (first | refine And.intro ?_ ?_ | exact True.intro | assumption | omega | exact decide_eq_true (by first | assumption | omega) | exact decide_eq_false (by first | assumption | omega) | rfl | (simp; done))))
theorem blind_ok (k1 k2 : Nat → Int) (c1 : Int) (h1 : Fits .u32 c1) (c2 : Int) (h2 : Fits .u32 c2) (o1 o2 : Nat → Int) (a : List Int) (ha : ∀ x ∈ a, Fits .u8 x) (hla : a.length * Try.prog.bytesOf 5 ≤ 140737488351232) (b : List Int) (hb : ∀ x ∈ b, Fits .u8 x) (hlb : b.length * Try.prog.bytesOf 5 ≤ 140737488351232) :
    FnOk g6 8 (bdA k1 k2 c1 c2 o1 o2 a b) [] { val := .sbool true } := by
  have e1 : Try.prog.bytesOf 5 = 1 := by kernel_rfl
  rw [e1] at hla hlb
  have F1 : Fits .i64 (a.length : Int) := fits_small (by omega)
  have F2 : Fits .i64 (b.length : Int) := fits_small (by omega)
  by_cases hc : b.length < a.length
  · by_cases hm : 131072 < b.length
    · exact FnOk.toSb (b := true) (FnOk.pure g6_ok (bd_bB k1 k2 c1 c2 o1 o2 a b) (by (simp only [allC_cons, allC_nil, and_true]; repeat' (with_reducible (first | refine And.intro ?_ ?_ | exact True.intro | assumption | omega | exact decide_eq_true (by first | assumption | omega) | exact decide_eq_false (by first | assumption | omega) | rfl | (simp; done)))))) rfl
    · refine FnOk.pure g6_ok (bd_b k1 k2 c1 c2 o1 o2 a b) ?_
      rw [allC_append]
      exact ⟨by (simp only [allC_cons, allC_nil, and_true]; repeat' (with_reducible (first | refine And.intro ?_ ?_ | exact True.intro | assumption | omega | exact decide_eq_true (by first | assumption | omega) | exact decide_eq_false (by first | assumption | omega) | rfl | (simp; done)))), bdC_ok h1 h2 (by omega) (by omega) (by omega)⟩
  · by_cases hm : 131072 < a.length
    · exact FnOk.toSb (b := true) (FnOk.pure g6_ok (bd_aB k1 k2 c1 c2 o1 o2 a b) (by (simp only [allC_cons, allC_nil, and_true]; repeat' (with_reducible (first | refine And.intro ?_ ?_ | exact True.intro | assumption | omega | exact decide_eq_true (by first | assumption | omega) | exact decide_eq_false (by first | assumption | omega) | rfl | (simp; done)))))) rfl
    · refine FnOk.pure g6_ok (bd_a k1 k2 c1 c2 o1 o2 a b) ?_
      rw [allC_append]
      exact ⟨by (simp only [allC_cons, allC_nil, and_true]; repeat' (with_reducible (first | refine And.intro ?_ ?_ | exact True.intro | assumption | omega | exact decide_eq_true (by first | assumption | omega) | exact decide_eq_false (by first | assumption | omega) | rfl | (simp; done)))), bdC_ok h1 h2 (by omega) (by omega) (by omega)⟩
end Go.Proofs.Ytibfkpgdpldjbaa
