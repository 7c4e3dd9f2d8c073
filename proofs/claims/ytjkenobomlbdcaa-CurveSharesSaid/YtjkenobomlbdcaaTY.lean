/- Accounts of this seat's functions: lemmas, no statement of their own. No conditions. -/
import Derived.Test.YtjkenobomlbdcaaTX
namespace Go.Proofs.Ytjkenobomlbdcaa
open Go Go.Vx
/-! ### CurveBlind -/
noncomputable abbrev evD : List (List Int) := [] ++ evC
theorem bl_run (a b u v : Nat → Int) : runF gRk 900 [.br false, .br false, .br true, .br true, .br true] 10 [.agg (b32 a), .agg (b32 b), .agg (b32 u), .agg (b32 v)] [] [] =
    some (.sbool true, [], [([] : List (List Int)).length < 1000000000, ([] : List (List Int)).length < 1000000000,
      (!decide (shQ (listF 32 a 0) (listF 32 u 0) = shQ (listF 32 a 0) (listF 32 u 0))) = false, (!decide (shQ (listF 32 b 0) (listF 32 v 0) = shQ (listF 32 b 0) (listF 32 v 0))) = false,
      decide ((evD.length : Int) = 5104) = true, true = true, evD = evD, evD.length ≤ 140737488355328, evD.length * 16 ≤ 2 ^ 47, evD.length * 16 ≤ 2 ^ 47, true = true, evD = evD, evD.length ≤ 140737488355328]) :=
  run_parts (by kernel_rfl) (by kernel_rfl) (by kernel_rfl)
theorem evD_len : evD.length = 5104 := by unfold evD; rw [List.nil_append]; exact evC_len
theorem blind_ok (a b u v : Nat → Int) : FnOk gRk 10 [.agg (b32 a), .agg (b32 b), .agg (b32 u), .agg (b32 v)] [] { val := .sbool true } := by
  refine FnOk.pure gRk_ok (bl_run a b u v) ?_
  have e := evD_len
  have q : ∀ l : List Int, (!decide (l = l)) = false := fun l => by simp
  rw [e]
  intro c hc
  simp only [List.mem_cons, List.not_mem_nil, or_false] at hc
  rcases hc with rfl | rfl | rfl | rfl | rfl | rfl | rfl | rfl | rfl | rfl | rfl | rfl | rfl
  · decide
  · decide
  · decide
  · decide
  · exact decide_eq_true rfl
  · trivial
  · trivial
  · decide
  · decide
  · decide
  · trivial
  · trivial
  · decide
/-! ### CurvePublic -/
theorem pu5_run (k : Nat → Int) : runF gRk 900 [] 17 [.agg (b32 k)] [] [] = some (.agg (b32 (shF (atL (listF 32 k 0)) (atL (kl 9)))), [], []) :=
  run_parts (by kernel_rfl) (by kernel_rfl) (by kernel_rfl)
noncomputable def F17 : SumF := fun args B => match args, B with
  | [.agg ks], [] => match numsAs (List.replicate 32 .u8) ks with
    | some lk => some { val := .agg (b32 (shF (atL (listF 32 (atL lk) 0)) (atL (kl 9)))) }
    | none => none
  | _, _ => none
theorem acc17 : Acc gRk 17 F17 := by
  intro args B out h _
  unfold F17 at h
  split at h
  · split at h
    · rename_i lk hk
      simp only [Option.some.injEq] at h; subst h
      exact FnOk.imp (FnOk.pure gRk_ok (pu5_run (atL lk)) (by simp [AllC])) ⟨nums_imp hk, trivial⟩
    · simp at h
  · simp at h
noncomputable abbrev gRl : Ctx := gRk.add [(17, F17)]
theorem gRl_ok : CtxU gRl := gRk_ok.add mixed noGo (by
  intro x hx
  simp only [List.mem_cons, List.not_mem_nil, or_false] at hx
  rcases hx with rfl
  exact acc17)
abbrev sh9 (k : Nat → Int) : List Int := shQ (listF 32 k 0) (kl 9)
theorem pb_run (k : Nat → Int) : runF gRl 900 [.br true, .br true, .br true] 8 [.agg (b32 k)] [] [] =
    some (.sbool true, [], [([] : List (List Int)).length < 1000000000, true = true, evD = evC, evD.length ≤ 140737488355328, evD.length * 16 ≤ 2 ^ 47, decide (sh9 k = sh9 k) = true, decide (sh9 k = sh9 k) = true]) :=
  run_parts (by kernel_rfl) (by kernel_rfl) (by kernel_rfl)
theorem public_ok (k : Nat → Int) : FnOk gRl 8 [.agg (b32 k)] [] { val := .sbool true } := by
  refine FnOk.pure gRl_ok (pb_run k) ?_
  have e := evD_len
  rw [e]
  simp only [allC_cons, allC_nil, and_true]
  exact ⟨by decide, trivial, List.nil_append _, by decide, by decide, decide_eq_true trivial, decide_eq_true trivial⟩
end Go.Proofs.Ytjkenobomlbdcaa
