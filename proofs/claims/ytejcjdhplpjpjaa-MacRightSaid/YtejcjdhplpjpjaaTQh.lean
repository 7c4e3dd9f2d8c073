/- Accounts of this seat's functions: lemmas, no statement of their own. No conditions. -/
import Derived.Test.YtejcjdhplpjpjaaTQg
namespace Go.Proofs.Ytejcjdhplpjpjaa
open Go Go.Vx
/-! ### tags that are one -/
def eqArrF (n : Nat) : SumF := fun args B => match args, B with
  | [.agg xs, .agg ys], [] => match numsAs (List.replicate n .u8) xs, numsAs (List.replicate n .u8) ys with
    | some la, some lb => some { val := .int .u64 (if la = lb then 1 else 0) }
    | _, _ => none
  | _, _ => none
theorem okArr {n : Nat} {f : FuncId} (hrun : ∀ a b : Nat → Int, ∃ m, runF g0 m [] f [.agg (svF (List.replicate n .u8) a 0), .agg (svF (List.replicate n .u8) b 0)] [] [] = some (.int .u64 (Int.ofNat (eqArrE n a b)), [], []))
    (args : List SV) (B : List Body) (out : OpOut) (h : eqArrF n args B = some out) (_ : AllC out.C) : FnOk g0 f args B out := by
  unfold eqArrF at h
  split at h
  · split at h
    · rename_i la lb ha hb
      simp only [Option.some.injEq] at h; subst h
      refine FnOk.imp (args' := [.agg (svF (List.replicate n .u8) (atL la) 0), .agg (svF (List.replicate n .u8) (atL lb) 0)]) ?_ ⟨nums_imp ha, nums_imp hb, trivial⟩
      refine FnOk.facts fun ⟨h1, h2, _⟩ => ?_
      have hj : ∀ j, j < n → Fits .u8 (atL la j) ∧ Fits .u8 (atL lb j) := fun j hj => by
        have e : (List.replicate n IntKind.u8)[j]? = some .u8 := by simp [hj]
        have f1 := facts_svF h1 j .u8 e
        have f2 := facts_svF h2 j .u8 e
        rw [Nat.zero_add] at f1 f2
        exact ⟨f1, f2⟩
      have e1 := nums_list ha
      have e2 := nums_list hb
      simp only [List.length_replicate] at e1 e2
      have e : (if la = lb then (1 : Int) else 0) = Int.ofNat (eqArrE n (atL la) (atL lb)) := by
        rw [eqArrE_eq hj, ← e1, ← e2]
        split <;> rfl
      rw [e]
      obtain ⟨m, hm⟩ := hrun (atL la) (atL lb)
      exact FnOk.pure g0_ok hm (by simp [AllC])
    · simp at h
  · simp at h
theorem tags_run (a b : Nat → Int) : runF g0 60 [] 47 [.agg (svF (List.replicate 16 .u8) a 0), .agg (svF (List.replicate 16 .u8) b 0)] [] [] = some (.int .u64 (Int.ofNat (eqArrE 16 a b)), [], []) := by kernel_rfl
theorem acc47 (args : List SV) (B : List Body) (out : OpOut) (h : eqArrF 16 args B = some out) (hC : AllC out.C) : FnOk g0 47 args B out := okArr (fun a b => ⟨_, tags_run a b⟩) args B out h hC
/-! ### known answers -/
abbrev ofX (k b : Nat → Int) : Nat → Int := sumN (L5 (mulN (L5 (addN [0, 0, 0, 0, 0] (L5 (blockN [b 0, b 1, b 2, b 3, b 4, b 5, b 6, b 7, b 8, b 9, b 10, b 11, b 12, b 13, b 14, 1, 0])))) (L5 (clampN (loK k))))) (hiK k)
noncomputable abbrev pcP : List Plan := [.br true, .fix 0, .br false, .br false, .br true, .br false, .br true, .fix 15]
theorem of15_run (k b : Nat → Int) : runF gp 3000 pcP 16 [nilR, .agg (svF (List.replicate 32 .u8) k 0), .sl 0 1 0 1 0 1 true] [.cells [.sl 1 15 0 1 0 15 true], .cells (svF (List.replicate 15 .u8) b 0)] [] =
    some (.agg (svF (List.replicate 16 .u8) (ofX k b) 0), [some (.cells [.sl 1 15 0 1 0 15 true]), some (.cells (svF (List.replicate 15 .u8) b 0))], [true = true, false = false, false = false, true = true, (0 : Int) = 0, false = false, true = true, (15 : Int) = 15]) :=
  run_parts (by kernel_rfl) (by kernel_rfl) (by kernel_rfl)
end Go.Proofs.Ytejcjdhplpjpjaa
