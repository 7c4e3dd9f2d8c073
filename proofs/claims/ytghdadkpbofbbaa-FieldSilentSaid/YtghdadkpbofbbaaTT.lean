/- Accounts of this seat's functions: lemmas, no statement of their own. No conditions. -/
import Derived.Test.YtghdadkpbofbbaaTS
import Derived.Test.YtghdadkpbofbbaaTRi
namespace Go.Proofs.Ytghdadkpbofbbaa
open Go Go.Vx
/-! ### scripts -/
theorem rnd_run (n : Int) : runF gRg 200 [] 29 [.int .i64 n] [] [] = some (.int .i64 ((n.tmod 8 + 8).tmod 8), [], [Fits .i64 (n.tmod 8 + 8)]) :=
  run_parts (by kernel_rfl) (by kernel_rfl) (by kernel_rfl)
def rndF : SumF := fun args B => match args, B with
  | [.int .i64 n], [] => some { val := .int .i64 (n % 8) }
  | _, _ => none
theorem acc_rnd : Acc gRg 29 rndF := by
  intro args B out h _
  unfold rndF at h
  split at h
  · rename_i n
    simp only [Option.some.injEq] at h; subst h
    have h1 : -8 < n.tmod 8 ∧ n.tmod 8 < 8 ∧ n.tmod 8 % 8 = n % 8 := by
      by_cases hn : n < 0
      · have e : n.tmod 8 = -((-n) % 8) := by rw [show n.tmod 8 = -((-n).tmod 8) by rw [Int.neg_tmod, Int.neg_neg], Int.tmod_eq_emod_of_nonneg (by omega)]
        rw [e]; omega
      · have e : n.tmod 8 = n % 8 := Int.tmod_eq_emod_of_nonneg (by omega)
        rw [e]; omega
    have e : (n.tmod 8 + 8).tmod 8 = n % 8 := by rw [Int.tmod_eq_emod_of_nonneg (by omega)]; omega
    have hr := rnd_run n
    rw [e] at hr
    exact FnOk.pure gRg_ok hr (by simp only [allC_cons, allC_nil, and_true]; exact fits_of (by omega) (by omega))
  · simp at h
noncomputable abbrev gRm : Ctx := gRg.add [(29, rndF)]
theorem gRm_ok : CtxU gRm := gRg_ok.add mixed noGo (by
  intro x hx
  simp only [List.mem_cons, List.not_mem_nil, or_false] at hx
  rcases hx with rfl
  exact acc_rnd)
end Go.Proofs.Ytghdadkpbofbbaa
