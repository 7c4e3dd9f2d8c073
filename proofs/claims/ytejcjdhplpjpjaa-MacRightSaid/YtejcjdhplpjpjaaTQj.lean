/- Accounts of this seat's functions: lemmas, no statement of their own. No conditions. -/
import Derived.Test.YtejcjdhplpjpjaaTQi
namespace Go.Proofs.Ytejcjdhplpjpjaa
open Go Go.Vx
/-! ### known -/
noncomputable abbrev knP : List Plan := [.br true, .fix 0, .br false, .br false, .br true, .br true, .fix 1, .br true, .fix 4, .fix 11, .br false, .br false, .br false, .br false, .br true, .fix 15, .br false, .br false, .br false, .br true, .br true, .fix 1] ++ List.replicate 12 (.br true)
abbrev knC : List Prop := [(0 : Nat) < (1099511627776 : Nat), Bool.true = Bool.true, (2 : Nat) < (1099511627776 : Nat), Bool.false = Bool.false, (3 : Nat) < (1099511627776 : Nat), Bool.false = Bool.false, (4 : Nat) < (1099511627776 : Nat), Bool.true = Bool.true, (1 : Nat) < (1099511627776 : Nat), (0 : Int) = (0 : Int), (5 : Nat) < (1099511627776 : Nat), Bool.true = Bool.true, (7 : Nat) < (1099511627776 : Nat), Bool.true = Bool.true, (8 : Nat) < (1099511627776 : Nat), (4 : Int) = (4 : Int), (9 : Nat) < (1099511627776 : Nat), (11 : Int) = (11 : Int), (10 : Nat) < (1099511627776 : Nat), Bool.false = Bool.false, (11 : Nat) < (1099511627776 : Nat), Bool.false = Bool.false, (12 : Nat) < (1099511627776 : Nat), Bool.false = Bool.false, (6 : Nat) < (1099511627776 : Nat), (1 : Int) = (1 : Int), (13 : Nat) < (1099511627776 : Nat), Bool.false = Bool.false, (14 : Nat) < (1099511627776 : Nat), Bool.true = Bool.true, (15 : Nat) < (1099511627776 : Nat), (15 : Int) = (15 : Int), (17 : Nat) < (1099511627776 : Nat), (16 : Nat) < (1099511627776 : Nat), Bool.false = Bool.false, Bool.false = Bool.false, Bool.false = Bool.false, Bool.true = Bool.true, Bool.true = Bool.true, (1 : Int) = (1 : Int), Bool.true = Bool.true, Bool.true = Bool.true, Bool.true = Bool.true, Bool.true = Bool.true, Bool.true = Bool.true, Bool.true = Bool.true]
set_option maxRecDepth 100000 in
theorem kn_run : runF gko 6000 knP 15 [] [] [] = some (.sbool true, [], knC) := run_parts (by kernel_rfl) (by kernel_rfl) (by kernel_rfl)
theorem knC_ok : AllC knC := by
  simp only [knC, allC_cons, allC_nil, and_true]
  decide
def F15 : SumF := fun args B => match args, B with
  | [], [] => some { val := .sbool true }
  | _, _ => none
theorem acc15 : Acc gko 15 F15 := by
  intro args B out h hC
  unfold F15 at h
  split at h
  · simp only [Option.some.injEq] at h; subst h
    exact FnOk.pure gko_ok kn_run knC_ok
  · simp at h
end Go.Proofs.Ytejcjdhplpjpjaa
