/- Accounts of this seat's functions: lemmas, no statement of their own. No conditions. -/
import Derived.Test.YtkpkdingeomhnaaTK
namespace Go.Proofs.Ytkpkdingeomhnaa
open Go Go.Vx
/-! ### TraceSames -/
theorem sames_run (n m : Nat) (f h : Nat → SV) : runF g4 300 [.br false, .br false, .br false, .br false, .br false, .br false, .br true, .br true, .br true, .br true, .br true] 4 [.ro 3 n f, .ro 3 m h] [] [] =
    some (SV.sbool true, [], [f = scriptF (aOf f), Fits IntKind.i64 (↑n : Int), h = scriptF (aOf h), Fits IntKind.i64 (↑m : Int), false = false, false = false, f = scriptF (aOf f), Fits IntKind.i64 (↑n : Int), h = scriptF (aOf h), Fits IntKind.i64 (↑m : Int), (0 : Nat) + (evs (aOf f) (min n (2000 : Nat))).length ≤ (evs (aOf f) (min n (2000 : Nat))).length, (0 : Nat) + (evs (aOf h) (min m (2000 : Nat))).length ≤ (evs (aOf h) (min m (2000 : Nat))).length, (evs (aOf f) (min n (2000 : Nat))).length ≤ (140737488355328 : Nat), (evs (aOf h) (min m (2000 : Nat))).length ≤ (140737488355328 : Nat), (!decide (evs (aOf f) (min n (2000 : Nat)) = evs (aOf f) (min n (2000 : Nat)))) = false, (evs (aOf f) (min n (2000 : Nat))).length ≤ (140737488355328 : Nat), (!decide (evs (aOf h) (min m (2000 : Nat)) = evs (aOf f) (min n (2000 : Nat))) == decide (sub (evs (aOf f) (min n (2000 : Nat))) (0 : Nat) (evs (aOf f) (min n (2000 : Nat))).length = sub (evs (aOf h) (min m (2000 : Nat))) (0 : Nat) (evs (aOf h) (min m (2000 : Nat))).length)) = false, (evs (aOf h) (min m (2000 : Nat))).length ≤ (140737488355328 : Nat), (evs (aOf f) (min n (2000 : Nat))).length ≤ (140737488355328 : Nat), (!decide (evs (aOf f) (min n (2000 : Nat)) = evs (aOf h) (min m (2000 : Nat))) == decide (sub (evs (aOf f) (min n (2000 : Nat))) (0 : Nat) (evs (aOf f) (min n (2000 : Nat))).length = sub (evs (aOf h) (min m (2000 : Nat))) (0 : Nat) (evs (aOf h) (min m (2000 : Nat))).length)) = false, (evs (aOf f) (min n (2000 : Nat))).length ≤ (140737488355328 : Nat), (evs (aOf h) (min m (2000 : Nat))).length ≤ (140737488355328 : Nat), false = false, decide ((↑(evs (aOf f) (min n (2000 : Nat))).length : Int) = (↑(evs (aOf f) (min n (2000 : Nat))).length : Int)) = true, Fits IntKind.i64 (↑(evs (aOf f) (min n (2000 : Nat))).length : Int), (decide (evs (aOf f) (min n (2000 : Nat)) = []) == decide ((↑(evs (aOf f) (min n (2000 : Nat))).length : Int) = (0 : Int))) = true, Fits IntKind.i64 (↑(evs (aOf f) (min n (2000 : Nat))).length : Int), (evs (aOf f) (min n (2000 : Nat))).length ≤ (140737488355328 : Nat), (0 : Nat) ≤ (140737488355328 : Nat), (decide (evs (aOf h) (min m (2000 : Nat)) = []) == decide ((↑(evs (aOf h) (min m (2000 : Nat))).length : Int) = (0 : Int))) = true, Fits IntKind.i64 (↑(evs (aOf h) (min m (2000 : Nat))).length : Int), (evs (aOf h) (min m (2000 : Nat))).length ≤ (140737488355328 : Nat), (decide (evs (aOf f) (min n (2000 : Nat)) = []) == decide ((↑(evs (aOf f) (min n (2000 : Nat))).length : Int) = (0 : Int))) = true, Fits IntKind.i64 (↑(evs (aOf f) (min n (2000 : Nat))).length : Int), (evs (aOf f) (min n (2000 : Nat))).length ≤ (140737488355328 : Nat)]) := by kernel_rfl
theorem evs_min (a : Nat → Nat → Int) (n : Nat) : (evs a (min n 2000)).length ≤ 2000 := by have := evs_len a (min n 2000); omega
theorem sames_ok (n : Nat) (a : Nat → Nat → Int) (hn : Fits .i64 (n : Int)) (m : Nat) (b : Nat → Nat → Int) (hm : Fits .i64 (m : Int)) : FnOk g4 4 [.ro 3 n (scriptF a), .ro 3 m (scriptF b)] [] { val := .sbool true } := by
  have hs := (aOf_script a).symm
  have hs2 := (aOf_script b).symm
  have hl := evs_min (aOf (scriptF a)) n
  have hl2 := evs_min (aOf (scriptF b)) m
  refine FnOk.pure g4_ok (sames_run n m (scriptF a) (scriptF b)) ?_
  simp only [sub_all]
  generalize evs (aOf (scriptF a)) (min n 2000) = la at hl ⊢
  generalize evs (aOf (scriptF b)) (min m 2000) = lb at hl2 ⊢
  have F1 := fits_small (show la.length ≤ 140737488355328 by omega)
  have F2 := fits_small (show lb.length ≤ 140737488355328 by omega)
  have c1 : (!(decide (lb = la) == decide (la = lb))) = false := by
    have : decide (lb = la) = decide (la = lb) := by simp only [eq_comm]
    rw [this]; simp
  have c2 : (!(decide (la = lb) == decide (la = lb))) = false := by simp
  have c3 : ∀ l : List (List Int), (decide (l = []) == decide ((l.length : Int) = 0)) = true := fun l => by cases l <;> simp; omega
  have c4 := c3 la
  have c5 := c3 lb
  have c6 : (!decide (la = la)) = false := by simp
  (simp only [allC_cons, allC_nil, and_true]; repeat' (with_reducible (first | refine And.intro ?_ ?_ | exact True.intro | assumption | omega | exact decide_eq_true (by first | assumption | omega) | exact decide_eq_false (by first | assumption | omega) | rfl | (simp; done))))
end Go.Proofs.Ytkpkdingeomhnaa
