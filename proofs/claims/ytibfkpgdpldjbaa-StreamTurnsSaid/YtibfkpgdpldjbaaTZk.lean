/- Accounts of this seat's functions: lemmas, no statement of their own. No conditions. -/
import Derived.Test.YtibfkpgdpldjbaaTZj
namespace Go.Proofs.Ytibfkpgdpldjbaa
open Go Go.Vx
/-! ### StreamBlocks -/
theorem bl_run (k : Nat → Int) (c : Int) (n : Nat → Int) : runF g11 3000 [.br true, .br true, .br true] 6 [.agg (k32 k), .int .u32 c, .agg (n12 n)] [] [] =
    some (.sbool true, [], [U c, BN 32 (atL (listF 32 k 0)), BN 12 (atL (listF 12 n 0)), ([] : List (List Int)).length < 1099511627776, true = true, ([] ++ [[3, 22]] : List (List Int)) = [[3, 22]], ([] ++ [[3, 22]] : List (List Int)).length * 16 ≤ 2 ^ 47, decide (BL k c n = BL k c n) = true, decide (BL k c n = BL k c n) = true]) :=
  run_parts (by kernel_rfl) (by kernel_rfl) (by kernel_rfl)
theorem BN_fits {m : Nat} {k : Nat → Int} (h : ∀ (i : Nat) (q : IntKind), (List.replicate m IntKind.u8)[i]? = some q → Fits q (k i)) : BN m k := fun i hi => by
  have h1 := h i .u8 (by rw [List.getElem?_replicate, if_pos hi])
  exact ⟨h1.1, Int.lt_of_le_of_lt h1.2 (by decide)⟩
theorem U_of {c : Int} (h : Fits .u32 c) : U c := ⟨h.1, Int.lt_of_le_of_lt h.2 (by decide)⟩
theorem blocks_ok (k : Nat → Int) (hk : ∀ (i : Nat) (q : IntKind), (List.replicate 32 IntKind.u8)[i]? = some q → Fits q (k i)) (c : Int) (hc : Fits .u32 c) (n : Nat → Int) (hn : ∀ (i : Nat) (q : IntKind), (List.replicate 12 IntKind.u8)[i]? = some q → Fits q (n i)) : FnOk g11 6 [.agg (k32 k), .int .u32 c, .agg (n12 n)] [] { val := .sbool true } := by
  have h1 : U c := U_of hc
  have h2 := BN_listF (BN_fits hk)
  have h3 := BN_listF (BN_fits hn)
  exact FnOk.pure g11_ok (bl_run k c n) (by simp only [allC_cons, allC_nil, and_true]; refine ⟨h1, h2, h3, ?_⟩; simp)
end Go.Proofs.Ytibfkpgdpldjbaa
