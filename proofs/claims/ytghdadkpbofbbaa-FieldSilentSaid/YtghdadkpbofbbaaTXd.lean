/- Accounts of this seat's functions: lemmas, no statement of their own. No conditions. -/
import Derived.Test.YtghdadkpbofbbaaTXc
namespace Go.Proofs.Ytghdadkpbofbbaa
open Go Go.Vx
abbrev z40 : List Int := List.replicate 40 0
abbrev z128 : List Int := List.replicate 128 0
noncomputable abbrev rwA (a : Nat → Nat → Int) : Nat → Nat → Int := aOf (rowsF a)
noncomputable abbrev lN (a : Nat → Nat → Int) (m : Nat) : List (List Int) := lZ (rwA a) [] (min m 400)
theorem plays_run (m : Nat) (a : Nat → Nat → Int) : runF gQ 900 [.br false, .loop 6 plKeep 2 (.exit 0) (mkLoopN plG), .br true, .br true] 9 [.ro 38 m (rowsF a)] [] [] =
    some (.sbool true, [], [Inv (atL z40) (atL z128), (!true) = false, LoopGood gQ 52 (.loop plBody) plKeep 2 (.exit 0) (mkLoopN plG), rowsF a = rowsF (rwA a), Fits .i64 (m : Int), ∀ i, i < m → factsC (rowsF a i), Inv (n40 (atL z40)) (n128 (atL z128)), true = true, lN a m = lN a m, (lN a m).length ≤ 140737488355328, (lN a m).length * 16 ≤ 2 ^ 47]) :=
  run_parts (by kernel_rfl) (by kernel_rfl) (by kernel_rfl)
theorem Inv_z0 : Inv (atL z40) (atL z128) := by
  have h1 : ∀ q r, q < 8 → r < 5 → atL z40 (5 * q + r) = 0 := fun q r hq hr => by
    show (List.replicate 40 (0 : Int)).getD (5 * q + r) 0 = 0
    rw [List.getD_eq_getElem?_getD, List.getElem?_replicate]; split <;> rfl
  have h2 : ∀ q j, q < 8 → j < 16 → atL z128 (16 * q + j) = 0 := fun q j hq hj => by
    show (List.replicate 128 (0 : Int)).getD (16 * q + j) 0 = 0
    rw [List.getD_eq_getElem?_getD, List.getElem?_replicate]; split <;> rfl
  refine ⟨fun _ => 0, fun q hq => ?_⟩
  have e : L5 (fun r => atL z40 (5 * q + r)) = [0, 0, 0, 0, 0] := by
    have : L5 (fun r => atL z40 (5 * q + r)) = L5 (fun _ => 0) := listF_eq0.2 fun r hr => h1 q r hq hr
    rw [this]; rfl
  rw [e]
  exact ⟨is_z, ⟨(by decide : (0 : Int) ≤ 0), (by decide : (0 : Int) < Q)⟩, fun j hj => by rw [h2 q j hq hj]; unfold dgN; split <;> simp⟩
theorem plays_ok (m : Nat) (a : Nat → Nat → Int) (hm : Fits .i64 (m : Int)) (hf : ∀ i, i < m → factsC (rowsF a i)) : FnOk gQ 9 [.ro 38 m (rowsF a)] [] { val := .sbool true } := by
  refine FnOk.pure gQ_ok (plays_run m a) ?_
  have hl : (lN a m).length ≤ ([] : List (List Int)).length + min m 400 := lZ_len (rwA a) [] (min m 400)
  have hN4 : min m 400 ≤ 400 := Nat.min_le_right _ _
  simp only [List.length_nil, Nat.zero_add] at hl
  have hL := pl_loop
  simp only [allC_cons, allC_nil, and_true]
  exact ⟨Inv_z0, by decide, hL, (aOf_sc a).symm, hm, hf, Inv_n.2 Inv_z0, trivial, trivial, by omega, by omega⟩
end Go.Proofs.Ytghdadkpbofbbaa
