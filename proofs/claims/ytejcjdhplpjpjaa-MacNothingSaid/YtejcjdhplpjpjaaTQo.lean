/- Accounts of this seat's functions: lemmas, no statement of their own. No conditions. -/
import Derived.Test.YtejcjdhplpjpjaaTQn
namespace Go.Proofs.Ytejcjdhplpjpjaa
open Go Go.Vx
/-! ### MacNothing: the account -/
noncomputable abbrev n1 (d : Nat → List Int) (m : Nat) : Nat → Int := n43 (aZ (atL z43) d m)
noncomputable abbrev noC (p : Nat → Bool) (d : Nat → List Int) (m : Nat) : List Prop := [rowY p d = rowY (pOf (rowY p d)) (dOf (rowY p d)), Fits .i64 (m : Int), ∀ i, i < m → factsC (rowY p d i), m ≤ 400, MS zT zM [] (atL z43)]
theorem nothing_run0 (p : Nat → Bool) (d : Nat → List Int) (m : Nat) : runF gn 900 [.br false, .loop 7 noKeep 1 (.exit 0) (mkLoopN noG0), .br true, .br true] 4 [.ro 2 m (rowY p d)] [] [] =
    some (.sbool true, [], [Fits .i64 (m : Int), decide ((400 : Int) < (m : Int)) = false, LoopGood gn 71 (.loop noBody) noKeep 1 (.exit 0) (mkLoopN noG0)] ++ (noC p d m ++ [stp d m = m, decide (listF 16 (tgN (n1 d m)) 0 = z16) = true, 0 ≤ n1 d m 42 ∧ n1 d m 42 < 16, decide (z16 = z16) = true])) :=
  run_parts (by kernel_rfl) (by kernel_rfl) (by kernel_rfl)
theorem nothing_run1 (p : Nat → Bool) (d : Nat → List Int) (m : Nat) : runF gn 900 [.br false, .loop 7 noKeep 1 .ret (mkLoopN noG1)] 4 [.ro 2 m (rowY p d)] [] [] =
    some (.bool true, [], [Fits .i64 (m : Int), decide ((400 : Int) < (m : Int)) = false, LoopGood gn 71 (.loop noBody) noKeep 1 .ret (mkLoopN noG1)] ++ (noC p d m ++ [stp d m < m, Fits .i64 ((d (stp d m)).length : Int)])) :=
  run_parts (by kernel_rfl) (by kernel_rfl) (by kernel_rfl)
theorem nothing_run2 (p : Nat → Bool) (d : Nat → List Int) (m : Nat) : runF gn 900 [.br true] 4 [.ro 2 m (rowY p d)] [] [] =
    some (.bool true, [], [Fits .i64 (m : Int), decide ((400 : Int) < (m : Int)) = true]) :=
  run_parts (by kernel_rfl) (by kernel_rfl) (by kernel_rfl)
theorem dS_zero (X : List Int) : ∀ i, dS 0 X i = 0
  | 0 => rfl
  | i + 1 => by simp only [dS, Int.mul_zero, Int.zero_emod]
theorem dTag_zero (X : List Int) : dTag zT zM X = z16 := by
  unfold dTag
  rw [show zT = 0 by decide +kernel, dS_zero]
  decide +kernel
theorem nothing_ok (m : Nat) (a : Nat → Nat → Int) (d : Nat → Nat → List Int) (Fm : Fits .i64 (m : Int)) (hl : ∀ i j, Fits .i64 ((d i j).length : Int)) (hf : ∀ i, i < m → factsC (.agg (svY [.b, .s .u8] (a i) (d i) 0))) :
    FnOk gn 4 [.ro 2 m fun i => .agg (svY [.b, .s .u8] (a i) (d i) 0)] [] { val := .bool true } := by
  show FnOk gn 4 [.ro 2 m (rowY (fun i => decide (a i 0 = 1)) (fun i => d i 1))] [] { val := .bool true }
  have hf' : ∀ i, i < m → factsC (rowY (fun i => decide (a i 0 = 1)) (fun i => d i 1) i) := hf
  have hl' : ∀ i, Fits .i64 (((fun i => d i 1) i).length : Int) := fun i => hl i 1
  generalize (fun i => decide (a i 0 = 1)) = p at *
  generalize (fun i => d i 1) = e at *
  have hL0 := no_loop0
  have hL1 := no_loop1
  by_cases h4 : 400 < m
  · exact FnOk.pure gn_ok (nothing_run2 p e m) (by simp only [allC_cons, allC_nil, and_true]; exact ⟨Fm, decide_eq_true (by omega)⟩)
  · have hc : AllC (noC p e m) := by
      simp only [noC, allC_cons, allC_nil, and_true]
      exact ⟨rfl, Fm, hf', by omega, MS_z⟩
    have h0 : decide ((400 : Int) < (m : Int)) = false := decide_eq_false (by omega)
    have hle := stp_le e m
    by_cases hs : stp e m = m
    · refine FnOk.ofSb (b := true) (FnOk.pure gn_ok (nothing_run0 p e m) ?_) rfl
      refine allC_append.2 ⟨?_, allC_append.2 ⟨hc, ?_⟩⟩
      · simp only [allC_cons, allC_nil, and_true]; exact ⟨Fm, h0, hL0⟩
      · have M := MS_43 (MS_Z MS_z (rowY_bytes (f := rowY p e) rfl hf') m (Nat.le_refl _))
        simp only [allC_cons, allC_nil, and_true]
        refine ⟨hs, decide_eq_true ?_, MS_h M, by decide⟩
        rw [← dTag_zero (xZ e m)]
        exact MS_tag M zM_byte
    · refine FnOk.pure gn_ok (nothing_run1 p e m) ?_
      refine allC_append.2 ⟨?_, allC_append.2 ⟨hc, ?_⟩⟩
      · simp only [allC_cons, allC_nil, and_true]; exact ⟨Fm, h0, hL1⟩
      · simp only [allC_cons, allC_nil, and_true]; exact ⟨by omega, hl' _⟩
end Go.Proofs.Ytejcjdhplpjpjaa
