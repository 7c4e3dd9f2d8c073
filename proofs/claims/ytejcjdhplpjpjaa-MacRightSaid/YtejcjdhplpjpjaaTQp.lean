/- Accounts of this seat's functions: lemmas, no statement of their own. No conditions. -/
import Derived.Test.YtejcjdhplpjpjaaTQn
namespace Go.Proofs.Ytejcjdhplpjpjaa
open Go Go.Vx
/-! ### MacTwo: a third Mac; the loop's runs -/
noncomputable abbrev w1V (v : Int) (a : Nat → Int) : Body := .cells (nilR :: (svF (List.replicate 5 .u64 ++ List.replicate 5 .u64 ++ List.replicate 16 .u8 ++ List.replicate 16 .u8) (fun j => bif Nat.beq j 26 then v else a j) 0 ++ [.lit .i64 1]))
theorem w1_run (v : Int) (a : Nat → Int) : runF gw 400 [.br false, .br false, .br true] 12 [.ptr 0 0, .sl 1 1 0 1 0 1 true] [macV nilR a, .cells [.int .u8 v]] [] =
    some (.tuple [], [some (w1V v a), some (.cells [.int .u8 v])], [decide (0 < a 42) = false, false = false, true = true]) :=
  run_parts (by kernel_rfl) (by kernel_rfl) (by kernel_rfl)
noncomputable def F12c : SumF := fun args B => match args, B with
  | [.ptr 0 0, .sl 1 1 0 1 0 1 true], [.cells ms, .cells bs] => match macAs ms, headK (ms.take 1), numsAs [.u8] bs with
    | some la, .nil, some [v] => some { val := .tuple [], upd := [(0, some (w1V v (atL la))), (1, some (.cells [.int .u8 v]))], C := [atL la 42 = 0] }
    | _, _, _ => none
  | _, _ => none
theorem acc12c : Acc gw 12 F12c := by
  intro args B out h hC
  unfold F12c at h
  split at h
  · rename_i ms bs
    split at h
    · rename_i la v ha hr hb
      have hr := head_nil hr
      simp only [Option.some.injEq] at h; subst h
      simp only [allC_cons, allC_nil, and_true] at hC
      refine FnOk.preB (B' := [macV nilR (atL la), .cells [.int .u8 v]]) ?_ ⟨cells_mac ha hr rfl, cells_nums hb, trivial⟩ (fun j => by
        match j with
        | 0 => rfl
        | 1 => rfl
        | j + 2 => rfl)
      exact FnOk.val (C := []) (rd := []) (FnOk.run (new := []) gw_ok (w1_run v (atL la)) (by simp only [allC_cons, allC_nil, and_true]; exact decide_eq_false (by omega)) (by simp [upto]) rfl (by simp) (by simp) (fun j hj => by
          match j, hj with
          | 0, _ => rfl
          | 1, _ => rfl)) (fun _ _ _ _ h => h)
    · simp at h
  · simp at h
noncomputable def oneOf (F G : SumF) : SumF := fun args B => match F args B with
  | some o => some o
  | none => G args B
theorem acc_one {g : Ctx} {f : FuncId} {F G : SumF} (hF : Acc g f F) (hG : Acc g f G) : Acc g f (oneOf F G) := by
  intro args B out h hC
  unfold oneOf at h
  split at h
  · rename_i o e
    simp only [Option.some.injEq] at h; subst h
    exact hF _ _ _ e hC
  · exact hG _ _ _ h hC
noncomputable abbrev gt : Ctx := gw.add [(11, F11), (12, oneOf F12 F12c), (13, F13), (14, F14), (15, F15)]
theorem gt_ok : CtxU gt := gw_ok.add mixed noGo (by
  intro x hx
  simp only [List.mem_cons, List.not_mem_nil, or_false] at hx
  rcases hx with rfl | rfl | rfl | rfl | rfl
  · exact Acc.of (g := gp) rfl rfl acc11
  · exact acc_one acc12 acc12c
  · exact acc13
  · exact acc14
  · exact Acc.of (g := gko) rfl rfl acc15)
abbrev twKeep : List Nat := [2, 3, 4, 7, 8, 9, 10, 11]
noncomputable abbrev twBody : Code := bodyAt Try.prog 3 10
noncomputable abbrev twO (p : Nat → Bool) (d : Nat → List Int) (m : Nat) (i : Int) : List SV := [.ro 2 m (rowY p d), .ptr 0 0, .ptr 1 0, .ptr 2 0, .ptr 3 0, .own 4, .own 5, .int .i64 i]
noncomputable abbrev twS (p : Nat → Bool) (d : Nat → List Int) (m i : Nat) : List (Nat × SV) := twKeep.zip (twO p d m (i : Int))
noncomputable abbrev twB (k l a b : Nat → Int) (x y : List Int) : List Body := [.cells (svF (List.replicate 32 .u8) k 0), .cells (svF (List.replicate 32 .u8) l 0), macV nilR a, macV nilR b, .ints .u8 x, .ints .u8 y]
end Go.Proofs.Ytejcjdhplpjpjaa
