/- Accounts of this seat's functions: lemmas, no statement of their own. No conditions. -/
import Derived.Test.YtibfkpgdpldjbaaTZi
namespace Go.Proofs.Ytibfkpgdpldjbaa
open Go Go.Vx
/-! ### the document's Same of two lists that are one -/
abbrev rsKeep : List Nat := [0, 1, 5]
noncomputable abbrev rsBody : Code := bodyAt Try.prog 17 4
abbrev rsS (i : Nat) : List (Nat × SV) := rsKeep.zip [.own 0, .own 1, .int .i64 (i : Int)]
theorem rs_go (i : Nat) (l : List (List Int)) : runC g9 200 41 [.br true, .br false, .br false] rsBody (rsS i) [.rows [.i64, .i64] l, .rows [.i64, .i64] l] rsKeep [0, 1] =
    some (Ex.normal, [SV.own (0 : Nat), SV.own (1 : Nat), SV.int IntKind.i64 ((↑i : Int) + (1 : Int))], [some (Body.rows [IntKind.i64, IntKind.i64] l), some (Body.rows [IntKind.i64, IntKind.i64] l)], [Fits IntKind.i64 (↑l.length : Int), decide ((↑i : Int) < (↑l.length : Int)) = true, i < l.length, (0 : Int) ≤ (↑i : Int) ∧ (↑i : Int) < (↑(ecount (Body.rows [IntKind.i64, IntKind.i64] l)) : Int), i < l.length, (0 : Int) ≤ (↑i : Int) ∧ (↑i : Int) < (↑(ecount (Body.rows [IntKind.i64, IntKind.i64] l)) : Int), (!decide ((l.getD (↑i : Int).toNat []).getD ((0 : Nat) + (0 : Nat) + (0 : Nat)) (0 : Int) = (l.getD (↑i : Int).toNat []).getD ((0 : Nat) + (0 : Nat) + (0 : Nat)) (0 : Int))) = false, i < l.length, (0 : Int) ≤ (↑i : Int) ∧ (↑i : Int) < (↑(ecount (Body.rows [IntKind.i64, IntKind.i64] l)) : Int), i < l.length, (0 : Int) ≤ (↑i : Int) ∧ (↑i : Int) < (↑(ecount (Body.rows [IntKind.i64, IntKind.i64] l)) : Int), (!decide ((l.getD (↑i : Int).toNat []).getD ((0 : Nat) + (1 : Nat) + (0 : Nat)) (0 : Int) = (l.getD (↑i : Int).toNat []).getD ((0 : Nat) + (1 : Nat) + (0 : Nat)) (0 : Int))) = false, Fits IntKind.i64 ((↑i : Int) + (1 : Int))]) := by kernel_rfl
theorem rs_end (i : Nat) (l : List (List Int)) : runC g9 200 41 [.br false] rsBody (rsS i) [.rows [.i64, .i64] l, .rows [.i64, .i64] l] rsKeep [0, 1] =
    some (Ex.exit (0 : Nat), [SV.own (0 : Nat), SV.own (1 : Nat), SV.int IntKind.i64 (↑i : Int)], [some (Body.rows [IntKind.i64, IntKind.i64] l), some (Body.rows [IntKind.i64, IntKind.i64] l)], [Fits IntKind.i64 (↑l.length : Int), decide ((↑i : Int) < (↑l.length : Int)) = false]) := by kernel_rfl
theorem rs_one (l : List (List Int)) : runF g9 3000 [.br false, .br true, .br false, .br false, .br false] 17 [.own 0, .sl 1 1 0 2 0 1 true] [.rows [.i64, .i64] l, .cells [.lit .i64 3, .lit .i64 22]] [] =
    some (SV.bool true, [some (Body.rows [IntKind.i64, IntKind.i64] l), some (Body.cells [SV.lit IntKind.i64 (3 : Int), SV.lit IntKind.i64 (22 : Int)])], [Fits IntKind.i64 (↑l.length : Int), (!decide ((↑l.length : Int) = (1 : Int))) = false, Fits IntKind.i64 (↑l.length : Int), decide ((0 : Int) < (↑l.length : Int)) = true, (0 : Nat) < l.length, (0 : Int) ≤ (0 : Int) ∧ (0 : Int) < (↑(ecount (Body.rows [IntKind.i64, IntKind.i64] l)) : Int), (!decide ((l.getD ((0 : Int)).toNat []).getD ((0 : Nat) + (0 : Nat) + (0 : Nat)) (0 : Int) = (3 : Int))) = false, (0 : Nat) < l.length, (0 : Int) ≤ (0 : Int) ∧ (0 : Int) < (↑(ecount (Body.rows [IntKind.i64, IntKind.i64] l)) : Int), (!decide ((l.getD ((0 : Int)).toNat []).getD ((0 : Nat) + (1 : Nat) + (0 : Nat)) (0 : Int) = (22 : Int))) = false, Fits IntKind.i64 (↑l.length : Int), decide ((1 : Int) < (↑l.length : Int)) = false]) := by kernel_rfl
def rsG : LoopF := fun vals B => match vals, B with
  | [.own 0, .own 1, .int .i64 i], [.rows K la, .rows K2 lb] => match sameKs K [.i64, .i64], sameKs K2 [.i64, .i64] with
    | true, true => some ([], [.rows [.i64, .i64] la, .rows [.i64, .i64] lb], [la = lb, i = 0, la.length ≤ 140737488355328])
    | _, _ => none
  | _, _ => none
theorem rs_loop : LoopGood g9 41 (.loop rsBody) rsKeep 2 (.exit 0) (mkLoopN rsG) := by
  refine LoopGood.mkN (by decide) fun vals B S' B' C hG hC hlen w0 O hgl => ?_
  clear hlen
  unfold rsG at hG
  split at hG
  · rename_i i K la K2 lb
    split at hG
    · rename_i hK hK2
      obtain rfl := sameKs_eq hK
      obtain rfl := sameKs_eq hK2
      simp only [Option.some.injEq, Prod.mk.injEq] at hG
      obtain ⟨rfl, rfl, rfl⟩ := hG
      simp only [allC_cons, allC_nil, and_true] at hC
      obtain ⟨rfl, rfl, h3⟩ := hC
      have j2 : ∀ j : Nat, j < 2 → ([0, 1] : List Nat)[j]? = some j := fun j hj => by
        match j, hj with
        | 0, _ => rfl
        | 1, _ => rfl
      have F1 : Fits .i64 (la.length : Int) := fits_small h3
      refine SimC.iter (g := g9) (S := fun i => rsS i) (B := fun _ => [.rows [.i64, .i64] la, .rows [.i64, .i64] la]) (N := la.length) (fun i hi => ?_) ?_ (by simp) 0 (by omega)
      · have ec : ecount (Body.rows [IntKind.i64, IntKind.i64] la) = la.length := rfl
        have F4 : Fits .i64 ((i : Int) + 1) := fits_of (by omega) (by omega)
        have q : ∀ x : Int, (!decide (x = x)) = false := fun x => by simp
        exact SimC.run (B' := [.rows [.i64, .i64] la, .rows [.i64, .i64] la]) g9_ok (by decide) (rs_go i la) (by rw [ec, q, q]; (simp only [allC_cons, allC_nil, and_true]; repeat' (with_reducible (first | refine And.intro ?_ ?_ | exact True.intro | assumption | omega | exact decide_eq_true (by first | assumption | omega) | exact decide_eq_false (by first | assumption | omega) | rfl | (simp; done))))) (by decide) j2 (by decide) (by simp) hgl
      · exact SimC.weaken (SimC.run (B' := [.rows [.i64, .i64] la, .rows [.i64, .i64] la]) g9_ok (by decide) (rs_end la.length la) (by (simp only [allC_cons, allC_nil, and_true]; repeat' (with_reducible (first | refine And.intro ?_ ?_ | exact True.intro | assumption | omega | exact decide_eq_true (by first | assumption | omega) | exact decide_eq_false (by first | assumption | omega) | rfl | (simp; done))))) (by decide) j2 (by decide) (by simp) hgl) (fun t => .inr (by simp [mkT, tget, Tr.get_lf]))
    · simp at hG
  · simp at hG
theorem rs_run (la lb : List (List Int)) : runF g9 200 [.br false, .loop 4 rsKeep 2 (.exit 0) (mkLoopN rsG)] 17 [.own 0, .own 1] [.rows [.i64, .i64] la, .rows [.i64, .i64] lb] [] =
    some (.bool true, [some (.rows [.i64, .i64] la), some (.rows [.i64, .i64] lb)], [Fits .i64 (lb.length : Int), Fits .i64 (la.length : Int), (!decide ((la.length : Int) = (lb.length : Int))) = false, LoopGood g9 41 (.loop rsBody) rsKeep 2 (.exit 0) (mkLoopN rsG), la = lb, (0 : Int) = 0, la.length ≤ 140737488355328]) :=
  run_parts (by kernel_rfl) (by kernel_rfl) (by kernel_rfl)
def F17 : SumF := fun args B => match args, B with
  | [.own 0, .own 1], [.rows K la, .rows K2 lb] => match sameKs K [.i64, .i64], sameKs K2 [.i64, .i64] with
    | true, true => some { val := .sbool true, C := [la = lb, la.length ≤ 140737488355328] }
    | _, _ => none
  | [.own 0, .sl 1 1 0 2 0 1 true], [.rows K la, .cells [.lit .i64 3, .lit .i64 22]] => match sameKs K [.i64, .i64] with
    | true => some { val := .sbool true, C := [la = [[3, 22]]] }
    | _ => none
  | _, _ => none
theorem acc17 : Acc g9 17 F17 := by
  intro args B out h hC
  unfold F17 at h
  split at h
  · rename_i K la K2 lb
    split at h
    · rename_i hK hK2
      obtain rfl := sameKs_eq hK
      obtain rfl := sameKs_eq hK2
      simp only [Option.some.injEq] at h; subst h
      simp only [allC_cons, allC_nil, and_true] at hC
      obtain ⟨rfl, hl⟩ := hC
      have F1 : Fits .i64 (la.length : Int) := fits_small hl
      have hL := rs_loop
      refine FnOk.toSb (b := true) ?_ rfl
      refine FnOk.run (out := { val := .bool true }) (new := []) g9_ok (rs_run _ _) (by (simp only [allC_cons, allC_nil, and_true]; repeat' (with_reducible (first | refine And.intro ?_ ?_ | exact True.intro | assumption | omega | exact decide_eq_true (by first | assumption | omega) | exact decide_eq_false (by first | assumption | omega) | rfl | (simp; done))))) (by simp [upto]) rfl (by simp) (by simp) fun j hj => ?_
      match j, hj with
      | 0, _ => rfl
      | 1, _ => rfl
      | j + 2, hj => exact absurd hj (by simp)
    · simp at h
  · rename_i K la
    split at h
    · rename_i hK
      obtain rfl := sameKs_eq hK
      simp only [Option.some.injEq] at h; subst h
      simp only [allC_cons, allC_nil, and_true] at hC
      subst hC
      have F1 : Fits .i64 ((([[3, 22]] : List (List Int)).length : Nat) : Int) := fits_small (by simp)
      have F2 : Fits .i64 (1 : Int) := fits_small (n := 1) (by omega)
      refine FnOk.toSb (b := true) ?_ rfl
      refine FnOk.run (out := { val := .bool true }) (new := []) g9_ok (rs_one [[3, 22]]) (by simp [AllC, ecount]; intro p hp; rcases hp with h | h | h | h | h | h <;> first | exact h | exact h.2 F2) (by simp [upto]) rfl (by simp) (by simp) fun j hj => ?_
      match j, hj with
      | 0, _ => rfl
      | 1, _ => rfl
      | j + 2, hj => exact absurd hj (by simp)
    · simp at h
  · simp at h
noncomputable abbrev g11 : Ctx := g9.add [(17, F17)]
theorem g11_ok : CtxU g11 := g9_ok.add mixed noGo (by
  intro x hx
  simp only [List.mem_cons, List.not_mem_nil, or_false] at hx
  rcases hx with rfl
  exact acc17)
end Go.Proofs.Ytibfkpgdpldjbaa
