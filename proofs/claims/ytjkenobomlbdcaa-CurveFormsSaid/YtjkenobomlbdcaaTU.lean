/- Accounts of this seat's functions: lemmas, no statement of their own. No conditions. -/
import Derived.Test.YtjkenobomlbdcaaTT
import Derived.Test.YtjkenobomlbdcaaV4
namespace Go.Proofs.Ytjkenobomlbdcaa
open Go Go.Vx
/-! ### two logs that are one -/
abbrev eqKeep : List Nat := [0, 1, 12, 13]
noncomputable abbrev eqBody : Code := bodyAt Try.prog 41 4
abbrev eqS (n i : Nat) : List (Nat × SV) := eqKeep.zip [.own 0, .own 1, .int .i64 (n : Int), .int .i64 (i : Int)]
theorem eq_go (n i : Nat) (l : List (List Int)) : runC gRi 200 26 [.br true, .br false] eqBody (eqS n i) [.rows [.i64, .i64] l, .rows [.i64, .i64] l] eqKeep [0, 1] =
    some (.normal, [.own 0, .own 1, .int .i64 (n : Int), .int .i64 ((i : Int) + 1)], [some (.rows [.i64, .i64] l), some (.rows [.i64, .i64] l)],
      [decide ((i : Int) < (n : Int)) = true, i < l.length, i < l.length, (0 : Int) ≤ (i : Int) ∧ (i : Int) < (ecount (.rows [.i64, .i64] l) : Int), i < l.length, i < l.length, (0 : Int) ≤ (i : Int) ∧ (i : Int) < (ecount (.rows [.i64, .i64] l) : Int),
        (!decide ([(l.getD i []).getD 0 0, (l.getD i []).getD 1 0] = [(l.getD i []).getD 0 0, (l.getD i []).getD 1 0])) = false, Fits .i64 ((i : Int) + 1)]) := by kernel_rfl
theorem eq_end (n i : Nat) (l : List (List Int)) : runC gRi 200 26 [.br false] eqBody (eqS n i) [.rows [.i64, .i64] l, .rows [.i64, .i64] l] eqKeep [0, 1] =
    some (.exit 0, [.own 0, .own 1, .int .i64 (n : Int), .int .i64 (i : Int)], [some (.rows [.i64, .i64] l), some (.rows [.i64, .i64] l)], [decide ((i : Int) < (n : Int)) = false]) := by kernel_rfl
def eqG : LoopF := fun vals B => match vals, B with
  | [.own 0, .own 1, .int .i64 n, .int .i64 i], [.rows K la, .rows K2 lb] => match sameKs K [.i64, .i64], sameKs K2 [.i64, .i64] with
    | true, true => some ([], [.rows [.i64, .i64] la, .rows [.i64, .i64] lb], [la = lb, n = (la.length : Int), i = 0, la.length ≤ 140737488355328])
    | _, _ => none
  | _, _ => none
theorem eq_loop : LoopGood gRi 26 (.loop eqBody) eqKeep 2 (.exit 0) (mkLoopN eqG) := by
  refine LoopGood.mkN (by decide) fun vals B S' B' C hG hC hlen w0 O hgl => ?_
  clear hlen
  unfold eqG at hG
  split at hG
  · rename_i n i K la K2 lb
    split at hG
    · rename_i hK hK2
      obtain rfl := sameKs_eq hK
      obtain rfl := sameKs_eq hK2
      simp only [Option.some.injEq, Prod.mk.injEq] at hG
      obtain ⟨rfl, rfl, rfl⟩ := hG
      simp only [allC_cons, allC_nil, and_true] at hC
      obtain ⟨rfl, rfl, rfl, h3⟩ := hC
      have j2 : ∀ j : Nat, j < 2 → ([0, 1] : List Nat)[j]? = some j := fun j hj => by
        match j, hj with
        | 0, _ => rfl
        | 1, _ => rfl
      refine SimC.iter (g := gRi) (S := fun i => eqS la.length i) (B := fun _ => [.rows [.i64, .i64] la, .rows [.i64, .i64] la]) (N := la.length) (fun i hi => ?_) ?_ (by simp) 0 (by omega)
      · have ec : ecount (Body.rows [IntKind.i64, IntKind.i64] la) = la.length := rfl
        have F4 : Fits .i64 ((i : Int) + 1) := fits_of (by omega) (by omega)
        have q : (!decide ([(la.getD i []).getD 0 0, (la.getD i []).getD 1 0] = [(la.getD i []).getD 0 0, (la.getD i []).getD 1 0])) = false := by simp
        exact SimC.run (B' := [.rows [.i64, .i64] la, .rows [.i64, .i64] la]) gRi_ok (by decide) (eq_go la.length i la) (by rw [ec]; (simp only [allC_cons, allC_nil, and_true]; repeat' (with_reducible (first | refine And.intro ?_ ?_ | exact True.intro | assumption | omega | exact decide_eq_true (by first | assumption | omega) | exact decide_eq_false (by first | assumption | omega) | rfl | (simp; done))))) (by decide) j2 (by decide) (by simp) hgl
      · exact SimC.weaken (SimC.run (B' := [.rows [.i64, .i64] la, .rows [.i64, .i64] la]) gRi_ok (by decide) (eq_end la.length la.length la) (by (simp only [allC_cons, allC_nil, and_true]; repeat' (with_reducible (first | refine And.intro ?_ ?_ | exact True.intro | assumption | omega | exact decide_eq_true (by first | assumption | omega) | exact decide_eq_false (by first | assumption | omega) | rfl | (simp; done))))) (by decide) j2 (by decide) (by simp) hgl) (fun t => .inr (by simp [mkT, tget, Tr.get_lf]))
    · simp at hG
  · simp at hG
theorem tsame_run (n m : Int) (la lb : List (List Int)) : runF gRi 200 [.br false, .loop 4 eqKeep 2 (.exit 0) (mkLoopN eqG)] 23 [.ptr 0 0, .ptr 1 0] [.cells [.int .i64 n, .own 2], .cells [.int .i64 m, .own 3], .rows [.i64, .i64] la, .rows [.i64, .i64] lb] [] =
    some (.bool true, [some (.cells [.int .i64 n, .own 2]), some (.cells [.int .i64 m, .own 3]), some (.rows [.i64, .i64] la), some (.rows [.i64, .i64] lb)], [Fits .i64 (lb.length : Int), Fits .i64 (la.length : Int), (!decide ((la.length : Int) = (lb.length : Int))) = false, Fits .i64 (la.length : Int), LoopGood gRi 26 (.loop eqBody) eqKeep 2 (.exit 0) (mkLoopN eqG), la = lb, (la.length : Int) = (la.length : Int), (0 : Int) = 0, la.length ≤ 140737488355328]) :=
  run_parts (by kernel_rfl) (by kernel_rfl) (by kernel_rfl)
def F23 : SumF := fun args B => match args, B with
  | [.ptr 0 0, .ptr 1 0], [.log a, .log b] => some { val := .sbool true, C := [a = b, a.length ≤ 140737488355328] }
  | _, _ => none
theorem acc23 : Acc gRi 23 F23 := by
  intro args B out h hC
  unfold F23 at h
  split at h
  · rename_i a b
    simp only [Option.some.injEq] at h; subst h
    simp only [allC_cons, allC_nil, and_true] at hC
    obtain ⟨rfl, hl⟩ := hC
    have F1 : Fits .i64 (a.length : Int) := fits_small hl
    have hL := eq_loop
    refine FnOk.toSb (b := true) ?_ rfl
    refine FnOk.unlogAt (k := 0) (l := a) (new := []) rfl (FnOk.unlogAt (k := 1) (l := a) (new := []) rfl (v := .bool true) ?_ rfl (by simp [mapB, mapL, mapC, idx, idxF, skipIds, upto]) (by simp)) (by simp [mapC]) (by simp [mapB]) (by simp)
    refine FnOk.run (out := { val := .bool true }) (new := []) gRi_ok (tsame_run _ _ _ _) (by (simp only [allC_cons, allC_nil, and_true]; repeat' (with_reducible (first | refine And.intro ?_ ?_ | exact True.intro | assumption | omega | exact decide_eq_true (by first | assumption | omega) | exact decide_eq_false (by first | assumption | omega) | rfl | (simp; done))))) (by simp [upto]) rfl (by simp) (by simp) fun j hj => ?_
    match j, hj with
    | 0, _ => rfl
    | 1, _ => rfl
    | 2, _ => rfl
    | 3, _ => rfl
    | j + 4, hj => exact absurd hj (by simp)
  · simp at h
noncomputable abbrev gRj : Ctx := gRi.add [(23, F23)]
theorem gRj_ok : CtxU gRj := gRi_ok.add mixed noGo (by
  intro x hx
  simp only [List.mem_cons, List.not_mem_nil, or_false] at hx
  rcases hx with rfl
  exact acc23)
end Go.Proofs.Ytjkenobomlbdcaa
