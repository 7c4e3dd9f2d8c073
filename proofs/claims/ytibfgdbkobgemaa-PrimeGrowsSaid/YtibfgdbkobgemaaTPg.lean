/- Accounts of this seat's functions: lemmas, no statement of their own. No conditions. -/
import Derived.Test.YtibfgdbkobgemaaTPf
import Derived.Test.YtibfgdbkobgemaaTR
namespace Go.Proofs.Ytibfgdbkobgemaa
open Go Go.Vx
/-! ### events, two lists of events that are one -/
def eventsF : SumF := fun args B => match args, B with
  | [.ptr 0 0], [.log l] => some { val := .own 1, new := [.rows [.i64, .i64] l], C := [l.length * 16 ≤ 2 ^ 47] }
  | _, _ => none
theorem ev_acc : Acc gk 38 eventsF := by
  intro args B out h hC
  unfold eventsF at h
  split at h
  · simp only [Option.some.injEq] at h; subst h
    exact FnOk.of rfl rfl (events_acc rfl _ (hC _ (by simp)))
  · simp at h
abbrev leKeep : List Nat := [0, 1, 5]
noncomputable abbrev leBody : Code := bodyAt Try.prog 37 4
abbrev leS (i : Nat) : List (Nat × SV) := leKeep.zip [.own 0, .own 1, .int .i64 (i : Int)]
noncomputable abbrev leB (l : List (List Int)) : List Body := [.rows [.i64, .i64] l, .rows [.i64, .i64] l]
theorem le_go (i : Nat) (l : List (List Int)) : runC gk 200 41 [.br true, .br false, .br false] leBody (leS i) (leB l) leKeep [0, 1] =
    some (Ex.normal, [SV.own (0 : Nat), SV.own (1 : Nat), SV.int IntKind.i64 ((↑i : Int) + (1 : Int))], [some (Body.rows [IntKind.i64, IntKind.i64] l), some (Body.rows [IntKind.i64, IntKind.i64] l)], [Fits IntKind.i64 (↑l.length : Int), decide ((↑i : Int) < (↑l.length : Int)) = true, i < l.length, (0 : Int) ≤ (↑i : Int) ∧ (↑i : Int) < (↑(List.length l) : Int), i < l.length, (0 : Int) ≤ (↑i : Int) ∧ (↑i : Int) < (↑(List.length l) : Int), (!decide ((l.getD (↑i : Int).toNat []).getD ((0 : Nat) + (0 : Nat) + (0 : Nat)) (0 : Int) = (l.getD (↑i : Int).toNat []).getD ((0 : Nat) + (0 : Nat) + (0 : Nat)) (0 : Int))) = false, i < l.length, (0 : Int) ≤ (↑i : Int) ∧ (↑i : Int) < (↑(List.length l) : Int), i < l.length, (0 : Int) ≤ (↑i : Int) ∧ (↑i : Int) < (↑(List.length l) : Int), (!decide ((l.getD (↑i : Int).toNat []).getD ((0 : Nat) + (1 : Nat) + (0 : Nat)) (0 : Int) = (l.getD (↑i : Int).toNat []).getD ((0 : Nat) + (1 : Nat) + (0 : Nat)) (0 : Int))) = false, Fits IntKind.i64 ((↑i : Int) + (1 : Int))]) := by kernel_rfl
theorem le_end (i : Nat) (l : List (List Int)) : runC gk 200 41 [.br false] leBody (leS i) (leB l) leKeep [0, 1] =
    some (Ex.exit (0 : Nat), [SV.own (0 : Nat), SV.own (1 : Nat), SV.int IntKind.i64 (↑i : Int)], [some (Body.rows [IntKind.i64, IntKind.i64] l), some (Body.rows [IntKind.i64, IntKind.i64] l)], [Fits IntKind.i64 (↑l.length : Int), decide ((↑i : Int) < (↑l.length : Int)) = false]) := by kernel_rfl
def leG : LoopF := fun vals B => match vals, B with
  | [.own 0, .own 1, .int .i64 0], [.rows K la, .rows K2 lb] => match sameKs K [.i64, .i64], sameKs K2 [.i64, .i64] with
    | true, true => some ([], [.rows [.i64, .i64] la, .rows [.i64, .i64] lb], [la = lb, la.length ≤ 140737488355328])
    | _, _ => none
  | _, _ => none
theorem le_loop : LoopGood gk 41 (.loop leBody) leKeep 2 (.exit 0) (mkLoopN leG) := by
  refine LoopGood.mkN (by decide) fun vals B S' B' C hG hC hlen w0 O hgl => ?_
  clear hlen
  unfold leG at hG
  split at hG
  · rename_i K la K2 lb
    split at hG
    · rename_i hK hK2
      obtain rfl := sameKs_eq hK
      obtain rfl := sameKs_eq hK2
      simp only [Option.some.injEq, Prod.mk.injEq] at hG
      obtain ⟨rfl, rfl, rfl⟩ := hG
      simp only [allC_cons, allC_nil, and_true] at hC
      obtain ⟨rfl, h3⟩ := hC
      have j2 : ∀ j : Nat, j < 2 → ([0, 1] : List Nat)[j]? = some j := fun j hj => by
        match j, hj with
        | 0, _ => rfl
        | 1, _ => rfl
      have F1 : Fits .i64 (la.length : Int) := Go.Vx.fits_small h3
      refine SimC.iter (g := gk) (S := fun i => leS i) (B := fun _ => leB la) (N := la.length) (fun i hi => ?_) ?_ (by simp) 0 (by omega)
      · have F4 : Fits .i64 ((i : Int) + 1) := fits_of (by omega) (by omega)
        exact SimC.run (B' := leB la) gk_ok (by decide) (le_go i la) (by (simp only [allC_cons, allC_nil, and_true]; repeat' (with_reducible (first | refine And.intro ?_ ?_ | exact True.intro | assumption | omega | exact decide_eq_true (by first | assumption | omega) | exact decide_eq_false (by first | assumption | omega) | rfl | (simp; done))))) (by decide) j2 (by decide) (by simp) hgl
      · exact SimC.weaken (SimC.run (B' := leB la) gk_ok (by decide) (le_end la.length la) (by (simp only [allC_cons, allC_nil, and_true]; repeat' (with_reducible (first | refine And.intro ?_ ?_ | exact True.intro | assumption | omega | exact decide_eq_true (by first | assumption | omega) | exact decide_eq_false (by first | assumption | omega) | rfl | (simp; done))))) (by decide) j2 (by decide) (by simp) hgl) (fun t => .inr (by simp [mkT, tget, Tr.get_lf]))
    · simp at hG
  · simp at hG
theorem se_run (la lb : List (List Int)) : runF gk 200 [.br false, .loop 4 leKeep 2 (.exit 0) (mkLoopN leG)] 37 [.own 0, .own 1] [.rows [.i64, .i64] la, .rows [.i64, .i64] lb] [] =
    some (SV.bool true, [some (Body.rows [IntKind.i64, IntKind.i64] la), some (Body.rows [IntKind.i64, IntKind.i64] lb)], [Fits IntKind.i64 (↑lb.length : Int), Fits IntKind.i64 (↑la.length : Int), (!decide ((↑la.length : Int) = (↑lb.length : Int))) = false, LoopGood gk 41 (.loop leBody) leKeep 2 (.exit 0) (mkLoopN leG), la = lb, la.length ≤ (140737488355328 : Nat)]) := by kernel_rfl
def seF : SumF := fun args B => match args, B with
  | [.own 0, .own 1], [.rows K la, .rows K2 lb] => match sameKs K [.i64, .i64], sameKs K2 [.i64, .i64] with
    | true, true => some { val := .sbool true, C := [la = lb, la.length ≤ 140737488355328] }
    | _, _ => none
  | _, _ => none
theorem se_acc : Acc gk 37 seF := by
  intro args B out h hC
  unfold seF at h
  split at h
  · rename_i K la K2 lb
    split at h
    · rename_i hK hK2
      obtain rfl := sameKs_eq hK
      obtain rfl := sameKs_eq hK2
      simp only [Option.some.injEq] at h; subst h
      simp only [allC_cons, allC_nil, and_true] at hC
      obtain ⟨rfl, hl⟩ := hC
      have F1 : Fits .i64 (la.length : Int) := Go.Vx.fits_small hl
      have hL := le_loop
      refine FnOk.toSb (b := true) ?_ rfl
      refine FnOk.run (out := { val := .bool true }) (new := []) gk_ok (se_run _ _) (by (simp only [allC_cons, allC_nil, and_true]; repeat' (with_reducible (first | refine And.intro ?_ ?_ | exact True.intro | assumption | omega | exact decide_eq_true (by first | assumption | omega) | exact decide_eq_false (by first | assumption | omega) | rfl | (simp; done))))) (by simp [upto]) rfl (by simp) (by simp) fun j hj => ?_
      match j, hj with
      | 0, _ => rfl
      | 1, _ => rfl
      | j + 2, hj => exact absurd hj (by simp)
    · simp at h
  · simp at h
/-! ### places -/
theorem pl_run0 (n : Int) : runF gk 100 [.br false] 29 [.int .i64 n] [] [] =
    some (SV.int IntKind.i64 (n.tmod (8 : Int)), [], [decide (n.tmod ((8 : Int)) < (0 : Int)) = false]) := by kernel_rfl
theorem pl_run1 (n : Int) : runF gk 100 [.br true] 29 [.int .i64 n] [] [] =
    some (SV.int IntKind.i64 (n.tmod (8 : Int) + (8 : Int)), [], [decide (n.tmod ((8 : Int)) < (0 : Int)) = true, Fits IntKind.i64 (n.tmod (8 : Int) + (8 : Int))]) := by kernel_rfl
def plF : SumF := fun args B => match args, B with
  | [.int .i64 n], [] => some { val := .int .i64 (n % 8) }
  | _, _ => none
theorem pl_acc : Acc gk 29 plF := by
  intro args B out h _
  unfold plF at h
  split at h
  · rename_i n
    simp only [Option.some.injEq] at h; subst h
    have h1 : -8 < n.tmod 8 ∧ n.tmod 8 < 8 ∧ n.tmod 8 % 8 = n % 8 := by
      by_cases hn : n < 0
      · have e : n.tmod 8 = -((-n) % 8) := by rw [show n.tmod 8 = -((-n).tmod 8) by rw [Int.neg_tmod, Int.neg_neg], Int.tmod_eq_emod_of_nonneg (by omega)]
        rw [e]; omega
      · have e : n.tmod 8 = n % 8 := Int.tmod_eq_emod_of_nonneg (by omega)
        rw [e]; omega
    by_cases hn : n.tmod 8 < 0
    · have hr := pl_run1 n
      rw [show n.tmod 8 + 8 = n % 8 by omega] at hr
      exact FnOk.val (FnOk.pure gk_ok hr (by simp only [allC_cons, allC_nil, and_true]; exact ⟨decide_eq_true hn, fits_of (by omega) (by omega)⟩)) (fun _ _ _ _ h => h)
    · have hr := pl_run0 n
      rw [show n.tmod 8 = n % 8 by omega] at hr
      exact FnOk.val (FnOk.pure gk_ok hr (by simp only [allC_cons, allC_nil, and_true]; exact decide_eq_false (by omega))) (fun _ _ _ _ h => h)
  · simp at h
theorem or_run (n : Int) : runF gk 100 [] 33 [.int .i64 n] [] [] = some (.agg [.lit .i64 3, .int .i64 n], [], []) := by kernel_rfl
def orF2 : SumF := fun args B => match args, B with
  | [.int .i64 n], [] => some { val := .agg [.int .i64 3, .int .i64 n] }
  | _, _ => none
theorem or_acc : Acc gk 33 orF2 := by
  intro args B out h _
  unfold orF2 at h
  split at h
  · rename_i n
    simp only [Option.some.injEq] at h; subst h
    exact FnOk.val (FnOk.pure gk_ok (or_run n) (by simp [AllC])) (fun _ _ _ _ h => denV_norm h)
  · simp at h
noncomputable abbrev gl : Ctx := gk.add [(38, eventsF), (37, seF), (29, plF), (33, orF2)]
theorem gl_ok : CtxU gl := gk_ok.add mixed noGo (by
  intro x hx
  simp only [List.mem_cons, List.not_mem_nil, or_false] at hx
  rcases hx with rfl | rfl | rfl | rfl
  · exact ev_acc
  · exact se_acc
  · exact pl_acc
  · exact or_acc)
end Go.Proofs.Ytibfgdbkobgemaa
