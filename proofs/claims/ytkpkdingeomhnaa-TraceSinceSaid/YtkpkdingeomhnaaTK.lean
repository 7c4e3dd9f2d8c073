/- Accounts of this seat's functions: lemmas, no statement of their own. No conditions. -/
import Derived.Test.YtkpkdingeomhnaaTJ
namespace Go.Proofs.Ytkpkdingeomhnaa
open Go Go.Vx
def runsF : SumF := fun args B => match args, B with
  | [.ptr 0 0], [.log l] => some { val := .own 1, new := [.rows [.i64, .i64, .i64] (runsL l)], C := [l.length * 24 ≤ 140737488355328] }
  | _, _ => none
theorem acc21 : Acc g2 21 runsF := by
  intro args B out h hC
  unfold runsF at h
  split at h
  · simp only [Option.some.injEq] at h; subst h
    exact FnOk.of (g := gx) rfl rfl (runs_acc _ (hC _ (by simp)))
  · simp at h
def goneF : SumF := fun args B => match args, B with
  | [.ptr 0 0, .int .i64 v], [.log l] => some { val := .tuple [.own 1, .sbool true], new := [.rows [.i64, .i64] (l.drop v.toNat)], C := [l.length ≤ 2000] }
  | _, _ => none
theorem acc34 : Acc g2 34 goneF := by
  intro args B out h hC
  unfold goneF at h
  split at h
  · simp only [Option.some.injEq] at h; subst h
    exact FnOk.of (g := gx) rfl rfl (gone_acc _ _ (hC _ (by simp)))
  · simp at h
def filledF : SumF := fun args B => match args, B with
  | [.ro 3 n f], [] => some { val := .tuple [.ptr 0 0, .sbool true], new := [.log (evs (aOf f) (min n 2000))], C := [f = scriptF (aOf f), Fits .i64 (n : Int)] }
  | _, _ => none
theorem acc14 : Acc g2 14 filledF := by
  intro args B out h hC
  unfold filledF at h
  split at h
  · rename_i n f
    simp only [Option.some.injEq] at h; subst h
    simp only [allC_cons, allC_nil, and_true] at hC
    refine FnOk.run (pl := [.loop 4 fiKeep 1 (.exit 0) (mkLoopN fiG)]) (new := [0]) g2_ok (filled_run n f) ?_ (by decide) rfl (by simp) (by simp) ?_
    · simp only [allC_cons, allC_nil, and_true]
      exact ⟨fi_loop, hC.1, hC.2⟩
    · intro j hj
      match j, hj with
      | 0, _ => rfl
      | j + 1, hj => exact absurd hj (by simp)
  · simp at h
def logsF : SumF := fun args B => match args, B with
  | [.ro 3 n f], [] => some { val := .own 0, new := [.rows [.i64, .i64] (evs (aOf f) (min n 2000))], C := [f = scriptF (aOf f), Fits .i64 (n : Int)] }
  | _, _ => none
theorem acc15 : Acc g2 15 logsF := by
  intro args B out h hC
  unfold logsF at h
  split at h
  · rename_i n f
    simp only [Option.some.injEq] at h; subst h
    simp only [allC_cons, allC_nil, and_true] at hC
    refine FnOk.run (pl := [.loop 3 loKeep 0 (.exit 0) (mkLoopN loG)]) (new := [0]) g2_ok (logs_run n f) ?_ (by decide) rfl (by simp) (by simp) ?_
    · simp only [allC_cons, allC_nil, and_true]
      exact ⟨lo_loop, hC.1, hC.2⟩
    · intro j hj
      match j, hj with
      | 0, _ => rfl
      | j + 1, hj => exact absurd hj (by simp)
  · simp at h
theorem rr_run (l : List (List Int)) : runF g2 300 [.loop 3 rrKeep 1 (.exit 0) (mkLoopN rrG)] 33 [.own 0] [.rows [.i64, .i64] l] [1] =
    some (SV.own (1 : Nat), [some (Body.rows [IntKind.i64, IntKind.i64] l), some (Body.rows [IntKind.i64, IntKind.i64, IntKind.i64] (runsL l))], [LoopGood g2 67 (.loop rrBody) rrKeep 1 (.exit 0) (mkLoopN rrG), l.length * (24 : Nat) ≤ (140737488355328 : Nat)]) := by kernel_rfl
def refRunsF : SumF := fun args B => match args, B with
  | [.own 0], [.rows K l] => match sameKs K [.i64, .i64] with
    | true => some { val := .own 1, new := [.rows [.i64, .i64, .i64] (runsL l)], C := [l.length * 24 ≤ 140737488355328] }
    | false => none
  | _, _ => none
theorem acc33 : Acc g2 33 refRunsF := by
  intro args B out h hC
  unfold refRunsF at h
  split at h
  · rename_i K l
    split at h
    · rename_i hK
      obtain rfl := sameKs_eq hK
      simp only [Option.some.injEq] at h; subst h
      have hl : l.length * 24 ≤ 140737488355328 := hC _ (by simp)
      refine FnOk.run (pl := [.loop 3 rrKeep 1 (.exit 0) (mkLoopN rrG)]) (new := [1]) g2_ok (rr_run l) ?_ (by simp [upto]) rfl (by simp) (by simp) ?_
      · simp only [allC_cons, allC_nil, and_true]
        exact ⟨rr_loop, hl⟩
      · intro j hj
        match j, hj with
        | 0, _ => rfl
        | 1, _ => rfl
        | j + 2, hj => exact absurd hj (by simp)
    · simp at h
  · simp at h
noncomputable abbrev g3 : Ctx := g2.add [(14, filledF), (15, logsF), (17, sameF), (21, runsF), (33, refRunsF), (34, goneF)]
theorem g3_ok : CtxU g3 := g2_ok.add mixed noGo (by
  intro x hx
  simp only [List.mem_cons, List.not_mem_nil, or_false] at hx
  rcases hx with rfl | rfl | rfl | rfl | rfl | rfl
  · exact acc14
  · exact acc15
  · exact acc17
  · exact acc21
  · exact acc33
  · exact acc34)
/-! ### known -/
theorem known_run : runF g3 300 [.br true, .br true, .br true, .br true, .br true, .br true, .br true, .br true, .br true, .br true, .br true, .br true] 13 [] [] [] =
    some (.sbool true, [], [0 < 1099511627776, 1 < 1099511627776, 2 < 1099511627776, 3 < 1099511627776, 64 ≤ 140737488355328, 96 ≤ 140737488355328, 4 ≤ 140737488355328, true = true, 4 ≤ 140737488355328, true = true, 1 < 3, (0 : Int) ≤ 1 ∧ (1 : Int) < 3, true = true, Fits .i64 3, true = true, 3 < 4, 3 < 4, (0 : Int) ≤ 3 ∧ (3 : Int) < 4, true = true, Fits .i64 4, true = true, true = true, true = true, true = true]) := by kernel_rfl
theorem F3 : Fits .i64 3 := fits_of (by decide) (by decide)
theorem F4 : Fits .i64 4 := fits_of (by decide) (by decide)
theorem known_acc : FnOk g3 13 [] [] { val := .sbool true } :=
  FnOk.pure g3_ok known_run (by simp only [allC_cons, allC_nil, and_true]; (repeat' (first | exact F3 | exact F4 | trivial | rfl | omega | refine And.intro ?_ ?_)))
def knownF : SumF := fun args B => match args, B with
  | [], [] => some { val := .sbool true }
  | _, _ => none
theorem acc13 : Acc g3 13 knownF := by
  intro args B out h hC
  unfold knownF at h
  split at h
  · simp only [Option.some.injEq] at h; subst h
    exact known_acc
  · simp at h
/-! ### asks -/
theorem as_4 (k v : Int) (b : Bool) (l w : List (List Int)) : runF g3 300 [.br true] 12 [.ptr 0 0, stepA k v b, .own 1] [.log l, .rows [.i64, .i64] w] [] =
    some (SV.sbool (decide ((↑l.length : Int) = (↑w.length : Int))), [some (Body.log l), some (Body.rows [IntKind.i64, IntKind.i64] w)], [decide (k = (4 : Int)) = true, Fits IntKind.i64 (↑w.length : Int)]) := by kernel_rfl
theorem as_5 (k v : Int) (b : Bool) (l w : List (List Int)) : runF g3 300 [.br false, .br true] 12 [.ptr 0 0, stepA k v b, .own 1] [.log l, .rows [.i64, .i64] w] [] =
    some (SV.sbool (decide (sub l (0 : Nat) l.length = sub w (0 : Nat) w.length)), [some (Body.log l), some (Body.rows [IntKind.i64, IntKind.i64] w)], [decide (k = (4 : Int)) = false, decide (k = (5 : Int)) = true, (0 : Nat) + l.length ≤ l.length, (0 : Nat) + w.length ≤ w.length, l.length ≤ (140737488355328 : Nat), w.length ≤ (140737488355328 : Nat), l.length * (16 : Nat) ≤ (140737488355328 : Nat)]) := by kernel_rfl
theorem as_6 (k v : Int) (b : Bool) (l w : List (List Int)) : runF g3 300 [.br false, .br false, .br true] 12 [.ptr 0 0, stepA k v b, .own 1] [.log l, .rows [.i64, .i64] w] [] =
    some (SV.sbool (decide (sub (runsL l) (0 : Nat) (runsL l).length = sub (runsL w) (0 : Nat) (runsL w).length)), [some (Body.log l), some (Body.rows [IntKind.i64, IntKind.i64] w)], [decide (k = (4 : Int)) = false, decide (k = (5 : Int)) = false, decide (k = (6 : Int)) = true, (0 : Nat) + (runsL l).length ≤ (runsL l).length, (0 : Nat) + (runsL w).length ≤ (runsL w).length, (runsL l).length ≤ (140737488355328 : Nat), (runsL w).length ≤ (140737488355328 : Nat), w.length * (24 : Nat) ≤ (140737488355328 : Nat), l.length * (24 : Nat) ≤ (140737488355328 : Nat)]) := by kernel_rfl
theorem as_7 (k v : Int) (b : Bool) (l w : List (List Int)) : runF g3 300 [.br false, .br false, .br false, .br true, .br true] 12 [.ptr 0 0, stepA k v b, .own 1] [.log l, .rows [.i64, .i64] w] [] =
    some (SV.sbool (decide (sub (List.drop v.toNat l) (0 : Nat) (List.drop v.toNat l).length = sub w (min v.toNat w.length) (w.length - v.toNat))), [some (Body.log l), some (Body.rows [IntKind.i64, IntKind.i64] w)], [decide (k = (4 : Int)) = false, decide (k = (5 : Int)) = false, decide (k = (6 : Int)) = false, decide (k = (7 : Int)) = true, l.length ≤ (2000 : Nat), (0 : Nat) + (List.drop v.toNat l).length ≤ (List.drop v.toNat l).length, min v.toNat w.length + (w.length - v.toNat) ≤ w.length, (List.drop v.toNat l).length ≤ (140737488355328 : Nat), w.length ≤ (140737488355328 : Nat), w.length ≤ (140737488355328 : Nat), true = true]) := by kernel_rfl
theorem as_no (k v : Int) (b : Bool) (l w : List (List Int)) : runF g3 300 [.br false, .br false, .br false, .br false] 12 [.ptr 0 0, stepA k v b, .own 1] [.log l, .rows [.i64, .i64] w] [] =
    some (SV.bool true, [some (Body.log l), some (Body.rows [IntKind.i64, IntKind.i64] w)], [decide (k = (4 : Int)) = false, decide (k = (5 : Int)) = false, decide (k = (6 : Int)) = false, decide (k = (7 : Int)) = false]) := by kernel_rfl
theorem sub_drop (l : List (List Int)) (n : Nat) : sub l (min n l.length) (l.length - n) = l.drop n := by
  unfold sub
  by_cases h : n ≤ l.length
  · rw [Nat.min_eq_left h, List.take_of_length_le (by simp)]
  · rw [List.drop_eq_nil_of_le (show l.length ≤ n by omega), show l.length - n = 0 by omega, List.take_zero]
/-- an answer about a log of those events -/
def asksF : SumF := fun args B => match args, B with
  | [.ptr 0 0, .agg [.int .i64 k, .int .i64 v, .sbool b], .own 1], [.log l, .rows K w] => match sameKs K [.i64, .i64] with
    | true => some { val := .sbool true, C := [l = w, l.length ≤ 2000] }
    | false => none
  | _, _ => none
theorem acc12 : Acc g3 12 asksF := by
  intro args B out h hC
  unfold asksF at h
  split at h
  · rename_i k v b l K w
    split at h
    · rename_i hK
      obtain rfl := sameKs_eq hK
      simp only [Option.some.injEq] at h; subst h
      simp only [allC_cons, allC_nil, and_true] at hC
      obtain ⟨rfl, hl⟩ := hC
      have F1 := fits_small (show l.length ≤ 140737488355328 by omega)
      have hr := (runsL_ok l).len
      by_cases h4 : k = 4
      · refine FnOk.val (FnOk.run (out := { val := .sbool (decide ((l.length : Int) = (l.length : Int))) }) (new := []) g3_ok (as_4 k v b l l) ?_ (by simp [upto]) rfl (by simp) (by simp) at_B) fun _ _ _ _ d => by simpa using d
        simp only [allC_cons, allC_nil, and_true]
        exact ⟨decide_eq_true h4, F1⟩
      by_cases h5 : k = 5
      · refine FnOk.val (FnOk.run (out := { val := .sbool (decide (sub l 0 l.length = sub l 0 l.length)) }) (new := []) g3_ok (as_5 k v b l l) ?_ (by simp [upto]) rfl (by simp) (by simp) at_B) fun _ _ _ _ d => by simpa using d
        simp only [allC_cons, allC_nil, and_true]
        exact ⟨decide_eq_false h4, decide_eq_true h5, by omega, by omega, by omega, by omega, by omega⟩
      by_cases h6 : k = 6
      · refine FnOk.val (FnOk.run (out := { val := .sbool (decide (sub (runsL l) 0 (runsL l).length = sub (runsL l) 0 (runsL l).length)) }) (new := []) g3_ok (as_6 k v b l l) ?_ (by simp [upto]) rfl (by simp) (by simp) at_B) fun _ _ _ _ d => by simpa using d
        simp only [allC_cons, allC_nil, and_true]
        exact ⟨decide_eq_false h4, decide_eq_false h5, decide_eq_true h6, by omega, by omega, by omega, by omega, by omega, by omega⟩
      by_cases h7 : k = 7
      · refine FnOk.val (FnOk.run (out := { val := .sbool (decide (sub (List.drop v.toNat l) 0 (List.drop v.toNat l).length = sub l (min v.toNat l.length) (l.length - v.toNat))) }) (new := []) g3_ok (as_7 k v b l l) ?_ (by simp [upto]) rfl (by simp) (by simp) at_B) fun _ _ _ _ d => by rw [sub_all, sub_drop] at d; simpa using d
        simp only [allC_cons, allC_nil, and_true]
        have : (List.drop v.toNat l).length ≤ l.length := by simp
        exact ⟨decide_eq_false h4, decide_eq_false h5, decide_eq_false h6, decide_eq_true h7, hl, by omega, by omega, by omega, by omega, by omega⟩
      · refine FnOk.toSb (FnOk.run (out := { val := .bool true }) (new := []) g3_ok (as_no k v b l l) ?_ (by simp [upto]) rfl (by simp) (by simp) at_B) rfl
        simp only [allC_cons, allC_nil, and_true]
        exact ⟨decide_eq_false h4, decide_eq_false h5, decide_eq_false h6, decide_eq_false h7⟩
    · simp at h
  · simp at h
noncomputable abbrev g4 : Ctx := g3.add [(12, asksF), (13, knownF)]
theorem g4_ok : CtxU g4 := g3_ok.add mixed noGo (by
  intro x hx
  simp only [List.mem_cons, List.not_mem_nil, or_false] at hx
  rcases hx with rfl | rfl
  · exact acc12
  · exact acc13)
end Go.Proofs.Ytkpkdingeomhnaa
