/- Accounts of this seat's functions: lemmas, no statement of their own. No conditions. -/
import Derived.Test.YtkpkdingeomhnaaTJ
namespace Go.Proofs.Ytkpkdingeomhnaa
open Go Go.Vx
def runsF : SumF := fun args B => match args, B with
  | [.ptr 0 0], [.log l] => some { val := .own 1, new := [.rows [.i64, .i64, .i64] (runsL l)], C := [l.length * 24 ≤ 140737488355328] }
  | _, _ => none
theorem acc21 : Acc g2 21 runsF := by
  intro args B out h hC
  unfold runsF at h
  split at h
  · simp only [Option.some.injEq] at h; subst h
    exact FnOk.of (g := gx) rfl rfl (runs_acc _ (hC _ (by simp)))
  · simp at h
def goneF : SumF := fun args B => match args, B with
  | [.ptr 0 0, .int .i64 v], [.log l] => some { val := .tuple [.own 1, .sbool true], new := [.rows [.i64, .i64] (l.drop v.toNat)], C := [l.length ≤ 2000] }
  | _, _ => none
theorem acc34 : Acc g2 34 goneF := by
  intro args B out h hC
  unfold goneF at h
  split at h
  · simp only [Option.some.injEq] at h; subst h
    exact FnOk.of (g := gx) rfl rfl (gone_acc _ _ (hC _ (by simp)))
  · simp at h
def filledF : SumF := fun args B => match args, B with
  | [.ro 3 n f], [] => some { val := .tuple [.ptr 0 0, .sbool true], new := [.log (evs (aOf f) (min n 2000))], C := [f = scriptF (aOf f), Fits .i64 (n : Int)] }
  | _, _ => none
theorem acc14 : Acc g2 14 filledF := by
  intro args B out h hC
  unfold filledF at h
  split at h
  · rename_i n f
    simp only [Option.some.injEq] at h; subst h
    simp only [allC_cons, allC_nil, and_true] at hC
    refine FnOk.run (pl := [.loop 4 fiKeep 1 (.exit 0) (mkLoopN fiG)]) (new := [0]) g2_ok (filled_run n f) ?_ (by decide) rfl (by simp) (by simp) ?_
    · simp only [allC_cons, allC_nil, and_true]
      exact ⟨fi_loop, hC.1, hC.2⟩
    · intro j hj
      match j, hj with
      | 0, _ => rfl
      | j + 1, hj => exact absurd hj (by simp)
  · simp at h
def logsF : SumF := fun args B => match args, B with
  | [.ro 3 n f], [] => some { val := .own 0, new := [.rows [.i64, .i64] (evs (aOf f) (min n 2000))], C := [f = scriptF (aOf f), Fits .i64 (n : Int)] }
  | _, _ => none
theorem acc15 : Acc g2 15 logsF := by
  intro args B out h hC
  unfold logsF at h
  split at h
  · rename_i n f
    simp only [Option.some.injEq] at h; subst h
    simp only [allC_cons, allC_nil, and_true] at hC
    refine FnOk.run (pl := [.loop 3 loKeep 0 (.exit 0) (mkLoopN loG)]) (new := [0]) g2_ok (logs_run n f) ?_ (by decide) rfl (by simp) (by simp) ?_
    · simp only [allC_cons, allC_nil, and_true]
      exact ⟨lo_loop, hC.1, hC.2⟩
    · intro j hj
      match j, hj with
      | 0, _ => rfl
      | j + 1, hj => exact absurd hj (by simp)
  · simp at h
theorem rr_run (l : List (List Int)) : runF g2 300 [.loop 3 rrKeep 1 (.exit 0) (mkLoopN rrG)] 33 [.own 0] [.rows [.i64, .i64] l] [1] =
    some (SV.own (1 : Nat), [some (Body.rows [IntKind.i64, IntKind.i64] l), some (Body.rows [IntKind.i64, IntKind.i64, IntKind.i64] (runsL l))], [LoopGood g2 67 (.loop rrBody) rrKeep 1 (.exit 0) (mkLoopN rrG), l.length * (24 : Nat) ≤ (140737488355328 : Nat)]) := by kernel_rfl
def refRunsF : SumF := fun args B => match args, B with
  | [.own 0], [.rows K l] => match sameKs K [.i64, .i64] with
    | true => some { val := .own 1, new := [.rows [.i64, .i64, .i64] (runsL l)], C := [l.length * 24 ≤ 140737488355328] }
    | false => none
  | _, _ => none
theorem acc33 : Acc g2 33 refRunsF := by
  intro args B out h hC
  unfold refRunsF at h
  split at h
  · rename_i K l
    split at h
    · rename_i hK
      obtain rfl := sameKs_eq hK
      simp only [Option.some.injEq] at h; subst h
      have hl : l.length * 24 ≤ 140737488355328 := hC _ (by simp)
      refine FnOk.run (pl := [.loop 3 rrKeep 1 (.exit 0) (mkLoopN rrG)]) (new := [1]) g2_ok (rr_run l) ?_ (by simp [upto]) rfl (by simp) (by simp) ?_
      · simp only [allC_cons, allC_nil, and_true]
        exact ⟨rr_loop, hl⟩
      · intro j hj
        match j, hj with
        | 0, _ => rfl
        | 1, _ => rfl
        | j + 2, hj => exact absurd hj (by simp)
    · simp at h
  · simp at h
noncomputable abbrev g3 : Ctx := g2.add [(14, filledF), (15, logsF), (17, sameF), (21, runsF), (33, refRunsF), (34, goneF)]
theorem g3_ok : CtxU g3 := g2_ok.add mixed noGo (by
  intro x hx
  simp only [List.mem_cons, List.not_mem_nil, or_false] at hx
  rcases hx with rfl | rfl | rfl | rfl | rfl | rfl
  · exact acc14
  · exact acc15
  · exact acc17
  · exact acc21
  · exact acc33
  · exact acc34)
/-! ### known -/
theorem known_run : runF g3 300 [.br true, .br true, .br true, .br true, .br true, .br true, .br true, .br true, .br true, .br true, .br true, .br true] 13 [] [] [] =
    some (.sbool true, [], [0 < 1099511627776, 1 < 1099511627776, 2 < 1099511627776, 3 < 1099511627776, 64 ≤ 140737488355328, 96 ≤ 140737488355328, 4 ≤ 140737488355328, true = true, 4 ≤ 140737488355328, true = true, 1 < 3, (0 : Int) ≤ 1 ∧ (1 : Int) < 3, true = true, Fits .i64 3, true = true, 3 < 4, 3 < 4, (0 : Int) ≤ 3 ∧ (3 : Int) < 4, true = true, Fits .i64 4, true = true, true = true, true = true, true = true]) := by kernel_rfl
theorem F3 : Fits .i64 3 := fits_of (by decide) (by decide)
theorem F4 : Fits .i64 4 := fits_of (by decide) (by decide)
theorem known_acc : FnOk g3 13 [] [] { val := .sbool true } :=
  FnOk.pure g3_ok known_run (by simp only [allC_cons, allC_nil, and_true]; (repeat' (first | exact F3 | exact F4 | trivial | rfl | omega | refine And.intro ?_ ?_)))
def knownF : SumF := fun args B => match args, B with
  | [], [] => some { val := .sbool true }
  | _, _ => none
theorem acc13 : Acc g3 13 knownF := by
  intro args B out h hC
  unfold knownF at h
  split at h
  · simp only [Option.some.injEq] at h; subst h
    exact known_acc
  · simp at h
/-! ### asks -/
theorem as_4 (k v : Int) (b : Bool) (l w : List (List Int)) : runF g3 300 [.br true] 12 [.ptr 0 0, stepA k v b, .own 1] [.log l, .rows [.i64, .i64] w] [] =
    some (SV.sbool (decide ((↑l.length : Int) = (↑w.length : Int))), [some (Body.log l), some (Body.rows [IntKind.i64, IntKind.i64] w)], [decide (k = (4 : Int)) = true, Fits IntKind.i64 (↑w.length : Int)]) := by kernel_rfl
theorem as_5 (k v : Int) (b : Bool) (l w : List (List Int)) : runF g3 300 [.br false, .br true] 12 [.ptr 0 0, stepA k v b, .own 1] [.log l, .rows [.i64, .i64] w] [] =
    some (SV.sbool (decide (sub l (0 : Nat) l.length = sub w (0 : Nat) w.length)), [some (Body.log l), some (Body.rows [IntKind.i64, IntKind.i64] w)], [decide (k = (4 : Int)) = false, decide (k = (5 : Int)) = true, (0 : Nat) + l.length ≤ l.length, (0 : Nat) + w.length ≤ w.length, l.length ≤ (140737488355328 : Nat), w.length ≤ (140737488355328 : Nat), l.length * (16 : Nat) ≤ (140737488355328 : Nat)]) := by kernel_rfl
theorem as_6 (k v : Int) (b : Bool) (l w : List (List Int)) : runF g3 300 [.br false, .br false, .br true] 12 [.ptr 0 0, stepA k v b, .own 1] [.log l, .rows [.i64, .i64] w] [] =
    some (SV.sbool (decide (sub (runsL l) (0 : Nat) (runsL l).length = sub (runsL w) (0 : Nat) (runsL w).length)), [some (Body.log l), some (Body.rows [IntKind.i64, IntKind.i64] w)], [decide (k = (4 : Int)) = false, decide (k = (5 : Int)) = false, decide (k = (6 : Int)) = true, (0 : Nat) + (runsL l).length ≤ (runsL l).length, (0 : Nat) + (runsL w).length ≤ (runsL w).length, (runsL l).length ≤ (140737488355328 : Nat), (runsL w).length ≤ (140737488355328 : Nat), w.length * (24 : Nat) ≤ (140737488355328 : Nat), l.length * (24 : Nat) ≤ (140737488355328 : Nat)]) := by kernel_rfl
theorem as_7 (k v : Int) (b : Bool) (l w : List (List Int)) : runF g3 300 [.br false, .br false, .br false, .br true, .br true] 12 [.ptr 0 0, stepA k v b, .own 1] [.log l, .rows [.i64, .i64] w] [] =
    some (SV.sbool (decide (sub (List.drop v.toNat l) (0 : Nat) (List.drop v.toNat l).length = sub w (min v.toNat w.length) (w.length - v.toNat))), [some (Body.log l), some (Body.rows [IntKind.i64, IntKind.i64] w)], [decide (k = (4 : Int)) = false, decide (k = (5 : Int)) = false, decide (k = (6 : Int)) = false, decide (k = (7 : Int)) = true, l.length ≤ (2000 : Nat), (0 : Nat) + (List.drop v.toNat l).length ≤ (List.drop v.toNat l).length, min v.toNat w.length + (w.length - v.toNat) ≤ w.length, (List.drop v.toNat l).length ≤ (140737488355328 : Nat), w.length ≤ (140737488355328 : Nat), w.length ≤ (140737488355328 : Nat), true = true]) := by kernel_rfl
theorem as_no (k v : Int) (b : Bool) (l w : List (List Int)) : runF g3 300 [.br false, .br false, .br false, .br false] 12 [.ptr 0 0, stepA k v b, .own 1] [.log l, .rows [.i64, .i64] w] [] =
    some (SV.bool true, [some (Body.log l), some (Body.rows [IntKind.i64, IntKind.i64] w)], [decide (k = (4 : Int)) = false, decide (k = (5 : Int)) = false, decide (k = (6 : Int)) = false, decide (k = (7 : Int)) = false]) := by kernel_rfl
theorem sub_drop (l : List (List Int)) (n : Nat) : sub l (min n l.length) (l.length - n) = l.drop n := by
  unfold sub
  by_cases h : n ≤ l.length
  · rw [Nat.min_eq_left h, List.take_of_length_le (by simp)]
  · rw [List.drop_eq_nil_of_le (show l.length ≤ n by omega), show l.length - n = 0 by omega, List.take_zero]
/-- an answer about a log of those events -/
def asksF : SumF := fun args B => match args, B with
  | [.ptr 0 0, .agg [.int .i64 k, .int .i64 v, .sbool b], .own 1], [.log l, .rows K w] => match sameKs K [.i64, .i64] with
    | true => some { val := .sbool true, C := [l = w, l.length ≤ 2000] }
    | false => none
  | _, _ => none
theorem acc12 : Acc g3 12 asksF := by
  intro args B out h hC
  unfold asksF at h
  split at h
  · rename_i k v b l K w
    split at h
    · rename_i hK
      obtain rfl := sameKs_eq hK
      simp only [Option.some.injEq] at h; subst h
      simp only [allC_cons, allC_nil, and_true] at hC
      obtain ⟨rfl, hl⟩ := hC
      have F1 := fits_small (show l.length ≤ 140737488355328 by omega)
      have hr := (runsL_ok l).len
      by_cases h4 : k = 4
      · refine FnOk.val (FnOk.run (out := { val := .sbool (decide ((l.length : Int) = (l.length : Int))) }) (new := []) g3_ok (as_4 k v b l l) ?_ (by simp [upto]) rfl (by simp) (by simp) at_B) fun _ _ _ _ d => by simpa using d
        simp only [allC_cons, allC_nil, and_true]
        exact ⟨decide_eq_true h4, F1⟩
      by_cases h5 : k = 5
      · refine FnOk.val (FnOk.run (out := { val := .sbool (decide (sub l 0 l.length = sub l 0 l.length)) }) (new := []) g3_ok (as_5 k v b l l) ?_ (by simp [upto]) rfl (by simp) (by simp) at_B) fun _ _ _ _ d => by simpa using d
        simp only [allC_cons, allC_nil, and_true]
        exact ⟨decide_eq_false h4, decide_eq_true h5, by omega, by omega, by omega, by omega, by omega⟩
      by_cases h6 : k = 6
      · refine FnOk.val (FnOk.run (out := { val := .sbool (decide (sub (runsL l) 0 (runsL l).length = sub (runsL l) 0 (runsL l).length)) }) (new := []) g3_ok (as_6 k v b l l) ?_ (by simp [upto]) rfl (by simp) (by simp) at_B) fun _ _ _ _ d => by simpa using d
        simp only [allC_cons, allC_nil, and_true]
        exact ⟨decide_eq_false h4, decide_eq_false h5, decide_eq_true h6, by omega, by omega, by omega, by omega, by omega, by omega⟩
      by_cases h7 : k = 7
      · refine FnOk.val (FnOk.run (out := { val := .sbool (decide (sub (List.drop v.toNat l) 0 (List.drop v.toNat l).length = sub l (min v.toNat l.length) (l.length - v.toNat))) }) (new := []) g3_ok (as_7 k v b l l) ?_ (by simp [upto]) rfl (by simp) (by simp) at_B) fun _ _ _ _ d => by rw [sub_all, sub_drop] at d; simpa using d
        simp only [allC_cons, allC_nil, and_true]
        have : (List.drop v.toNat l).length ≤ l.length := by simp
        exact ⟨decide_eq_false h4, decide_eq_false h5, decide_eq_false h6, decide_eq_true h7, hl, by omega, by omega, by omega, by omega, by omega⟩
      · refine FnOk.toSb (FnOk.run (out := { val := .bool true }) (new := []) g3_ok (as_no k v b l l) ?_ (by simp [upto]) rfl (by simp) (by simp) at_B) rfl
        simp only [allC_cons, allC_nil, and_true]
        exact ⟨decide_eq_false h4, decide_eq_false h5, decide_eq_false h6, decide_eq_false h7⟩
    · simp at h
  · simp at h
noncomputable abbrev g4 : Ctx := g3.add [(12, asksF), (13, knownF)]
theorem g4_ok : CtxU g4 := g3_ok.add mixed noGo (by
  intro x hx
  simp only [List.mem_cons, List.not_mem_nil, or_false] at hx
  rcases hx with rfl | rfl
  · exact acc12
  · exact acc13)
end Go.Proofs.Ytkpkdingeomhnaa

namespace Go.Proofs.Ytkpkdingeomhnaa
open Go Go.Vx
/-! ### TraceSames -/
theorem sames_run (n m : Nat) (f h : Nat → SV) : runF g4 300 [.br false, .br false, .br false, .br false, .br false, .br false, .br true, .br true, .br true, .br true, .br true] 4 [.ro 3 n f, .ro 3 m h] [] [] =
    some (SV.sbool true, [], [f = scriptF (aOf f), Fits IntKind.i64 (↑n : Int), h = scriptF (aOf h), Fits IntKind.i64 (↑m : Int), false = false, false = false, f = scriptF (aOf f), Fits IntKind.i64 (↑n : Int), h = scriptF (aOf h), Fits IntKind.i64 (↑m : Int), (0 : Nat) + (evs (aOf f) (min n (2000 : Nat))).length ≤ (evs (aOf f) (min n (2000 : Nat))).length, (0 : Nat) + (evs (aOf h) (min m (2000 : Nat))).length ≤ (evs (aOf h) (min m (2000 : Nat))).length, (evs (aOf f) (min n (2000 : Nat))).length ≤ (140737488355328 : Nat), (evs (aOf h) (min m (2000 : Nat))).length ≤ (140737488355328 : Nat), (!decide (evs (aOf f) (min n (2000 : Nat)) = evs (aOf f) (min n (2000 : Nat)))) = false, (evs (aOf f) (min n (2000 : Nat))).length ≤ (140737488355328 : Nat), (!decide (evs (aOf h) (min m (2000 : Nat)) = evs (aOf f) (min n (2000 : Nat))) == decide (sub (evs (aOf f) (min n (2000 : Nat))) (0 : Nat) (evs (aOf f) (min n (2000 : Nat))).length = sub (evs (aOf h) (min m (2000 : Nat))) (0 : Nat) (evs (aOf h) (min m (2000 : Nat))).length)) = false, (evs (aOf h) (min m (2000 : Nat))).length ≤ (140737488355328 : Nat), (evs (aOf f) (min n (2000 : Nat))).length ≤ (140737488355328 : Nat), (!decide (evs (aOf f) (min n (2000 : Nat)) = evs (aOf h) (min m (2000 : Nat))) == decide (sub (evs (aOf f) (min n (2000 : Nat))) (0 : Nat) (evs (aOf f) (min n (2000 : Nat))).length = sub (evs (aOf h) (min m (2000 : Nat))) (0 : Nat) (evs (aOf h) (min m (2000 : Nat))).length)) = false, (evs (aOf f) (min n (2000 : Nat))).length ≤ (140737488355328 : Nat), (evs (aOf h) (min m (2000 : Nat))).length ≤ (140737488355328 : Nat), false = false, decide ((↑(evs (aOf f) (min n (2000 : Nat))).length : Int) = (↑(evs (aOf f) (min n (2000 : Nat))).length : Int)) = true, Fits IntKind.i64 (↑(evs (aOf f) (min n (2000 : Nat))).length : Int), (decide (evs (aOf f) (min n (2000 : Nat)) = []) == decide ((↑(evs (aOf f) (min n (2000 : Nat))).length : Int) = (0 : Int))) = true, Fits IntKind.i64 (↑(evs (aOf f) (min n (2000 : Nat))).length : Int), (evs (aOf f) (min n (2000 : Nat))).length ≤ (140737488355328 : Nat), (0 : Nat) ≤ (140737488355328 : Nat), (decide (evs (aOf h) (min m (2000 : Nat)) = []) == decide ((↑(evs (aOf h) (min m (2000 : Nat))).length : Int) = (0 : Int))) = true, Fits IntKind.i64 (↑(evs (aOf h) (min m (2000 : Nat))).length : Int), (evs (aOf h) (min m (2000 : Nat))).length ≤ (140737488355328 : Nat), (decide (evs (aOf f) (min n (2000 : Nat)) = []) == decide ((↑(evs (aOf f) (min n (2000 : Nat))).length : Int) = (0 : Int))) = true, Fits IntKind.i64 (↑(evs (aOf f) (min n (2000 : Nat))).length : Int), (evs (aOf f) (min n (2000 : Nat))).length ≤ (140737488355328 : Nat)]) := by kernel_rfl
theorem evs_min (a : Nat → Nat → Int) (n : Nat) : (evs a (min n 2000)).length ≤ 2000 := by have := evs_len a (min n 2000); omega
theorem sames_ok (n : Nat) (a : Nat → Nat → Int) (hn : Fits .i64 (n : Int)) (m : Nat) (b : Nat → Nat → Int) (hm : Fits .i64 (m : Int)) : FnOk g4 4 [.ro 3 n (scriptF a), .ro 3 m (scriptF b)] [] { val := .sbool true } := by
  have hs := (aOf_script a).symm
  have hs2 := (aOf_script b).symm
  have hl := evs_min (aOf (scriptF a)) n
  have hl2 := evs_min (aOf (scriptF b)) m
  refine FnOk.pure g4_ok (sames_run n m (scriptF a) (scriptF b)) ?_
  simp only [sub_all]
  generalize evs (aOf (scriptF a)) (min n 2000) = la at hl ⊢
  generalize evs (aOf (scriptF b)) (min m 2000) = lb at hl2 ⊢
  have F1 := fits_small (show la.length ≤ 140737488355328 by omega)
  have F2 := fits_small (show lb.length ≤ 140737488355328 by omega)
  have c1 : (!(decide (lb = la) == decide (la = lb))) = false := by
    have : decide (lb = la) = decide (la = lb) := by simp only [eq_comm]
    rw [this]; simp
  have c2 : (!(decide (la = lb) == decide (la = lb))) = false := by simp
  have c3 : ∀ l : List (List Int), (decide (l = []) == decide ((l.length : Int) = 0)) = true := fun l => by cases l <;> simp; omega
  have c4 := c3 la
  have c5 := c3 lb
  have c6 : (!decide (la = la)) = false := by simp
  (simp only [allC_cons, allC_nil, and_true]; repeat' (with_reducible (first | refine And.intro ?_ ?_ | exact True.intro | assumption | omega | exact decide_eq_true (by first | assumption | omega) | exact decide_eq_false (by first | assumption | omega) | rfl | (simp; done))))
end Go.Proofs.Ytkpkdingeomhnaa

namespace Go.Proofs.Ytkpkdingeomhnaa
open Go Go.Vx
/-! ### TraceRuns -/
abbrev riKeep : List Nat := [0, 3, 5, 6, 7, 8, 9]
noncomputable abbrev riBody : Code := bodyAt Try.prog 6 13
abbrev riS (n : Nat) (f : Nat → SV) (s r j : Nat) : List (Nat × SV) := riKeep.zip [.ro 3 n f, .ptr 0 0, .own 1, .own 2, .int .i64 (((s + j : Nat) : Int)), .int .i64 (r : Int), .int .i64 (j : Int)]
theorem ri_go (n : Nat) (f : Nat → SV) (s r j : Nat) (w l o : List (List Int)) : runC g4 300 98 [.br true, .br false, .br false] riBody (riS n f s r j) [.log w, .rows [.i64, .i64] l, .rows [.i64, .i64, .i64] o] riKeep [0, 1, 2] =
    some (Ex.normal, [SV.ro (3 : Nat) n f, SV.ptr (0 : Nat) (0 : Nat), SV.own (1 : Nat), SV.own (2 : Nat), SV.int IntKind.i64 ((↑(s + j) : Int) + (1 : Int)), SV.int IntKind.i64 (↑r : Int), SV.int IntKind.i64 ((↑j : Int) + (1 : Int))], [some (Body.log w), some (Body.rows [IntKind.i64, IntKind.i64] l), some (Body.rows [IntKind.i64, IntKind.i64, IntKind.i64] o)], [r < o.length, (0 : Int) ≤ (↑r : Int) ∧ (↑r : Int) < (↑(ecount (Body.rows [IntKind.i64, IntKind.i64, IntKind.i64] o)) : Int), decide ((↑j : Int) < (o.getD (↑r : Int).toNat []).getD ((0 : Nat) + (2 : Nat) + (0 : Nat)) (0 : Int)) = true, r < o.length, r < o.length, (0 : Int) ≤ (↑r : Int) ∧ (↑r : Int) < (↑(ecount (Body.rows [IntKind.i64, IntKind.i64, IntKind.i64] o)) : Int), s + j < l.length, s + j < l.length, (0 : Int) ≤ (↑(s + j) : Int) ∧ (↑(s + j) : Int) < (↑(ecount (Body.rows [IntKind.i64, IntKind.i64] l)) : Int), decide ((↑l.length : Int) ≤ (↑(s + j) : Int)) = false, Fits IntKind.i64 (↑l.length : Int), (!decide ([(l.getD (↑(s + j) : Int).toNat []).getD ((0 : Nat) + (0 : Nat)) (0 : Int), (l.getD (↑(s + j) : Int).toNat []).getD ((0 : Nat) + ((0 : Nat) + (1 : Nat))) (0 : Int)] = [(o.getD (↑r : Int).toNat []).getD ((0 : Nat) + (0 : Nat) + (0 : Nat)) (0 : Int), (o.getD (↑r : Int).toNat []).getD ((0 : Nat) + (0 : Nat) + ((0 : Nat) + (1 : Nat))) (0 : Int)])) = false, Fits IntKind.i64 ((↑(s + j) : Int) + (1 : Int)), Fits IntKind.i64 ((↑j : Int) + (1 : Int))]) := by kernel_rfl
theorem ri_end (n : Nat) (f : Nat → SV) (s r j : Nat) (w l o : List (List Int)) : runC g4 300 98 [.br false] riBody (riS n f s r j) [.log w, .rows [.i64, .i64] l, .rows [.i64, .i64, .i64] o] riKeep [0, 1, 2] =
    some (Ex.exit (2 : Nat), [SV.ro (3 : Nat) n f, SV.ptr (0 : Nat) (0 : Nat), SV.own (1 : Nat), SV.own (2 : Nat), SV.int IntKind.i64 (↑(s + j) : Int), SV.int IntKind.i64 (↑r : Int), SV.int IntKind.i64 (↑j : Int)], [some (Body.log w), some (Body.rows [IntKind.i64, IntKind.i64] l), some (Body.rows [IntKind.i64, IntKind.i64, IntKind.i64] o)], [r < o.length, (0 : Int) ≤ (↑r : Int) ∧ (↑r : Int) < (↑(ecount (Body.rows [IntKind.i64, IntKind.i64, IntKind.i64] o)) : Int), decide ((↑j : Int) < (o.getD (↑r : Int).toNat []).getD ((0 : Nat) + (2 : Nat) + (0 : Nat)) (0 : Int)) = false]) := by kernel_rfl
def cnt (o : List (List Int)) (r : Nat) : Nat := ((o.getD r []).getD 2 0).toNat
def riC (l o : List (List Int)) (s r : Int) : Prop := ∃ S R : Nat, s = S ∧ r = R ∧ R < o.length ∧ l.length ≤ 2000 ∧ o.length ≤ 2000 ∧ S + cnt o R ≤ l.length ∧ 0 ≤ (o.getD R []).getD 2 0 ∧ ∀ j, j < cnt o R → [(l.getD (S + j) []).getD 0 0, (l.getD (S + j) []).getD 1 0] = [(o.getD R []).getD 0 0, (o.getD R []).getD 1 0]
def riG : LoopF := fun vals B => match vals, B with
  | [.ro 3 n f, .ptr 0 0, .own 1, .own 2, .int .i64 s, .int .i64 r, .int .i64 0], [.log w, .rows K l, .rows K2 o] => match sameKs K [.i64, .i64], sameKs K2 [.i64, .i64, .i64] with
    | true, true => some ([(0, .ro 3 n f), (3, .ptr 0 0), (5, .own 1), (6, .own 2), (7, .int .i64 (((s.toNat + cnt o r.toNat : Nat) : Int))), (8, .int .i64 r)], [.log w, .rows [.i64, .i64] l, .rows [.i64, .i64, .i64] o], [riC l o s r])
    | _, _ => none
  | _, _ => none
theorem i3 : ∀ j : Nat, j < 3 → ([0, 1, 2] : List Nat)[j]? = some j := fun j hj => by
  match j, hj with
  | 0, _ => rfl
  | 1, _ => rfl
  | 2, _ => rfl
theorem ri_loop : LoopGood g4 98 (.loop riBody) riKeep 3 (.exit 2) (mkLoopN riG) := by
  refine LoopGood.mkN (by decide) fun vals B S' B' C hG hC hlen w0 O hgl => ?_
  clear hlen
  unfold riG at hG
  split at hG
  · rename_i n f s r w K l K2 o
    split at hG
    · rename_i hK hK2
      obtain rfl := sameKs_eq hK
      obtain rfl := sameKs_eq hK2
      simp only [Option.some.injEq, Prod.mk.injEq] at hG
      obtain ⟨rfl, rfl, rfl⟩ := hG
      simp only [allC_cons, allC_nil, and_true] at hC
      obtain ⟨S, R, rfl, rfl, h1, h2, h3, h4, h5, h6⟩ := hC
      simp only [Int.toNat_natCast]
      have F1 := fits_small (show l.length ≤ 140737488355328 by omega)
      have ecl : ecount (Body.rows [IntKind.i64, IntKind.i64] l) = l.length := rfl
      have eco : ecount (Body.rows [IntKind.i64, IntKind.i64, IntKind.i64] o) = o.length := rfl
      have ec : ((cnt o R : Nat) : Int) = (o.getD R []).getD 2 0 := by unfold cnt; omega
      refine SimC.iter (g := g4) (S := riS n f S R) (B := fun _ => [.log w, .rows [.i64, .i64] l, .rows [.i64, .i64, .i64] o]) (N := cnt o R) (fun j hj => ?_) ?_ (by simp) 0 (by omega)
      · refine SimC.run (B' := [.log w, .rows [.i64, .i64] l, .rows [.i64, .i64, .i64] o]) g4_ok (by decide) (ri_go n f S R j w l o) ?_ (by decide) i3 (by decide) (by simp) hgl
        have hj' := h6 j hj
        have F2 : Fits .i64 ((j : Int) + 1) := fits_of (by omega) (by omega)
        have F3 : Fits .i64 (((S + j : Nat) : Int) + 1) := fits_of (by omega) (by omega)
        have c1 : decide ((j : Int) < (o.getD R []).getD 2 0) = true := decide_eq_true (by omega)
        have c2 : (!decide ([(l.getD (S + j) []).getD 0 0, (l.getD (S + j) []).getD 1 0] = [(o.getD R []).getD 0 0, (o.getD R []).getD 1 0])) = false := by rw [hj']; simp
        simp only [ecl, eco, Int.toNat_natCast, Nat.zero_add, Nat.add_zero]
        (simp only [allC_cons, allC_nil, and_true]; repeat' (with_reducible (first | refine And.intro ?_ ?_ | exact True.intro | assumption | omega | exact decide_eq_true (by first | assumption | omega) | exact decide_eq_false (by first | assumption | omega) | rfl | (simp; done))))
      · refine SimC.weaken (SimC.run (B' := [.log w, .rows [.i64, .i64] l, .rows [.i64, .i64, .i64] o]) g4_ok (by decide) (ri_end n f S R (cnt o R) w l o) ?_ (by decide) i3 (by decide) (by simp) hgl) (sub_mkT (by simp; exact ⟨rfl, rfl, rfl, rfl, rfl, rfl⟩))
        have c1 : decide (((cnt o R : Nat) : Int) < (o.getD R []).getD 2 0) = false := decide_eq_false (by omega)
        simp only [ecl, eco, Int.toNat_natCast, Nat.zero_add, Nat.add_zero]
        (simp only [allC_cons, allC_nil, and_true]; repeat' (with_reducible (first | refine And.intro ?_ ?_ | exact True.intro | assumption | omega | exact decide_eq_true (by first | assumption | omega) | exact decide_eq_false (by first | assumption | omega) | rfl | (simp; done))))
    · simp at hG
  · simp at hG
abbrev roKeep : List Nat := [0, 3, 5, 6, 7, 8]
noncomputable abbrev roBody : Code := bodyAt Try.prog 6 8
def off (o : List (List Int)) : Nat → Nat
  | 0 => 0
  | r + 1 => off o r + cnt o r
abbrev roS (a : Nat → Nat → Int) (n s r : Nat) : List (Nat × SV) := roKeep.zip [.ro 3 n (scriptF a), .ptr 0 0, .own 1, .own 2, .int .i64 (s : Int), .int .i64 (r : Int)]
theorem ro_first (a : Nat → Nat → Int) (n s r : Nat) (l o w : List (List Int)) : runC g4 300 98 [.br true, .br false, .br false, .loop 13 riKeep 3 (.exit 2) (mkLoopN riG)] roBody (roS a n s r) [.log w, .rows [.i64, .i64] l, .rows [.i64, .i64, .i64] o] roKeep [0, 1, 2] =
    some (Ex.normal, [SV.ro (3 : Nat) n (scriptF a), SV.ptr (0 : Nat) (0 : Nat), SV.own (1 : Nat), SV.own (2 : Nat), SV.int IntKind.i64 (↑(s + cnt o r) : Int), SV.int IntKind.i64 ((↑r : Int) + (1 : Int))], [some (Body.log w), some (Body.rows [IntKind.i64, IntKind.i64] l), some (Body.rows [IntKind.i64, IntKind.i64, IntKind.i64] o)], [Fits IntKind.i64 (↑o.length : Int), decide ((↑r : Int) < (↑o.length : Int)) = true, decide ((0 : Int) < (↑r : Int)) = false, decide ((o.getD (↑r : Int).toNat []).getD ((0 : Nat) + (2 : Nat) + (0 : Nat)) (0 : Int) < (1 : Int)) = false, r < o.length, (0 : Int) ≤ (↑r : Int) ∧ (↑r : Int) < (↑(ecount (Body.rows [IntKind.i64, IntKind.i64, IntKind.i64] o)) : Int), LoopGood g4 98 (.loop riBody) riKeep 3 (.exit 2) (mkLoopN riG), riC l o (↑s : Int) (↑r : Int), Fits IntKind.i64 ((↑r : Int) + (1 : Int))]) := by kernel_rfl
theorem ro_next (a : Nat → Nat → Int) (n s r : Nat) (l o w : List (List Int)) : runC g4 300 98 [.br true, .br false, .br true, .br false, .loop 13 riKeep 3 (.exit 2) (mkLoopN riG)] roBody (roS a n s r) [.log w, .rows [.i64, .i64] l, .rows [.i64, .i64, .i64] o] roKeep [0, 1, 2] =
    some (Ex.normal, [SV.ro (3 : Nat) n (scriptF a), SV.ptr (0 : Nat) (0 : Nat), SV.own (1 : Nat), SV.own (2 : Nat), SV.int IntKind.i64 (↑(s + cnt o r) : Int), SV.int IntKind.i64 ((↑r : Int) + (1 : Int))], [some (Body.log w), some (Body.rows [IntKind.i64, IntKind.i64] l), some (Body.rows [IntKind.i64, IntKind.i64, IntKind.i64] o)], [Fits IntKind.i64 (↑o.length : Int), decide ((↑r : Int) < (↑o.length : Int)) = true, ((↑r : Int) - (1 : Int)).toNat < o.length, ((↑r : Int) - (1 : Int)).toNat < o.length, (0 : Int) ≤ (↑r : Int) - (1 : Int) ∧ (↑r : Int) - (1 : Int) < (↑(ecount (Body.rows [IntKind.i64, IntKind.i64, IntKind.i64] o)) : Int), Fits IntKind.i64 ((↑r : Int) - (1 : Int)), r < o.length, r < o.length, (0 : Int) ≤ (↑r : Int) ∧ (↑r : Int) < (↑(ecount (Body.rows [IntKind.i64, IntKind.i64, IntKind.i64] o)) : Int), decide ((0 : Int) < (↑r : Int)) = true, decide ((o.getD (↑r : Int).toNat []).getD ((0 : Nat) + (2 : Nat) + (0 : Nat)) (0 : Int) < (1 : Int)) = false, r < o.length, (0 : Int) ≤ (↑r : Int) ∧ (↑r : Int) < (↑(ecount (Body.rows [IntKind.i64, IntKind.i64, IntKind.i64] o)) : Int), decide ([(o.getD (↑r : Int).toNat []).getD ((0 : Nat) + (0 : Nat) + (0 : Nat)) (0 : Int), (o.getD (↑r : Int).toNat []).getD ((0 : Nat) + (0 : Nat) + ((0 : Nat) + (1 : Nat))) (0 : Int)] = [(o.getD ((↑r : Int) - (1 : Int)).toNat []).getD ((0 : Nat) + (0 : Nat) + (0 : Nat)) (0 : Int), (o.getD ((↑r : Int) - (1 : Int)).toNat []).getD ((0 : Nat) + (0 : Nat) + ((0 : Nat) + (1 : Nat))) (0 : Int)]) = false, LoopGood g4 98 (.loop riBody) riKeep 3 (.exit 2) (mkLoopN riG), riC l o (↑s : Int) (↑r : Int), Fits IntKind.i64 ((↑r : Int) + (1 : Int))]) := by kernel_rfl
theorem ro_end (a : Nat → Nat → Int) (n s r : Nat) (l o w : List (List Int)) : runC g4 300 98 [.br false] roBody (roS a n s r) [.log w, .rows [.i64, .i64] l, .rows [.i64, .i64, .i64] o] roKeep [0, 1, 2] =
    some (Ex.exit (0 : Nat), [SV.ro (3 : Nat) n (scriptF a), SV.ptr (0 : Nat) (0 : Nat), SV.own (1 : Nat), SV.own (2 : Nat), SV.int IntKind.i64 (↑s : Int), SV.int IntKind.i64 (↑r : Int)], [some (Body.log w), some (Body.rows [IntKind.i64, IntKind.i64] l), some (Body.rows [IntKind.i64, IntKind.i64, IntKind.i64] o)], [Fits IntKind.i64 (↑o.length : Int), decide ((↑r : Int) < (↑o.length : Int)) = false]) := by kernel_rfl
def roC (l o : List (List Int)) : Prop := o = runsL l ∧ l.length ≤ 2000 ∧ (∀ r ∈ l, r.length = 2)
def roG : LoopF := fun vals B => match vals, B with
  | [.ro 3 n f, .ptr 0 0, .own 1, .own 2, .int .i64 0, .int .i64 0], [.log w, .rows K l, .rows K2 o] => match sameKs K [.i64, .i64], sameKs K2 [.i64, .i64, .i64] with
    | true, true => some ([(0, .ro 3 n f), (3, .ptr 0 0), (5, .own 1), (7, .int .i64 (l.length : Int))], [.log w, .rows [.i64, .i64] l, .rows [.i64, .i64, .i64] o], [f = scriptF (aOf f), roC l o])
    | _, _ => none
  | _, _ => none
/-- runs fit events -/
structure RunsFit (l o : List (List Int)) (n : Nat) : Prop where
  ok : RunsOk o n
  tot : off o o.length = n
  ev : ∀ r, r < o.length → ∀ j, j < cnt o r → [(l.getD (off o r + j) []).getD 0 0, (l.getD (off o r + j) []).getD 1 0] = [(o.getD r []).getD 0 0, (o.getD r []).getD 1 0]
  dif : ∀ r, r + 1 < o.length → [(o.getD (r + 1) []).getD 0 0, (o.getD (r + 1) []).getD 1 0] ≠ [(o.getD r []).getD 0 0, (o.getD r []).getD 1 0]
theorem off_congr {o o' : List (List Int)} : ∀ r, (∀ i, i < r → cnt o i = cnt o' i) → off o r = off o' r
  | 0, _ => rfl
  | r + 1, h => by simp only [off, off_congr r (fun i hi => h i (by omega)), h r (by omega)]
theorem getD_mem {o : List (List Int)} {r : Nat} (h : r < o.length) : o.getD r [] ∈ o := by
  rw [List.getD_eq_getElem?_getD, List.getElem?_eq_getElem h]; exact List.getElem_mem _
theorem getD_app_l {o : List (List Int)} {x : List Int} {r : Nat} (h : r < o.length) : (o ++ [x]).getD r [] = o.getD r [] := by
  rw [List.getD_eq_getElem?_getD, List.getElem?_append_left h, ← List.getD_eq_getElem?_getD]
theorem getD_app_r {o : List (List Int)} {x : List Int} : (o ++ [x]).getD o.length [] = x := by
  rw [List.getD_eq_getElem?_getD]; simp
theorem getD_set_ne {o : List (List Int)} {x : List Int} {r k : Nat} (h : k ≠ r) : (o.set k x).getD r [] = o.getD r [] := by
  rw [List.getD_eq_getElem?_getD, List.getElem?_set_ne h, ← List.getD_eq_getElem?_getD]
theorem getD_set_eq {o : List (List Int)} {x : List Int} {k : Nat} (h : k < o.length) : (o.set k x).getD k [] = x := by
  rw [List.getD_eq_getElem?_getD]; simp [h]
theorem runStep_fit {l o : List (List Int)} {n : Nat} (h : RunsFit l o n) : RunsFit l (runStep o ((l.getD n []).getD 0 0) ((l.getD n []).getD 1 0)) (n + 1) := by
  have hok := runStep_ok h.ok ((l.getD n []).getD 0 0) ((l.getD n []).getD 1 0)
  generalize ha : (l.getD n []).getD 0 0 = a at hok ⊢
  generalize hb : (l.getD n []).getD 1 0 = b at hok ⊢
  unfold runStep at hok ⊢
  split
  · rename_i hc
    rw [if_pos hc] at hok
    obtain ⟨h0, hk0, hk1⟩ := hc
    have e0 : o.getD (o.length - 1) [] = lastR o := rfl
    have h3 := h.ok.row _ (getD_mem (show o.length - 1 < o.length by omega))
    have hp := h.ok.pos _ (getD_mem (show o.length - 1 < o.length by omega))
    rw [e0] at h3 hp
    generalize hL : (lastR o).set 2 ((lastR o).getD 2 0 + 1) = L at hok ⊢
    have l0 : L.getD 0 0 = a := by rw [← hL, ← hk0, List.getD_eq_getElem?_getD, List.getElem?_set_ne (by decide), ← List.getD_eq_getElem?_getD]
    have l1 : L.getD 1 0 = b := by rw [← hL, ← hk1, List.getD_eq_getElem?_getD, List.getElem?_set_ne (by decide), ← List.getD_eq_getElem?_getD]
    have l2 : L.getD 2 0 = (lastR o).getD 2 0 + 1 := by rw [← hL, List.getD_eq_getElem?_getD, List.getElem?_set_self (by omega)]; rfl
    have get : ∀ r, r < o.length - 1 → (o.set (o.length - 1) L).getD r [] = o.getD r [] := fun r hr => getD_set_ne (by omega)
    have getl : (o.set (o.length - 1) L).getD (o.length - 1) [] = L := getD_set_eq (by omega)
    have cn : ∀ r, r < o.length - 1 → cnt (o.set (o.length - 1) L) r = cnt o r := fun r hr => by unfold cnt; rw [get r hr]
    have cl : cnt (o.set (o.length - 1) L) (o.length - 1) = cnt o (o.length - 1) + 1 := by unfold cnt; rw [getl, l2, e0]; omega
    have of : ∀ r, r ≤ o.length - 1 → off (o.set (o.length - 1) L) r = off o r := fun r hr => off_congr r fun i hi => cn i (by omega)
    have el : o.length - 1 + 1 = o.length := by omega
    have t1 : off o o.length = off o (o.length - 1) + cnt o (o.length - 1) := by rw [← el]; rfl
    have tot := h.tot
    refine ⟨hok, ?_, ?_, ?_⟩
    · rw [List.length_set]
      have : off (o.set (o.length - 1) L) o.length = off (o.set (o.length - 1) L) (o.length - 1) + cnt (o.set (o.length - 1) L) (o.length - 1) := by
        conv => lhs; rw [← el]
        rfl
      rw [this, of _ (Nat.le_refl _), cl]; omega
    · intro r hr j hj
      rw [List.length_set] at hr
      rw [of r (by omega)]
      by_cases e : r = o.length - 1
      · subst e
        rw [getl, l0, l1]
        rw [cl] at hj
        by_cases ej : j < cnt o (o.length - 1)
        · rw [h.ev _ (by omega) j ej, e0, hk0, hk1]
        · have : off o (o.length - 1) + j = n := by omega
          rw [this, ha, hb]
      · rw [get r (by omega)]
        rw [cn r (by omega)] at hj
        exact h.ev r (by omega) j hj
    · intro r hr
      rw [List.length_set] at hr
      rw [get r (by omega)]
      have hd := h.dif r hr
      by_cases e : r + 1 = o.length - 1
      · rw [e, getl, l0, l1]
        rw [e, e0, hk0, hk1] at hd
        exact hd
      · rw [get (r + 1) (by omega)]
        exact hd
  · rename_i hc
    rw [if_neg hc] at hok
    have cn : ∀ r, r < o.length → cnt (o ++ [[a, b, 1]]) r = cnt o r := fun r hr => by unfold cnt; rw [getD_app_l hr]
    have cl : cnt (o ++ [[a, b, 1]]) o.length = 1 := by unfold cnt; rw [getD_app_r]; rfl
    have of : ∀ r, r ≤ o.length → off (o ++ [[a, b, 1]]) r = off o r := fun r hr => off_congr r fun i hi => cn i (by omega)
    have tot := h.tot
    have hlen : (o ++ [[a, b, 1]]).length = o.length + 1 := by simp
    refine ⟨hok, ?_, ?_, ?_⟩
    · rw [hlen]
      show off (o ++ [[a, b, 1]]) o.length + cnt (o ++ [[a, b, 1]]) o.length = n + 1
      rw [of _ (Nat.le_refl _), cl, tot]
    · intro r hr j hj
      rw [hlen] at hr
      rw [of r (by omega)]
      by_cases e : r = o.length
      · subst e
        rw [cl] at hj
        have : off o o.length + j = n := by omega
        rw [this, ha, hb, getD_app_r]; rfl
      · rw [getD_app_l (by omega)]
        rw [cn r (by omega)] at hj
        exact h.ev r (by omega) j hj
    · intro r hr
      rw [hlen] at hr
      by_cases e : r + 1 = o.length
      · rw [e, getD_app_r, getD_app_l (by omega)]
        have e1 : r = o.length - 1 := by omega
        intro q
        simp at q
        apply hc
        refine ⟨by omega, ?_, ?_⟩
        · unfold lastR; rw [← e1]; simpa using q.1.symm
        · unfold lastR; rw [← e1]; simpa using q.2.symm
      · rw [getD_app_l (by omega), getD_app_l (by omega)]
        exact h.dif r (by omega)
theorem runsN_fit (l : List (List Int)) : ∀ n, RunsFit l (runsN l n) n
  | 0 => ⟨⟨by simp [runsN], by simp [runsN], by simp [runsN]⟩, rfl, fun r hr => absurd hr (by simp [runsN]), fun r hr => absurd hr (by simp [runsN])⟩
  | n + 1 => runStep_fit (runsN_fit l n)
theorem off_mono {o : List (List Int)} : ∀ {a b : Nat}, a ≤ b → off o a ≤ off o b
  | a, 0, h => by have : a = 0 := by omega
                  subst this; exact Nat.le_refl _
  | a, b + 1, h => by
    by_cases e : a = b + 1
    · subst e; exact Nat.le_refl _
    · exact Nat.le_trans (off_mono (show a ≤ b by omega)) (Nat.le_add_right _ _)
theorem ro_loop : LoopGood g4 98 (.loop roBody) roKeep 3 (.exit 0) (mkLoopN roG) := by
  refine LoopGood.mkN (by decide) fun vals B S' B' C hG hC hlen w0 O hgl => ?_
  clear hlen
  unfold roG at hG
  split at hG
  · rename_i n f w K l K2 o
    split at hG
    · rename_i hK hK2
      obtain rfl := sameKs_eq hK
      obtain rfl := sameKs_eq hK2
      simp only [Option.some.injEq, Prod.mk.injEq] at hG
      obtain ⟨rfl, rfl, rfl⟩ := hG
      simp only [allC_cons, allC_nil, and_true] at hC
      obtain ⟨hf, ho, hl, hr2⟩ := hC
      generalize aOf f = a at hf ⊢
      subst hf
      have fit : RunsFit l o l.length := by subst ho; exact runsN_fit l l.length
      have ol := fit.ok.len
      have hloop := ri_loop
      have F1 := fits_small (show o.length ≤ 140737488355328 by omega)
      have eco : ecount (Body.rows [IntKind.i64, IntKind.i64, IntKind.i64] o) = o.length := rfl
      refine SimC.iter (g := g4) (S := fun r => roS a n (off o r) r) (B := fun _ => [.log w, .rows [.i64, .i64] l, .rows [.i64, .i64, .i64] o]) (N := o.length) (fun r hr => ?_) ?_ (by simp) 0 (by omega)
      · have hp := fit.ok.pos _ (getD_mem hr)
        have F2 : Fits .i64 ((r : Int) + 1) := fits_of (by omega) (by omega)
        have hm : off o (r + 1) ≤ off o o.length := off_mono (by omega)
        have hm' : off o (r + 1) = off o r + cnt o r := rfl
        have tot := fit.tot
        have hC : riC l o (off o r : Nat) (r : Nat) := ⟨off o r, r, rfl, rfl, hr, hl, by omega, by omega, by omega, fit.ev r hr⟩
        have c1 : decide ((o.getD r []).getD 2 0 < 1) = false := decide_eq_false (by omega)
        by_cases h0 : r = 0
        · refine SimC.run (B' := [.log w, .rows [.i64, .i64] l, .rows [.i64, .i64, .i64] o]) g4_ok (by decide) (ro_first a n (off o r) r l o w) ?_ (by decide) i3 (by decide) (by simp) hgl
          simp only [eco, Int.toNat_natCast, Nat.zero_add, Nat.add_zero]
          (simp only [allC_cons, allC_nil, and_true]; repeat' (with_reducible (first | refine And.intro ?_ ?_ | exact True.intro | assumption | omega | exact decide_eq_true (by first | assumption | omega) | exact decide_eq_false (by first | assumption | omega) | rfl | (simp; done))))
        · have e1 : ((r : Int) - 1).toNat = r - 1 := by omega
          have hd := fit.dif (r - 1) (by omega)
          rw [show r - 1 + 1 = r by omega] at hd
          have c2 := decide_eq_false hd
          have F3 : Fits .i64 ((r : Int) - 1) := fits_of (by omega) (by omega)
          refine SimC.run (B' := [.log w, .rows [.i64, .i64] l, .rows [.i64, .i64, .i64] o]) g4_ok (by decide) (ro_next a n (off o r) r l o w) ?_ (by decide) i3 (by decide) (by simp) hgl
          simp only [eco, Int.toNat_natCast, Nat.zero_add, Nat.add_zero, e1]
          (simp only [allC_cons, allC_nil, and_true]; repeat' (with_reducible (first | refine And.intro ?_ ?_ | exact True.intro | assumption | omega | exact decide_eq_true (by first | assumption | omega) | exact decide_eq_false (by first | assumption | omega) | rfl | (simp; done))))
      · have tot := fit.tot
        refine SimC.weaken (SimC.run (B' := [.log w, .rows [.i64, .i64] l, .rows [.i64, .i64, .i64] o]) g4_ok (by decide) (ro_end a n (off o o.length) o.length l o w) ?_ (by decide) i3 (by decide) (by simp) hgl) (sub_mkT (by simp; rw [tot]; exact ⟨rfl, rfl, rfl, rfl⟩))
        (simp only [allC_cons, allC_nil, and_true]; repeat' (with_reducible (first | refine And.intro ?_ ?_ | exact True.intro | assumption | omega | exact decide_eq_true (by first | assumption | omega) | exact decide_eq_false (by first | assumption | omega) | rfl | (simp; done))))
    · simp at hG
  · simp at hG
theorem evs_row (a : Nat → Nat → Int) : ∀ n, ∀ r ∈ evs a n, r.length = 2
  | 0, r, h => by simp [evs] at h
  | n + 1, r, h => by
    simp only [evs, List.mem_append] at h
    rcases h with h | h
    · exact evs_row a n r h
    · unfold evAt stepL at h
      split at h
      · simp at h; subst h; rfl
      · simp at h
theorem runs_run (n : Nat) (f : Nat → SV) : runF g4 300 [.br false, .loop 8 roKeep 3 (.exit 0) (mkLoopN roG), .br true, .br true, .br true] 6 [.ro 3 n f] [] [] =
    some (SV.sbool true, [], [f = scriptF (aOf f), Fits IntKind.i64 (↑n : Int), false = false, (evs (aOf f) (min n (2000 : Nat))).length * (16 : Nat) ≤ (140737488355328 : Nat), (evs (aOf f) (min n (2000 : Nat))).length * (24 : Nat) ≤ (140737488355328 : Nat), LoopGood g4 98 (.loop roBody) roKeep 3 (.exit 0) (mkLoopN roG), f = scriptF (aOf f), roC (evs (aOf f) (min n (2000 : Nat))) (runsL (evs (aOf f) (min n (2000 : Nat)))), decide ((↑(evs (aOf f) (min n (2000 : Nat))).length : Int) = (↑(evs (aOf f) (min n (2000 : Nat))).length : Int)) = true, Fits IntKind.i64 (↑(evs (aOf f) (min n (2000 : Nat))).length : Int), f = scriptF (aOf f), Fits IntKind.i64 (↑n : Int), decide ((↑(evs (aOf f) (min n (2000 : Nat))).length : Int) = (↑(evs (aOf f) (min n (2000 : Nat))).length : Int)) = true, decide ((↑(evs (aOf f) (min n (2000 : Nat))).length : Int) = (↑(evs (aOf f) (min n (2000 : Nat))).length : Int)) = true, Fits IntKind.i64 (↑(evs (aOf f) (min n (2000 : Nat))).length : Int)]) := by kernel_rfl
theorem runsLaw_ok (n : Nat) (a : Nat → Nat → Int) (hn : Fits .i64 (n : Int)) : FnOk g4 6 [.ro 3 n (scriptF a)] [] { val := .sbool true } := by
  have hs := (aOf_script a).symm
  have hl := evs_min (aOf (scriptF a)) n
  have hw := ro_loop
  have F1 := fits_small (show (evs (aOf (scriptF a)) (min n 2000)).length ≤ 140737488355328 by omega)
  have hc : roC (evs (aOf (scriptF a)) (min n 2000)) (runsL (evs (aOf (scriptF a)) (min n 2000))) := ⟨rfl, hl, evs_row _ _⟩
  refine FnOk.pure g4_ok (runs_run n (scriptF a)) ?_
  (simp only [allC_cons, allC_nil, and_true]; repeat' (with_reducible (first | refine And.intro ?_ ?_ | exact True.intro | assumption | omega | exact decide_eq_true (by first | assumption | omega) | exact decide_eq_false (by first | assumption | omega) | rfl | (simp; done))))
end Go.Proofs.Ytkpkdingeomhnaa
