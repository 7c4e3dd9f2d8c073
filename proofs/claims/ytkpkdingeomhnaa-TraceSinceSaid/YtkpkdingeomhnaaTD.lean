/- Accounts of this seat's functions: lemmas, no statement of their own. No conditions. -/
import Derived.Test.YtkpkdingeomhnaaTC
namespace Go.Proofs.Ytkpkdingeomhnaa
open Go Go.Vx

theorem ev_len (la lb : List (List Int)) (oa ob na nb : Nat) : runF g1 200 [.br true] 16 [.sl 0 0 oa 2 0 na false, .sl 1 0 ob 2 0 nb false] [.rows [.i64, .i64] la, .rows [.i64, .i64] lb] [] =
    some (SV.bool false, [some (Body.rows [IntKind.i64, IntKind.i64] la), some (Body.rows [IntKind.i64, IntKind.i64] lb)], [Fits IntKind.i64 (↑nb : Int), Fits IntKind.i64 (↑na : Int), (!decide ((↑na : Int) = (↑nb : Int))) = true]) := by kernel_rfl
theorem ev_yes (la lb : List (List Int)) (oa ob na nb : Nat) : runF g1 200 [.br false, .loop 4 evKeep 2 (.exit 0) (mkLoopN (evG [] evQ))] 16 [.sl 0 0 oa 2 0 na false, .sl 1 0 ob 2 0 nb false] [.rows [.i64, .i64] la, .rows [.i64, .i64] lb] [] =
    some (SV.bool true, [some (Body.rows [IntKind.i64, IntKind.i64] la), some (Body.rows [IntKind.i64, IntKind.i64] lb)], [Fits IntKind.i64 (↑nb : Int), Fits IntKind.i64 (↑na : Int), (!decide ((↑na : Int) = (↑nb : Int))) = false, LoopGood g1 26 (.loop evBody) evKeep 2 (.exit 0) (mkLoopN (evG [] evQ)), nb = na ∧ Fits IntKind.i64 (↑na : Int) ∧ oa + na ≤ la.length ∧ ob + na ≤ lb.length ∧ (∀ (r : List Int), r ∈ la → r.length = (2 : Nat)) ∧ (∀ (r : List Int), r ∈ lb → r.length = (2 : Nat)) ∧ ∀ (i : Nat), i < na → la.getD (oa + i) [] = lb.getD (ob + i) []]) := by kernel_rfl
theorem ev_not (la lb : List (List Int)) (oa ob na nb : Nat) : runF g1 200 [.br false, .loop 4 evKeep 2 .ret (mkLoopN (evG [(4, .bool false)] evR))] 16 [.sl 0 0 oa 2 0 na false, .sl 1 0 ob 2 0 nb false] [.rows [.i64, .i64] la, .rows [.i64, .i64] lb] [] =
    some (SV.bool false, [some (Body.rows [IntKind.i64, IntKind.i64] la), some (Body.rows [IntKind.i64, IntKind.i64] lb)], [Fits IntKind.i64 (↑nb : Int), Fits IntKind.i64 (↑na : Int), (!decide ((↑na : Int) = (↑nb : Int))) = false, LoopGood g1 26 (.loop evBody) evKeep 2 .ret (mkLoopN (evG [(4, .bool false)] evR)), nb = na ∧ Fits IntKind.i64 (↑na : Int) ∧ oa + na ≤ la.length ∧ ob + na ≤ lb.length ∧ (∀ (r : List Int), r ∈ la → r.length = (2 : Nat)) ∧ (∀ (r : List Int), r ∈ lb → r.length = (2 : Nat)) ∧ ∃ k, k < na ∧ (∀ (i : Nat), i < k → la.getD (oa + i) [] = lb.getD (ob + i) []) ∧ la.getD (oa + k) [] ≠ lb.getD (ob + k) []]) := by kernel_rfl
theorem ev_acc : Acc g1 16 (scanF [.i64, .i64]) := scan_acc fun la lb oa ob na nb ha hb hla hlb ra rb => by
  have fna : Fits .i64 (na : Int) := fits_small (by omega)
  have fnb : Fits .i64 (nb : Int) := fits_small (by omega)
  by_cases hn : na = nb
  · subst hn
    rcases first_not (p := fun i => la.getD (oa + i) [] = lb.getD (ob + i) []) na with hq | ⟨k, hk, hq, hne⟩
    · refine FnOk.toSb (FnOk.run (out := { val := .bool true }) g1_ok (ev_yes la lb oa ob na na) (by simp only [allC_cons, allC_nil, and_true]; exact ⟨fna, fna, by simp, ev_all, ⟨trivial, fna, ha, hb, ra, rb, hq⟩⟩) (by simp [upto]) rfl (by simp) (by simp) (fun j hj => by match j, hj with
      | 0, _ => rfl
      | 1, _ => rfl
      | j + 2, hj => exact absurd hj (by simp))) ?_
      exact (decide_eq_true ((sub_eq ha hb).2 hq)).symm
    · refine FnOk.toSb (FnOk.run (out := { val := .bool false }) g1_ok (ev_not la lb oa ob na na) (by simp only [allC_cons, allC_nil, and_true]; exact ⟨fna, fna, by simp, ev_diff, ⟨trivial, fna, ha, hb, ra, rb, k, hk, hq, hne⟩⟩) (by simp [upto]) rfl (by simp) (by simp) (fun j hj => by match j, hj with
      | 0, _ => rfl
      | 1, _ => rfl
      | j + 2, hj => exact absurd hj (by simp))) ?_
      exact (decide_eq_false fun e => hne ((sub_eq ha hb).1 e k hk)).symm
  · refine FnOk.toSb (FnOk.run (out := { val := .bool false }) g1_ok (ev_len la lb oa ob na nb) (by simp only [allC_cons, allC_nil, and_true]; exact ⟨fnb, fna, by rw [decide_eq_false (show ¬ (na : Int) = (nb : Int) by omega)]; rfl⟩) (by simp [upto]) rfl (by simp) (by simp) (fun j hj => by match j, hj with
      | 0, _ => rfl
      | 1, _ => rfl
      | j + 2, hj => exact absurd hj (by simp))) ?_
    exact (decide_eq_false fun e => hn (by have := congrArg List.length e; rwa [sub_length ha, sub_length hb] at this)).symm

theorem rn_len (la lb : List (List Int)) (oa ob na nb : Nat) : runF g1 200 [.br true] 27 [.sl 0 0 oa 3 0 na false, .sl 1 0 ob 3 0 nb false] [.rows [.i64, .i64, .i64] la, .rows [.i64, .i64, .i64] lb] [] =
    some (SV.bool false, [some (Body.rows [IntKind.i64, IntKind.i64, IntKind.i64] la), some (Body.rows [IntKind.i64, IntKind.i64, IntKind.i64] lb)], [Fits IntKind.i64 (↑nb : Int), Fits IntKind.i64 (↑na : Int), (!decide ((↑na : Int) = (↑nb : Int))) = true]) := by kernel_rfl
theorem rn_yes (la lb : List (List Int)) (oa ob na nb : Nat) : runF g1 200 [.br false, .loop 4 rnKeep 2 (.exit 0) (mkLoopN (rnG [] rnQ))] 27 [.sl 0 0 oa 3 0 na false, .sl 1 0 ob 3 0 nb false] [.rows [.i64, .i64, .i64] la, .rows [.i64, .i64, .i64] lb] [] =
    some (SV.bool true, [some (Body.rows [IntKind.i64, IntKind.i64, IntKind.i64] la), some (Body.rows [IntKind.i64, IntKind.i64, IntKind.i64] lb)], [Fits IntKind.i64 (↑nb : Int), Fits IntKind.i64 (↑na : Int), (!decide ((↑na : Int) = (↑nb : Int))) = false, LoopGood g1 26 (.loop rnBody) rnKeep 2 (.exit 0) (mkLoopN (rnG [] rnQ)), nb = na ∧ Fits IntKind.i64 (↑na : Int) ∧ oa + na ≤ la.length ∧ ob + na ≤ lb.length ∧ (∀ (r : List Int), r ∈ la → r.length = (3 : Nat)) ∧ (∀ (r : List Int), r ∈ lb → r.length = (3 : Nat)) ∧ ∀ (i : Nat), i < na → la.getD (oa + i) [] = lb.getD (ob + i) []]) := by kernel_rfl
theorem rn_not (la lb : List (List Int)) (oa ob na nb : Nat) : runF g1 200 [.br false, .loop 4 rnKeep 2 .ret (mkLoopN (rnG [(4, .bool false)] rnR))] 27 [.sl 0 0 oa 3 0 na false, .sl 1 0 ob 3 0 nb false] [.rows [.i64, .i64, .i64] la, .rows [.i64, .i64, .i64] lb] [] =
    some (SV.bool false, [some (Body.rows [IntKind.i64, IntKind.i64, IntKind.i64] la), some (Body.rows [IntKind.i64, IntKind.i64, IntKind.i64] lb)], [Fits IntKind.i64 (↑nb : Int), Fits IntKind.i64 (↑na : Int), (!decide ((↑na : Int) = (↑nb : Int))) = false, LoopGood g1 26 (.loop rnBody) rnKeep 2 .ret (mkLoopN (rnG [(4, .bool false)] rnR)), nb = na ∧ Fits IntKind.i64 (↑na : Int) ∧ oa + na ≤ la.length ∧ ob + na ≤ lb.length ∧ (∀ (r : List Int), r ∈ la → r.length = (3 : Nat)) ∧ (∀ (r : List Int), r ∈ lb → r.length = (3 : Nat)) ∧ ∃ k, k < na ∧ (∀ (i : Nat), i < k → la.getD (oa + i) [] = lb.getD (ob + i) []) ∧ la.getD (oa + k) [] ≠ lb.getD (ob + k) []]) := by kernel_rfl
theorem rn_acc : Acc g1 27 (scanF [.i64, .i64, .i64]) := scan_acc fun la lb oa ob na nb ha hb hla hlb ra rb => by
  have fna : Fits .i64 (na : Int) := fits_small (by omega)
  have fnb : Fits .i64 (nb : Int) := fits_small (by omega)
  by_cases hn : na = nb
  · subst hn
    rcases first_not (p := fun i => la.getD (oa + i) [] = lb.getD (ob + i) []) na with hq | ⟨k, hk, hq, hne⟩
    · refine FnOk.toSb (FnOk.run (out := { val := .bool true }) g1_ok (rn_yes la lb oa ob na na) (by simp only [allC_cons, allC_nil, and_true]; exact ⟨fna, fna, by simp, rn_all, ⟨trivial, fna, ha, hb, ra, rb, hq⟩⟩) (by simp [upto]) rfl (by simp) (by simp) (fun j hj => by match j, hj with
      | 0, _ => rfl
      | 1, _ => rfl
      | j + 2, hj => exact absurd hj (by simp))) ?_
      exact (decide_eq_true ((sub_eq ha hb).2 hq)).symm
    · refine FnOk.toSb (FnOk.run (out := { val := .bool false }) g1_ok (rn_not la lb oa ob na na) (by simp only [allC_cons, allC_nil, and_true]; exact ⟨fna, fna, by simp, rn_diff, ⟨trivial, fna, ha, hb, ra, rb, k, hk, hq, hne⟩⟩) (by simp [upto]) rfl (by simp) (by simp) (fun j hj => by match j, hj with
      | 0, _ => rfl
      | 1, _ => rfl
      | j + 2, hj => exact absurd hj (by simp))) ?_
      exact (decide_eq_false fun e => hne ((sub_eq ha hb).1 e k hk)).symm
  · refine FnOk.toSb (FnOk.run (out := { val := .bool false }) g1_ok (rn_len la lb oa ob na nb) (by simp only [allC_cons, allC_nil, and_true]; exact ⟨fnb, fna, by rw [decide_eq_false (show ¬ (na : Int) = (nb : Int) by omega)]; rfl⟩) (by simp [upto]) rfl (by simp) (by simp) (fun j hj => by match j, hj with
      | 0, _ => rfl
      | 1, _ => rfl
      | j + 2, hj => exact absurd hj (by simp))) ?_
    exact (decide_eq_false fun e => hn (by have := congrArg List.length e; rwa [sub_length ha, sub_length hb] at this)).symm

theorem eq_len (la lb : List (List Int)) (oa ob na nb : Nat) : runF g1 200 [.br true] 35 [.sl 0 0 oa 2 0 na false, .sl 1 0 ob 2 0 nb false] [.rows [.i64, .i64] la, .rows [.i64, .i64] lb] [] =
    some (SV.bool false, [some (Body.rows [IntKind.i64, IntKind.i64] la), some (Body.rows [IntKind.i64, IntKind.i64] lb)], [Fits IntKind.i64 (↑nb : Int), Fits IntKind.i64 (↑na : Int), (!decide ((↑na : Int) = (↑nb : Int))) = true]) := by kernel_rfl
theorem eq_yes (la lb : List (List Int)) (oa ob na nb : Nat) : runF g1 200 [.br false, .loop 4 eqKeep 2 (.exit 0) (mkLoopN (eqG [] eqQ))] 35 [.sl 0 0 oa 2 0 na false, .sl 1 0 ob 2 0 nb false] [.rows [.i64, .i64] la, .rows [.i64, .i64] lb] [] =
    some (SV.bool true, [some (Body.rows [IntKind.i64, IntKind.i64] la), some (Body.rows [IntKind.i64, IntKind.i64] lb)], [Fits IntKind.i64 (↑nb : Int), Fits IntKind.i64 (↑na : Int), (!decide ((↑na : Int) = (↑nb : Int))) = false, Fits IntKind.i64 (↑na : Int), LoopGood g1 26 (.loop eqBody) eqKeep 2 (.exit 0) (mkLoopN (eqG [] eqQ)), nb = na ∧ Fits IntKind.i64 (↑na : Int) ∧ oa + na ≤ la.length ∧ ob + na ≤ lb.length ∧ (∀ (r : List Int), r ∈ la → r.length = (2 : Nat)) ∧ (∀ (r : List Int), r ∈ lb → r.length = (2 : Nat)) ∧ ∀ (i : Nat), i < na → la.getD (oa + i) [] = lb.getD (ob + i) [], (↑na : Int) = (↑na : Int)]) := by kernel_rfl
theorem eq_not (la lb : List (List Int)) (oa ob na nb : Nat) : runF g1 200 [.br false, .loop 4 eqKeep 2 .ret (mkLoopN (eqG [(4, .bool false)] eqR))] 35 [.sl 0 0 oa 2 0 na false, .sl 1 0 ob 2 0 nb false] [.rows [.i64, .i64] la, .rows [.i64, .i64] lb] [] =
    some (SV.bool false, [some (Body.rows [IntKind.i64, IntKind.i64] la), some (Body.rows [IntKind.i64, IntKind.i64] lb)], [Fits IntKind.i64 (↑nb : Int), Fits IntKind.i64 (↑na : Int), (!decide ((↑na : Int) = (↑nb : Int))) = false, Fits IntKind.i64 (↑na : Int), LoopGood g1 26 (.loop eqBody) eqKeep 2 .ret (mkLoopN (eqG [(4, .bool false)] eqR)), nb = na ∧ Fits IntKind.i64 (↑na : Int) ∧ oa + na ≤ la.length ∧ ob + na ≤ lb.length ∧ (∀ (r : List Int), r ∈ la → r.length = (2 : Nat)) ∧ (∀ (r : List Int), r ∈ lb → r.length = (2 : Nat)) ∧ ∃ k, k < na ∧ (∀ (i : Nat), i < k → la.getD (oa + i) [] = lb.getD (ob + i) []) ∧ la.getD (oa + k) [] ≠ lb.getD (ob + k) [], (↑na : Int) = (↑na : Int)]) := by kernel_rfl
theorem eq_acc : Acc g1 35 (scanF [.i64, .i64]) := scan_acc fun la lb oa ob na nb ha hb hla hlb ra rb => by
  have fna : Fits .i64 (na : Int) := fits_small (by omega)
  have fnb : Fits .i64 (nb : Int) := fits_small (by omega)
  by_cases hn : na = nb
  · subst hn
    rcases first_not (p := fun i => la.getD (oa + i) [] = lb.getD (ob + i) []) na with hq | ⟨k, hk, hq, hne⟩
    · refine FnOk.toSb (FnOk.run (out := { val := .bool true }) g1_ok (eq_yes la lb oa ob na na) (by simp only [allC_cons, allC_nil, and_true]; exact ⟨fna, fna, by simp, fna, eq_all, ⟨trivial, fna, ha, hb, ra, rb, hq⟩⟩) (by simp [upto]) rfl (by simp) (by simp) (fun j hj => by match j, hj with
      | 0, _ => rfl
      | 1, _ => rfl
      | j + 2, hj => exact absurd hj (by simp))) ?_
      exact (decide_eq_true ((sub_eq ha hb).2 hq)).symm
    · refine FnOk.toSb (FnOk.run (out := { val := .bool false }) g1_ok (eq_not la lb oa ob na na) (by simp only [allC_cons, allC_nil, and_true]; exact ⟨fna, fna, by simp, fna, eq_diff, ⟨trivial, fna, ha, hb, ra, rb, k, hk, hq, hne⟩⟩) (by simp [upto]) rfl (by simp) (by simp) (fun j hj => by match j, hj with
      | 0, _ => rfl
      | 1, _ => rfl
      | j + 2, hj => exact absurd hj (by simp))) ?_
      exact (decide_eq_false fun e => hne ((sub_eq ha hb).1 e k hk)).symm
  · refine FnOk.toSb (FnOk.run (out := { val := .bool false }) g1_ok (eq_len la lb oa ob na nb) (by simp only [allC_cons, allC_nil, and_true]; exact ⟨fnb, fna, by rw [decide_eq_false (show ¬ (na : Int) = (nb : Int) by omega)]; rfl⟩) (by simp [upto]) rfl (by simp) (by simp) (fun j hj => by match j, hj with
      | 0, _ => rfl
      | 1, _ => rfl
      | j + 2, hj => exact absurd hj (by simp))) ?_
    exact (decide_eq_false fun e => hn (by have := congrArg List.length e; rwa [sub_length ha, sub_length hb] at this)).symm
end Go.Proofs.Ytkpkdingeomhnaa
