/- Accounts of this seat's functions: lemmas, no statement of their own. No conditions. -/
import Derived.Test.YtkpkdingeomhnaaTF
namespace Go.Proofs.Ytkpkdingeomhnaa
open Go Go.Vx
theorem filled_run (n : Nat) (f : Nat → SV) : runF g2 200 [.loop 4 fiKeep 1 (.exit 0) (mkLoopN fiG)] 14 [.ro 3 n f] [] [0] =
    some (SV.tuple [SV.ptr (0 : Nat) (0 : Nat), SV.sbool true], [some (Body.log (evs (aOf f) (min n (2000 : Nat))))], [LoopGood g2 31 (.loop fiBody) fiKeep 1 (.exit 0) (mkLoopN fiG), f = scriptF (aOf f), Fits IntKind.i64 (↑n : Int)]) := by kernel_rfl
theorem logs_run (n : Nat) (f : Nat → SV) : runF g2 200 [.loop 3 loKeep 0 (.exit 0) (mkLoopN loG)] 15 [.ro 3 n f] [] [0] =
    some (SV.own (0 : Nat), [some (Body.rows [IntKind.i64, IntKind.i64] (evs (aOf f) (min n (2000 : Nat))))], [LoopGood g2 31 (.loop loBody) loKeep 0 (.exit 0) (mkLoopN loG), f = scriptF (aOf f), Fits IntKind.i64 (↑n : Int)]) := by kernel_rfl
/-! ### the document's Runs -/
abbrev rrKeep : List Nat := [0, 3, 4]
noncomputable abbrev rrBody : Code := bodyAt Try.prog 33 3
abbrev rrS (i : Nat) : List (Nat × SV) := rrKeep.zip [.own 0, .own 1, .int .i64 (i : Int)]
theorem rr_0 (i : Nat) (l o : List (List Int)) : runC g2 300 67 [.br true, .br false] rrBody (rrS i) [.rows [.i64, .i64] l, .rows [.i64, .i64, .i64] o] rrKeep [0, 3] =
    some (Ex.normal, [SV.own (0 : Nat), SV.own (1 : Nat), SV.int IntKind.i64 ((↑i : Int) + (1 : Int))], [some (Body.rows [IntKind.i64, IntKind.i64] l), some (Body.rows [IntKind.i64, IntKind.i64, IntKind.i64] (o ++ [[(l.getD i []).getD (0 : Nat) (0 : Int), (l.getD i []).getD (1 : Nat) (0 : Int), (1 : Int)]]))], [Fits IntKind.i64 (↑l.length : Int), decide ((↑i : Int) < (↑l.length : Int)) = true, Fits IntKind.i64 (↑o.length : Int), decide ((0 : Int) < (↑o.length : Int)) = false, (o ++ [[(l.getD i []).getD (0 : Nat) (0 : Int), (l.getD i []).getD (1 : Nat) (0 : Int), (1 : Int)]]).length * (24 : Nat) ≤ (140737488355328 : Nat), i < l.length, i < l.length, (0 : Int) ≤ (↑i : Int) ∧ (↑i : Int) < (↑(ecount (Body.rows [IntKind.i64, IntKind.i64] l)) : Int), Fits IntKind.i64 ((↑i : Int) + (1 : Int))]) := by kernel_rfl
theorem rr_1 (i : Nat) (l o : List (List Int)) : runC g2 300 67 [.br true, .br true, .br false] rrBody (rrS i) [.rows [.i64, .i64] l, .rows [.i64, .i64, .i64] o] rrKeep [0, 3] =
    some (Ex.normal, [SV.own (0 : Nat), SV.own (1 : Nat), SV.int IntKind.i64 ((↑i : Int) + (1 : Int))], [some (Body.rows [IntKind.i64, IntKind.i64] l), some (Body.rows [IntKind.i64, IntKind.i64, IntKind.i64] (o ++ [[(l.getD i []).getD (0 : Nat) (0 : Int), (l.getD i []).getD (1 : Nat) (0 : Int), (1 : Int)]]))], [Fits IntKind.i64 (↑l.length : Int), decide ((↑i : Int) < (↑l.length : Int)) = true, Fits IntKind.i64 (↑o.length : Int), decide ((o.getD ((↑o.length : Int) - (1 : Int)).toNat []).getD ((0 : Nat) + (0 : Nat) + (0 : Nat) + (0 : Nat)) (0 : Int) = (l.getD (↑i : Int).toNat []).getD ((0 : Nat) + (0 : Nat) + (0 : Nat)) (0 : Int)) = false, i < l.length, (0 : Int) ≤ (↑i : Int) ∧ (↑i : Int) < (↑(ecount (Body.rows [IntKind.i64, IntKind.i64] l)) : Int), ((↑o.length : Int) - (1 : Int)).toNat < o.length, (0 : Int) ≤ (↑o.length : Int) - (1 : Int) ∧ (↑o.length : Int) - (1 : Int) < (↑(ecount (Body.rows [IntKind.i64, IntKind.i64, IntKind.i64] o)) : Int), Fits IntKind.i64 ((↑o.length : Int) - (1 : Int)), decide ((0 : Int) < (↑o.length : Int)) = true, (o ++ [[(l.getD i []).getD (0 : Nat) (0 : Int), (l.getD i []).getD (1 : Nat) (0 : Int), (1 : Int)]]).length * (24 : Nat) ≤ (140737488355328 : Nat), i < l.length, i < l.length, (0 : Int) ≤ (↑i : Int) ∧ (↑i : Int) < (↑(ecount (Body.rows [IntKind.i64, IntKind.i64] l)) : Int), Fits IntKind.i64 ((↑i : Int) + (1 : Int))]) := by kernel_rfl
theorem rr_2 (i : Nat) (l o : List (List Int)) : runC g2 300 67 [.br true, .br true, .br true, .br false] rrBody (rrS i) [.rows [.i64, .i64] l, .rows [.i64, .i64, .i64] o] rrKeep [0, 3] =
    some (Ex.normal, [SV.own (0 : Nat), SV.own (1 : Nat), SV.int IntKind.i64 ((↑i : Int) + (1 : Int))], [some (Body.rows [IntKind.i64, IntKind.i64] l), some (Body.rows [IntKind.i64, IntKind.i64, IntKind.i64] (o ++ [[(l.getD i []).getD (0 : Nat) (0 : Int), (l.getD i []).getD (1 : Nat) (0 : Int), (1 : Int)]]))], [Fits IntKind.i64 (↑l.length : Int), decide ((↑i : Int) < (↑l.length : Int)) = true, Fits IntKind.i64 (↑o.length : Int), i < l.length, (0 : Int) ≤ (↑i : Int) ∧ (↑i : Int) < (↑(ecount (Body.rows [IntKind.i64, IntKind.i64] l)) : Int), ((↑o.length : Int) - (1 : Int)).toNat < o.length, (0 : Int) ≤ (↑o.length : Int) - (1 : Int) ∧ (↑o.length : Int) - (1 : Int) < (↑(ecount (Body.rows [IntKind.i64, IntKind.i64, IntKind.i64] o)) : Int), Fits IntKind.i64 ((↑o.length : Int) - (1 : Int)), decide ((o.getD ((↑o.length : Int) - (1 : Int)).toNat []).getD ((0 : Nat) + (0 : Nat) + (0 : Nat) + (0 : Nat)) (0 : Int) = (l.getD (↑i : Int).toNat []).getD ((0 : Nat) + (0 : Nat) + (0 : Nat)) (0 : Int)) = true, i < l.length, (0 : Int) ≤ (↑i : Int) ∧ (↑i : Int) < (↑(ecount (Body.rows [IntKind.i64, IntKind.i64] l)) : Int), ((↑o.length : Int) - (1 : Int)).toNat < o.length, (0 : Int) ≤ (↑o.length : Int) - (1 : Int) ∧ (↑o.length : Int) - (1 : Int) < (↑(ecount (Body.rows [IntKind.i64, IntKind.i64, IntKind.i64] o)) : Int), Fits IntKind.i64 ((↑o.length : Int) - (1 : Int)), decide ((0 : Int) < (↑o.length : Int)) = true, decide ((o.getD ((↑o.length : Int) - (1 : Int)).toNat []).getD ((0 : Nat) + (0 : Nat) + (1 : Nat) + (0 : Nat)) (0 : Int) = (l.getD (↑i : Int).toNat []).getD ((0 : Nat) + (1 : Nat) + (0 : Nat)) (0 : Int)) = false, (o ++ [[(l.getD i []).getD (0 : Nat) (0 : Int), (l.getD i []).getD (1 : Nat) (0 : Int), (1 : Int)]]).length * (24 : Nat) ≤ (140737488355328 : Nat), i < l.length, i < l.length, (0 : Int) ≤ (↑i : Int) ∧ (↑i : Int) < (↑(ecount (Body.rows [IntKind.i64, IntKind.i64] l)) : Int), Fits IntKind.i64 ((↑i : Int) + (1 : Int))]) := by kernel_rfl
theorem rr_3 (i : Nat) (l o : List (List Int)) : runC g2 300 67 [.br true, .br true, .br true, .br true] rrBody (rrS i) [.rows [.i64, .i64] l, .rows [.i64, .i64, .i64] o] rrKeep [0, 1] =
    some (Ex.normal, [SV.own (0 : Nat), SV.own (1 : Nat), SV.int IntKind.i64 ((↑i : Int) + (1 : Int))], [some (Body.rows [IntKind.i64, IntKind.i64] l), some (Body.rows [IntKind.i64, IntKind.i64, IntKind.i64] (o.set ((↑o.length : Int) - (1 : Int)).toNat ((o.getD ((↑o.length : Int) - (1 : Int)).toNat []).set (2 : Nat) ((o.getD ((↑o.length : Int) - (1 : Int)).toNat []).getD (2 : Nat) (0 : Int) + (1 : Int)))))], [Fits IntKind.i64 (↑l.length : Int), decide ((↑i : Int) < (↑l.length : Int)) = true, Fits IntKind.i64 (↑o.length : Int), i < l.length, (0 : Int) ≤ (↑i : Int) ∧ (↑i : Int) < (↑(ecount (Body.rows [IntKind.i64, IntKind.i64] l)) : Int), ((↑o.length : Int) - (1 : Int)).toNat < o.length, (0 : Int) ≤ (↑o.length : Int) - (1 : Int) ∧ (↑o.length : Int) - (1 : Int) < (↑(ecount (Body.rows [IntKind.i64, IntKind.i64, IntKind.i64] o)) : Int), Fits IntKind.i64 ((↑o.length : Int) - (1 : Int)), decide ((o.getD ((↑o.length : Int) - (1 : Int)).toNat []).getD ((0 : Nat) + (0 : Nat) + (0 : Nat) + (0 : Nat)) (0 : Int) = (l.getD (↑i : Int).toNat []).getD ((0 : Nat) + (0 : Nat) + (0 : Nat)) (0 : Int)) = true, i < l.length, (0 : Int) ≤ (↑i : Int) ∧ (↑i : Int) < (↑(ecount (Body.rows [IntKind.i64, IntKind.i64] l)) : Int), ((↑o.length : Int) - (1 : Int)).toNat < o.length, (0 : Int) ≤ (↑o.length : Int) - (1 : Int) ∧ (↑o.length : Int) - (1 : Int) < (↑(ecount (Body.rows [IntKind.i64, IntKind.i64, IntKind.i64] o)) : Int), Fits IntKind.i64 ((↑o.length : Int) - (1 : Int)), decide ((0 : Int) < (↑o.length : Int)) = true, decide ((o.getD ((↑o.length : Int) - (1 : Int)).toNat []).getD ((0 : Nat) + (0 : Nat) + (1 : Nat) + (0 : Nat)) (0 : Int) = (l.getD (↑i : Int).toNat []).getD ((0 : Nat) + (1 : Nat) + (0 : Nat)) (0 : Int)) = true, ((↑o.length : Int) - (1 : Int)).toNat < o.length, (0 : Int) ≤ (↑o.length : Int) - (1 : Int) ∧ (↑o.length : Int) - (1 : Int) < (↑(ecount (Body.rows [IntKind.i64, IntKind.i64, IntKind.i64] o)) : Int), Fits IntKind.i64 ((o.getD ((↑o.length : Int) - (1 : Int)).toNat []).getD (2 : Nat) (0 : Int) + (1 : Int)), ((↑o.length : Int) - (1 : Int)).toNat < o.length, (0 : Int) ≤ (↑o.length : Int) - (1 : Int) ∧ (↑o.length : Int) - (1 : Int) < (↑(ecount (Body.rows [IntKind.i64, IntKind.i64, IntKind.i64] o)) : Int), Fits IntKind.i64 ((↑o.length : Int) - (1 : Int)), Fits IntKind.i64 ((↑o.length : Int) - (1 : Int)), Fits IntKind.i64 ((↑i : Int) + (1 : Int))]) := by kernel_rfl
theorem rr_end (i : Nat) (l o : List (List Int)) : runC g2 300 67 [.br false] rrBody (rrS i) [.rows [.i64, .i64] l, .rows [.i64, .i64, .i64] o] rrKeep [0, 1] =
    some (Ex.exit (0 : Nat), [SV.own (0 : Nat), SV.own (1 : Nat), SV.int IntKind.i64 (↑i : Int)], [some (Body.rows [IntKind.i64, IntKind.i64] l), some (Body.rows [IntKind.i64, IntKind.i64, IntKind.i64] o)], [Fits IntKind.i64 (↑l.length : Int), decide ((↑i : Int) < (↑l.length : Int)) = false]) := by kernel_rfl
def lastR (o : List (List Int)) : List Int := o.getD (o.length - 1) []
def runStep (o : List (List Int)) (a b : Int) : List (List Int) :=
  if 0 < o.length ∧ (lastR o).getD 0 0 = a ∧ (lastR o).getD 1 0 = b then o.set (o.length - 1) ((lastR o).set 2 ((lastR o).getD 2 0 + 1)) else o ++ [[a, b, 1]]
def runsN (l : List (List Int)) : Nat → List (List Int)
  | 0 => []
  | n + 1 => runStep (runsN l n) ((l.getD n []).getD 0 0) ((l.getD n []).getD 1 0)
def runsL (l : List (List Int)) : List (List Int) := runsN l l.length
/-- rows of runs of n events -/
structure RunsOk (o : List (List Int)) (n : Nat) : Prop where
  len : o.length ≤ n
  row : ∀ r ∈ o, r.length = 3
  pos : ∀ r ∈ o, 1 ≤ r.getD 2 0 ∧ r.getD 2 0 ≤ n
theorem runStep_ok {o : List (List Int)} {n : Nat} (h : RunsOk o n) (a b : Int) : RunsOk (runStep o a b) (n + 1) := by
  unfold runStep
  split
  · rename_i hc
    have hm : lastR o ∈ o := by
      unfold lastR
      rw [List.getD_eq_getElem?_getD, List.getElem?_eq_getElem (show o.length - 1 < o.length by omega)]
      exact List.getElem_mem _
    have h3 := h.row _ hm
    have hp := h.pos _ hm
    have key : ∀ r ∈ o.set (o.length - 1) ((lastR o).set 2 ((lastR o).getD 2 0 + 1)), r.length = 3 ∧ 1 ≤ r.getD 2 0 ∧ r.getD 2 0 ≤ (n + 1 : Nat) := fun r hr => by
      rcases List.mem_or_eq_of_mem_set hr with hr | hr
      · have := h.pos r hr
        exact ⟨h.row r hr, this.1, by omega⟩
      · subst hr
        have e : ((lastR o).set 2 ((lastR o).getD 2 0 + 1)).getD 2 0 = (lastR o).getD 2 0 + 1 := by
          rw [List.getD_eq_getElem?_getD, List.getElem?_set_self (by omega)]; rfl
        rw [e]
        exact ⟨by simp [h3], by omega, by omega⟩
    exact ⟨by have := h.len; simp; omega, fun r hr => (key r hr).1, fun r hr => (key r hr).2⟩
  · refine ⟨by have := h.len; simp; omega, fun r hr => ?_, fun r hr => ?_⟩
    · rcases List.mem_append.1 hr with hr | hr
      · exact h.row r hr
      · simp at hr; subst hr; rfl
    · rcases List.mem_append.1 hr with hr | hr
      · have := h.pos r hr; exact ⟨this.1, by omega⟩
      · simp at hr; subst hr; simp; omega
theorem runsN_ok (l : List (List Int)) : ∀ n, RunsOk (runsN l n) n
  | 0 => ⟨by simp [runsN], by simp [runsN], by simp [runsN]⟩
  | n + 1 => runStep_ok (runsN_ok l n) _ _

def rrG : LoopF := fun vals B => match vals, B with
  | [.own 0, .raw (.slice none 0 0), .int .i64 0], [.rows K l] => match sameKs K [.i64, .i64] with
    | true => some ([(3, .own 1)], [.rows [.i64, .i64] l, .rows [.i64, .i64, .i64] (runsL l)], [l.length * 24 ≤ 140737488355328])
    | false => none
  | _, _ => none
theorem two_id : ∀ j : Nat, j < 1 → ∀ k, ([0, k] : List Nat)[j]? = some j := fun j hj k => by
  match j, hj with
  | 0, _ => rfl
set_option maxHeartbeats 1000000 in
theorem rr_step {l : List (List Int)} (hl : l.length * 24 ≤ 140737488355328) {i : Nat} (hi : i < l.length) {w0 : World} {O : Vx.Own} (hG : GlobOk g2 w0 O) :
    SimC g2.P w0 O 67 rrBody (rrS i) [.rows [.i64, .i64] l, .rows [.i64, .i64, .i64] (runsN l i)] .normal (rrS (i + 1)) [.rows [.i64, .i64] l, .rows [.i64, .i64, .i64] (runsN l (i + 1))] 1 := by
  have ok := runsN_ok l i
  have e1 : runsN l (i + 1) = runStep (runsN l i) ((l.getD i []).getD 0 0) ((l.getD i []).getD 1 0) := rfl
  generalize runsN l i = o at ok e1 ⊢
  have hlen := ok.len
  have F1 : Fits .i64 (l.length : Int) := fits_small (by omega)
  have F2 : Fits .i64 (o.length : Int) := fits_small (by omega)
  have F4 := fits_i F1 hi
  by_cases h0 : 0 < o.length
  · have hq : ((o.length : Int) - 1).toNat = o.length - 1 := by omega
    have F3 : Fits .i64 ((o.length : Int) - 1) := fits_of (by omega) (by omega)
    have hm : lastR o ∈ o := by
      unfold lastR
      rw [List.getD_eq_getElem?_getD, List.getElem?_eq_getElem (show o.length - 1 < o.length by omega)]
      exact List.getElem_mem _
    have hp := ok.pos _ hm
    have F5 : Fits .i64 ((lastR o).getD 2 0 + 1) := fits_of (by omega) (by omega)
    by_cases c0 : (lastR o).getD 0 0 = (l.getD i []).getD 0 0
    · have hk0 := decide_eq_true c0
      by_cases c1 : (lastR o).getD 1 0 = (l.getD i []).getD 1 0
      · have hk1 := decide_eq_true c1
        have e2 : runsN l (i + 1) = o.set (o.length - 1) ((lastR o).set 2 ((lastR o).getD 2 0 + 1)) := by rw [e1]; unfold runStep; rw [if_pos ⟨h0, c0, c1⟩]
        rw [e2]
        refine SimC.run (B' := [.rows [.i64, .i64] l, .rows [.i64, .i64, .i64] (o.set (o.length - 1) ((lastR o).set 2 ((lastR o).getD 2 0 + 1)))]) g2_ok (by decide) (by have := rr_3 i l o; rw [hq] at this; exact this) ?_ (by simp) (fun j hj => two_id j hj 1) (by decide) (by simp) hG
        simp only [allC_cons, allC_nil, and_true]
        (repeat' (first | exact F1 | exact F2 | exact F3 | exact F4 | exact F5 | exact hk0 | exact hk1 | exact decide_eq_true (by omega) | exact decide_eq_false (by omega) | omega | (show _ < (l.length : Int); omega) | (show _ < (o.length : Int); omega) | (simp only [List.length_append, List.length_cons, List.length_nil]; omega) | refine And.intro ?_ ?_))
      · have hk1 := decide_eq_false c1
        have e2 : runsN l (i + 1) = o ++ [[(l.getD i []).getD 0 0, (l.getD i []).getD 1 0, 1]] := by rw [e1]; unfold runStep; rw [if_neg fun h => c1 h.2.2]
        rw [e2]
        refine SimC.run (B' := [.rows [.i64, .i64] l, .rows [.i64, .i64, .i64] (o ++ [[(l.getD i []).getD 0 0, (l.getD i []).getD 1 0, 1]])]) g2_ok (by decide) (by have := rr_2 i l o; rw [hq] at this; exact this) ?_ (by simp) (fun j hj => two_id j hj 3) (by decide) (by simp) hG
        simp only [allC_cons, allC_nil, and_true]
        (repeat' (first | exact F1 | exact F2 | exact F3 | exact F4 | exact F5 | exact hk0 | exact hk1 | exact decide_eq_true (by omega) | exact decide_eq_false (by omega) | omega | (show _ < (l.length : Int); omega) | (show _ < (o.length : Int); omega) | (simp only [List.length_append, List.length_cons, List.length_nil]; omega) | refine And.intro ?_ ?_))
    · have hk0 := decide_eq_false c0
      have hk1 := hk0
      have e2 : runsN l (i + 1) = o ++ [[(l.getD i []).getD 0 0, (l.getD i []).getD 1 0, 1]] := by rw [e1]; unfold runStep; rw [if_neg fun h => c0 h.2.1]
      rw [e2]
      refine SimC.run (B' := [.rows [.i64, .i64] l, .rows [.i64, .i64, .i64] (o ++ [[(l.getD i []).getD 0 0, (l.getD i []).getD 1 0, 1]])]) g2_ok (by decide) (by have := rr_1 i l o; rw [hq] at this; exact this) ?_ (by simp) (fun j hj => two_id j hj 3) (by decide) (by simp) hG
      simp only [allC_cons, allC_nil, and_true]
      (repeat' (first | exact F1 | exact F2 | exact F3 | exact F4 | exact F5 | exact hk0 | exact hk1 | exact decide_eq_true (by omega) | exact decide_eq_false (by omega) | omega | (show _ < (l.length : Int); omega) | (show _ < (o.length : Int); omega) | (simp only [List.length_append, List.length_cons, List.length_nil]; omega) | refine And.intro ?_ ?_))
  · have F3 := F1
    have F5 := F1
    have hk0 := F1
    have hk1 := F1
    have e2 : runsN l (i + 1) = o ++ [[(l.getD i []).getD 0 0, (l.getD i []).getD 1 0, 1]] := by rw [e1]; unfold runStep; rw [if_neg fun h => h0 h.1]
    rw [e2]
    refine SimC.run (B' := [.rows [.i64, .i64] l, .rows [.i64, .i64, .i64] (o ++ [[(l.getD i []).getD 0 0, (l.getD i []).getD 1 0, 1]])]) g2_ok (by decide) (rr_0 i l o) ?_ (by simp) (fun j hj => two_id j hj 3) (by decide) (by simp) hG
    simp only [allC_cons, allC_nil, and_true]
    (repeat' (first | exact F1 | exact F2 | exact F3 | exact F4 | exact F5 | exact hk0 | exact hk1 | exact decide_eq_true (by omega) | exact decide_eq_false (by omega) | omega | (show _ < (l.length : Int); omega) | (show _ < (o.length : Int); omega) | (simp only [List.length_append, List.length_cons, List.length_nil]; omega) | refine And.intro ?_ ?_))
theorem rr_loop : LoopGood g2 67 (.loop rrBody) rrKeep 1 (.exit 0) (mkLoopN rrG) := by
  refine LoopGood.mkN (by decide) fun vals B S' B' C hG hC hlen w0 O hgl => ?_
  clear hlen
  unfold rrG at hG
  split at hG
  · rename_i K l
    split at hG
    · rename_i hK
      obtain rfl := sameKs_eq hK
      simp only [Option.some.injEq, Prod.mk.injEq] at hG
      obtain ⟨rfl, rfl, rfl⟩ := hG
      have hl : l.length * 24 ≤ 140737488355328 := hC _ (by simp)
      refine SimC.adoptS (.rows [.i64, .i64, .i64] []) 3 rfl rfl (by simp) (by simp) ?_
      refine SimC.iter (g := g2) (S := rrS) (B := fun i => [.rows [.i64, .i64] l, .rows [.i64, .i64, .i64] (runsN l i)]) (N := l.length) (fun i hi => rr_step hl hi hgl) ?_ (by simp) 0 (by omega)
      refine SimC.weaken (SimC.run (B' := [.rows [.i64, .i64] l, .rows [.i64, .i64, .i64] (runsN l l.length)]) g2_ok (by decide) (rr_end l.length l _) ?_ (by simp) (fun j hj => two_id j hj 1) (by decide) (by simp) hgl) (sub_mkT (by simp; rfl))
      simp only [allC_cons, allC_nil, and_true]
      exact ⟨fits_small (by omega), decide_eq_false (by omega)⟩
    · simp at hG
  · simp at hG
end Go.Proofs.Ytkpkdingeomhnaa
