/- Accounts of this seat's functions: lemmas, no statement of their own. No conditions. -/
import Derived.Test.YtkpkdingeomhnaaTD
namespace Go.Proofs.Ytkpkdingeomhnaa
open Go Go.Vx

/-! ### a step -/
def isEv (k : Int) : Bool := decide (k = 1 ∨ k = 2 ∨ k = 3)
def evKind (k : Int) : Int := if k = 1 then 1 else if k = 2 then 2 else if k = 3 then 3 else 0
def evVal (k v : Int) (b : Bool) : Int := if k = 1 then (if b = true then 1 else 0) else if k = 2 then v else if k = 3 then v else 0
def stepL (k v : Int) (b : Bool) : List (List Int) := if isEv k = true then [[evKind k, evVal k v b]] else []

theorem log_if (k v : Int) (b : Bool) (l : List (List Int)) : runF g1 60 [.br true] 10 [.ptr 0 0, stepA k v b] [.log l] [] =
    some (.sbool (b == b), [some (.log (l ++ [[1, if b = true then 1 else 0]]))], [decide (k = 1) = true, l.length < 1099511627776]) := by kernel_rfl
theorem log_at (k v : Int) (b : Bool) (l : List (List Int)) : runF g1 60 [.br false, .br true] 10 [.ptr 0 0, stepA k v b] [.log l] [] =
    some (.sbool (decide (v = v)), [some (.log (l ++ [[2, v]]))], [decide (k = 1) = false, decide (k = 2) = true, l.length < 1099511627776]) := by kernel_rfl
theorem log_op (k v : Int) (b : Bool) (l : List (List Int)) : runF g1 60 [.br false, .br false, .br true] 10 [.ptr 0 0, stepA k v b] [.log l] [] =
    some (.bool true, [some (.log (l ++ [[3, v]]))], [decide (k = 1) = false, decide (k = 2) = false, decide (k = 3) = true, l.length < 1099511627776]) := by kernel_rfl
theorem log_no (k v : Int) (b : Bool) (l : List (List Int)) : runF g1 60 [.br false, .br false, .br false] 10 [.ptr 0 0, stepA k v b] [.log l] [] =
    some (.bool true, [some (.log l)], [decide (k = 1) = false, decide (k = 2) = false, decide (k = 3) = false]) := by kernel_rfl
def logStepF : SumF := fun args B => match args, B with
  | [.ptr 0 0, .agg [.int .i64 k, .int .i64 v, .sbool b]], [.log l] => some { val := .bool true, upd := [(0, some (.log (l ++ stepL k v b)))], C := [l.length < 1099511627776] }
  | _, _ => none
theorem one_log {l l' : List (List Int)} {v : SV} (j : Nat) (hj : j < 1) : (([some (Body.log l')] : List (Option Body))[j]?).getD none = afterH [.log l] { val := v, upd := [(0, some (.log l'))] } j := by
  match j, hj with
  | 0, _ => rfl
theorem acc10 : Acc g1 10 logStepF := by
  intro args B out h hC
  unfold logStepF at h
  split at h
  · rename_i k v b l
    simp only [Option.some.injEq] at h; subst h
    have hl : l.length < 1099511627776 := hC _ (by simp)
    by_cases h1 : k = 1
    · have e : stepL k v b = [[1, if b = true then 1 else 0]] := by subst h1; rfl
      rw [e]
      exact FnOk.ofSb (FnOk.run (out := { val := .sbool (b == b), upd := [(0, some (.log (l ++ [[1, if b = true then 1 else 0]])))] }) g1_ok (log_if k v b l) (by simp [AllC, h1, hl]) (by simp [upto]) rfl (by simp) (by simp) one_log) (by simp)
    · by_cases h2 : k = 2
      · have e : stepL k v b = [[2, v]] := by subst h2; rfl
        rw [e]
        exact FnOk.ofSb (FnOk.run (out := { val := .sbool (decide (v = v)), upd := [(0, some (.log (l ++ [[2, v]])))] }) g1_ok (log_at k v b l) (by simp [AllC, h1, h2, hl]) (by simp [upto]) rfl (by simp) (by simp) one_log) (by simp)
      · by_cases h3 : k = 3
        · have e : stepL k v b = [[3, v]] := by subst h3; rfl
          rw [e]
          exact FnOk.val (FnOk.run (out := { val := .bool true, upd := [(0, some (.log (l ++ [[3, v]])))] }) g1_ok (log_op k v b l) (by simp [AllC, h1, h2, h3, hl]) (by simp [upto]) rfl (by simp) (by simp) one_log) fun _ _ _ _ d => d
        · have e : stepL k v b = [] := by simp [stepL, isEv, h1, h2, h3]
          rw [e, List.append_nil]
          refine FnOk.val (upd := [(0, some (.log l))]) (FnOk.run (out := { val := .bool true, upd := [(0, some (.log l))] }) g1_ok (log_no k v b l) (by simp [AllC, h1, h2, h3]) (by simp [upto]) rfl (by simp) (by simp) one_log) fun _ _ _ _ d => d
  · simp at h

theorem ev_if1 (k v : Int) : runF g1 60 [.br true, .br true] 11 [stepA k v true] [] [] = some (.tuple [.agg [.lit .i64 1, .lit .i64 1], .bool true], [], [decide (k = 1) = true, true = true]) := by kernel_rfl
theorem ev_if0 (k v : Int) : runF g1 60 [.br true, .br false] 11 [stepA k v false] [] [] = some (.tuple [.agg [.lit .i64 1, .lit .i64 0], .bool true], [], [decide (k = 1) = true, false = false]) := by kernel_rfl
theorem ev_at (k v : Int) (b : Bool) : runF g1 60 [.br false, .br true] 11 [stepA k v b] [] [] = some (.tuple [.agg [.lit .i64 2, .int .i64 v], .bool true], [], [decide (k = 1) = false, decide (k = 2) = true]) := by kernel_rfl
theorem ev_op (k v : Int) (b : Bool) : runF g1 60 [.br false, .br false, .br true] 11 [stepA k v b] [] [] = some (.tuple [.agg [.lit .i64 3, .int .i64 v], .bool true], [], [decide (k = 1) = false, decide (k = 2) = false, decide (k = 3) = true]) := by kernel_rfl
theorem ev_no' (k v : Int) (b : Bool) : runF g1 60 [.br false, .br false, .br false] 11 [stepA k v b] [] [] = some (.tuple [.agg [.lit .i64 0, .lit .i64 0], .bool false], [], [decide (k = 1) = false, decide (k = 2) = false, decide (k = 3) = false]) := by kernel_rfl
def eventF : SumF := fun args B => match args, B with
  | [.agg [.int .i64 k, .int .i64 v, .sbool b]], [] => some { val := .tuple [.agg [.int .i64 (evKind k), .int .i64 (evVal k v b)], .sbool (isEv k)] }
  | _, _ => none
theorem FnOk.normV {g : Ctx} {f : FuncId} {args : List SV} {B : List Body} {v v' : SV} (h : FnOk g f args B { val := v }) (e : normC v = v') : FnOk g f args B { val := v' } :=
  FnOk.val h fun _ _ _ u d => by subst e; exact denV_norm d
theorem acc11 : Acc g1 11 eventF := by
  intro args B out h hC
  unfold eventF at h
  split at h
  · rename_i k v b
    simp only [Option.some.injEq] at h; subst h
    by_cases h1 : k = 1
    · cases b
      · refine FnOk.normV (FnOk.pure g1_ok (ev_if0 k v) (by simp [AllC, h1])) ?_
        subst h1; rfl
      · refine FnOk.normV (FnOk.pure g1_ok (ev_if1 k v) (by simp [AllC, h1])) ?_
        subst h1; rfl
    · by_cases h2 : k = 2
      · refine FnOk.normV (FnOk.pure g1_ok (ev_at k v b) (by simp [AllC, h1, h2])) ?_
        subst h2; rfl
      · by_cases h3 : k = 3
        · refine FnOk.normV (FnOk.pure g1_ok (ev_op k v b) (by simp [AllC, h1, h2, h3])) ?_
          subst h3; rfl
        · refine FnOk.normV (FnOk.pure g1_ok (ev_no' k v b) (by simp [AllC, h1, h2, h3])) ?_
          simp [normC, normL, evKind, evVal, isEv, h1, h2, h3]
  · simp at h

/-! ### behind -/
theorem be_00 (n : Int) (l : List (List Int)) : runF g1 60 [.br false, .br false] 22 [.own 0, .int .i64 n] [.rows [.i64, .i64] l] [] =
    some (.sl 0 0 n.toNat 2 0 (l.length - n.toNat) false, [some (.rows [.i64, .i64] l)], [decide (n < 0) = false, Fits .i64 (l.length : Int), decide ((l.length : Int) ≤ n) = false, 0 ≤ n ∧ n ≤ (l.length : Int) ∧ (l.length : Int) ≤ (l.length : Int)]) := by kernel_rfl
theorem be_10 (n : Int) (l : List (List Int)) : runF g1 60 [.br true, .br false] 22 [.own 0, .int .i64 n] [.rows [.i64, .i64] l] [] =
    some (.sl 0 0 0 2 0 (l.length - 0) false, [some (.rows [.i64, .i64] l)], [decide (n < 0) = true, Fits .i64 (l.length : Int), decide ((l.length : Int) ≤ 0) = false, (0 : Int) ≤ 0 ∧ (0 : Int) ≤ (l.length : Int) ∧ (l.length : Int) ≤ (l.length : Int)]) := by kernel_rfl
theorem be_01 (n : Int) (l : List (List Int)) : runF g1 60 [.br false, .br true] 22 [.own 0, .int .i64 n] [.rows [.i64, .i64] l] [] =
    some (.raw (.slice none 0 0), [some (.rows [.i64, .i64] l)], [decide (n < 0) = false, Fits .i64 (l.length : Int), decide ((l.length : Int) ≤ n) = true]) := by kernel_rfl
theorem be_11 (n : Int) (l : List (List Int)) : runF g1 60 [.br true, .br true] 22 [.own 0, .int .i64 n] [.rows [.i64, .i64] l] [] =
    some (.raw (.slice none 0 0), [some (.rows [.i64, .i64] l)], [decide (n < 0) = true, Fits .i64 (l.length : Int), decide ((l.length : Int) ≤ 0) = true]) := by kernel_rfl
def behindF : SumF := fun args B => match args, B with
  | [.own 0, .int .i64 n], [.rows K l] => match sameKs K [.i64, .i64] with
    | true => some { val := .sl 0 0 (min n.toNat l.length) 2 0 (l.length - n.toNat) false, C := [l.length ≤ 140737488355328] }
    | false => none
  | _, _ => none
theorem nil_sl {w0 : World} {O : Vx.Own} {ρ : Rho} {v : Value} {id o sz : Nat} (d : DenV w0 O ρ (.raw (.slice none 0 0)) v) : DenV w0 O ρ (.sl id 0 o sz 0 0 false) v := by
  have d := (denV_cell d (by simp) rfl).1
  simp only [DenC] at d
  obtain ⟨d, _⟩ := d
  simp at d; subst d
  refine den_cell rfl rfl ?_
  simp only [DenC]
  exact ⟨none, 0, rfl, Nat.le_refl _, ⟨by simp, .inl rfl⟩, fun h => absurd h (by omega)⟩
theorem one_rows {K : List IntKind} {l : List (List Int)} {v : SV} (j : Nat) (hj : j < 1) : (([some (Body.rows K l)] : List (Option Body))[j]?).getD none = afterH [.rows K l] { val := v } j := by
  match j, hj with
  | 0, _ => rfl
theorem acc22 : Acc g1 22 behindF := by
  intro args B out h hC
  unfold behindF at h
  split at h
  · rename_i n K l
    split at h
    · rename_i hK
      obtain rfl := sameKs_eq hK
      simp only [Option.some.injEq] at h; subst h
      have hl : l.length ≤ 140737488355328 := hC _ (by simp)
      have hf := fits_small hl
      by_cases h1 : n < 0
      · have e : n.toNat = 0 := by omega
        rw [e, Nat.zero_min]
        by_cases h2 : (l.length : Int) ≤ 0
        · refine FnOk.val (FnOk.run (out := { val := .raw (.slice none 0 0) }) g1_ok (be_11 n l) (by simp only [allC_cons, allC_nil, and_true]; exact ⟨decide_eq_true h1, hf, decide_eq_true h2⟩) (by simp [upto]) rfl (by simp) (by simp) one_rows) fun _ _ _ _ d => ?_
          have : l.length - 0 = 0 := by omega
          rw [this]; exact nil_sl d
        · exact FnOk.val (FnOk.run (out := { val := .sl 0 0 0 2 0 (l.length - 0) false }) g1_ok (be_10 n l) (by simp only [allC_cons, allC_nil, and_true]; exact ⟨decide_eq_true h1, hf, decide_eq_false h2, by omega, by omega, by omega⟩) (by simp [upto]) rfl (by simp) (by simp) one_rows) fun _ _ _ _ d => d
      · by_cases h2 : (l.length : Int) ≤ n
        · refine FnOk.val (FnOk.run (out := { val := .raw (.slice none 0 0) }) g1_ok (be_01 n l) (by simp only [allC_cons, allC_nil, and_true]; exact ⟨decide_eq_false h1, hf, decide_eq_true h2⟩) (by simp [upto]) rfl (by simp) (by simp) one_rows) fun _ _ _ _ d => ?_
          have : l.length - n.toNat = 0 := by omega
          rw [this]; exact nil_sl d
        · rw [Nat.min_eq_left (show n.toNat ≤ l.length by omega)]
          exact FnOk.val (FnOk.run (out := { val := .sl 0 0 n.toNat 2 0 (l.length - n.toNat) false }) g1_ok (be_00 n l) (by simp only [allC_cons, allC_nil, and_true]; exact ⟨decide_eq_false h1, hf, decide_eq_false h2, by omega, by omega, by omega⟩) (by simp [upto]) rfl (by simp) (by simp) one_rows) fun _ _ _ _ d => d
    · simp at h
  · simp at h
end Go.Proofs.Ytkpkdingeomhnaa
