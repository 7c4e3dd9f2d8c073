/- Accounts of this seat's functions: lemmas, no statement of their own. No conditions. -/
import Derived.Test.YtkpkdingeomhnaaTD
namespace Go.Proofs.Ytkpkdingeomhnaa
open Go Go.Vx

/-! ### a step -/
def isEv (k : Int) : Bool := decide (k = 1 ∨ k = 2 ∨ k = 3)
def evKind (k : Int) : Int := if k = 1 then 1 else if k = 2 then 2 else if k = 3 then 3 else 0
def evVal (k v : Int) (b : Bool) : Int := if k = 1 then (if b = true then 1 else 0) else if k = 2 then v else if k = 3 then v else 0
def stepL (k v : Int) (b : Bool) : List (List Int) := if isEv k = true then [[evKind k, evVal k v b]] else []

theorem log_if (k v : Int) (b : Bool) (l : List (List Int)) : runF g1 60 [.br true] 10 [.ptr 0 0, stepA k v b] [.log l] [] =
    some (.sbool (b == b), [some (.log (l ++ [[1, if b = true then 1 else 0]]))], [decide (k = 1) = true, l.length < 1099511627776]) := by kernel_rfl
theorem log_at (k v : Int) (b : Bool) (l : List (List Int)) : runF g1 60 [.br false, .br true] 10 [.ptr 0 0, stepA k v b] [.log l] [] =
    some (.sbool (decide (v = v)), [some (.log (l ++ [[2, v]]))], [decide (k = 1) = false, decide (k = 2) = true, l.length < 1099511627776]) := by kernel_rfl
theorem log_op (k v : Int) (b : Bool) (l : List (List Int)) : runF g1 60 [.br false, .br false, .br true] 10 [.ptr 0 0, stepA k v b] [.log l] [] =
    some (.bool true, [some (.log (l ++ [[3, v]]))], [decide (k = 1) = false, decide (k = 2) = false, decide (k = 3) = true, l.length < 1099511627776]) := by kernel_rfl
theorem log_no (k v : Int) (b : Bool) (l : List (List Int)) : runF g1 60 [.br false, .br false, .br false] 10 [.ptr 0 0, stepA k v b] [.log l] [] =
    some (.bool true, [some (.log l)], [decide (k = 1) = false, decide (k = 2) = false, decide (k = 3) = false]) := by kernel_rfl
def logStepF : SumF := fun args B => match args, B with
  | [.ptr 0 0, .agg [.int .i64 k, .int .i64 v, .sbool b]], [.log l] => some { val := .bool true, upd := [(0, some (.log (l ++ stepL k v b)))], C := [l.length < 1099511627776] }
  | _, _ => none
theorem one_log {l l' : List (List Int)} {v : SV} (j : Nat) (hj : j < 1) : (([some (Body.log l')] : List (Option Body))[j]?).getD none = afterH [.log l] { val := v, upd := [(0, some (.log l'))] } j := by
  match j, hj with
  | 0, _ => rfl
theorem acc10 : Acc g1 10 logStepF := by
  intro args B out h hC
  unfold logStepF at h
  split at h
  · rename_i k v b l
    simp only [Option.some.injEq] at h; subst h
    have hl : l.length < 1099511627776 := hC _ (by simp)
    by_cases h1 : k = 1
    · have e : stepL k v b = [[1, if b = true then 1 else 0]] := by subst h1; rfl
      rw [e]
      exact FnOk.ofSb (FnOk.run (out := { val := .sbool (b == b), upd := [(0, some (.log (l ++ [[1, if b = true then 1 else 0]])))] }) g1_ok (log_if k v b l) (by simp [AllC, h1, hl]) (by simp [upto]) rfl (by simp) (by simp) one_log) (by simp)
    · by_cases h2 : k = 2
      · have e : stepL k v b = [[2, v]] := by subst h2; rfl
        rw [e]
        exact FnOk.ofSb (FnOk.run (out := { val := .sbool (decide (v = v)), upd := [(0, some (.log (l ++ [[2, v]])))] }) g1_ok (log_at k v b l) (by simp [AllC, h1, h2, hl]) (by simp [upto]) rfl (by simp) (by simp) one_log) (by simp)
      · by_cases h3 : k = 3
        · have e : stepL k v b = [[3, v]] := by subst h3; rfl
          rw [e]
          exact FnOk.val (FnOk.run (out := { val := .bool true, upd := [(0, some (.log (l ++ [[3, v]])))] }) g1_ok (log_op k v b l) (by simp [AllC, h1, h2, h3, hl]) (by simp [upto]) rfl (by simp) (by simp) one_log) fun _ _ _ _ d => d
        · have e : stepL k v b = [] := by simp [stepL, isEv, h1, h2, h3]
          rw [e, List.append_nil]
          refine FnOk.val (upd := [(0, some (.log l))]) (FnOk.run (out := { val := .bool true, upd := [(0, some (.log l))] }) g1_ok (log_no k v b l) (by simp [AllC, h1, h2, h3]) (by simp [upto]) rfl (by simp) (by simp) one_log) fun _ _ _ _ d => d
  · simp at h

theorem ev_if1 (k v : Int) : runF g1 60 [.br true, .br true] 11 [stepA k v true] [] [] = some (.tuple [.agg [.lit .i64 1, .lit .i64 1], .bool true], [], [decide (k = 1) = true, true = true]) := by kernel_rfl
theorem ev_if0 (k v : Int) : runF g1 60 [.br true, .br false] 11 [stepA k v false] [] [] = some (.tuple [.agg [.lit .i64 1, .lit .i64 0], .bool true], [], [decide (k = 1) = true, false = false]) := by kernel_rfl
theorem ev_at (k v : Int) (b : Bool) : runF g1 60 [.br false, .br true] 11 [stepA k v b] [] [] = some (.tuple [.agg [.lit .i64 2, .int .i64 v], .bool true], [], [decide (k = 1) = false, decide (k = 2) = true]) := by kernel_rfl
theorem ev_op (k v : Int) (b : Bool) : runF g1 60 [.br false, .br false, .br true] 11 [stepA k v b] [] [] = some (.tuple [.agg [.lit .i64 3, .int .i64 v], .bool true], [], [decide (k = 1) = false, decide (k = 2) = false, decide (k = 3) = true]) := by kernel_rfl
theorem ev_no' (k v : Int) (b : Bool) : runF g1 60 [.br false, .br false, .br false] 11 [stepA k v b] [] [] = some (.tuple [.agg [.lit .i64 0, .lit .i64 0], .bool false], [], [decide (k = 1) = false, decide (k = 2) = false, decide (k = 3) = false]) := by kernel_rfl
def eventF : SumF := fun args B => match args, B with
  | [.agg [.int .i64 k, .int .i64 v, .sbool b]], [] => some { val := .tuple [.agg [.int .i64 (evKind k), .int .i64 (evVal k v b)], .sbool (isEv k)] }
  | _, _ => none
theorem FnOk.normV {g : Ctx} {f : FuncId} {args : List SV} {B : List Body} {v v' : SV} (h : FnOk g f args B { val := v }) (e : normC v = v') : FnOk g f args B { val := v' } :=
  FnOk.val h fun _ _ _ u d => by subst e; exact denV_norm d
theorem acc11 : Acc g1 11 eventF := by
  intro args B out h hC
  unfold eventF at h
  split at h
  · rename_i k v b
    simp only [Option.some.injEq] at h; subst h
    by_cases h1 : k = 1
    · cases b
      · refine FnOk.normV (FnOk.pure g1_ok (ev_if0 k v) (by simp [AllC, h1])) ?_
        subst h1; rfl
      · refine FnOk.normV (FnOk.pure g1_ok (ev_if1 k v) (by simp [AllC, h1])) ?_
        subst h1; rfl
    · by_cases h2 : k = 2
      · refine FnOk.normV (FnOk.pure g1_ok (ev_at k v b) (by simp [AllC, h1, h2])) ?_
        subst h2; rfl
      · by_cases h3 : k = 3
        · refine FnOk.normV (FnOk.pure g1_ok (ev_op k v b) (by simp [AllC, h1, h2, h3])) ?_
          subst h3; rfl
        · refine FnOk.normV (FnOk.pure g1_ok (ev_no' k v b) (by simp [AllC, h1, h2, h3])) ?_
          simp [normC, normL, evKind, evVal, isEv, h1, h2, h3]
  · simp at h

/-! ### behind -/
theorem be_00 (n : Int) (l : List (List Int)) : runF g1 60 [.br false, .br false] 22 [.own 0, .int .i64 n] [.rows [.i64, .i64] l] [] =
    some (.sl 0 0 n.toNat 2 0 (l.length - n.toNat) false, [some (.rows [.i64, .i64] l)], [decide (n < 0) = false, Fits .i64 (l.length : Int), decide ((l.length : Int) ≤ n) = false, 0 ≤ n ∧ n ≤ (l.length : Int) ∧ (l.length : Int) ≤ (l.length : Int)]) := by kernel_rfl
theorem be_10 (n : Int) (l : List (List Int)) : runF g1 60 [.br true, .br false] 22 [.own 0, .int .i64 n] [.rows [.i64, .i64] l] [] =
    some (.sl 0 0 0 2 0 (l.length - 0) false, [some (.rows [.i64, .i64] l)], [decide (n < 0) = true, Fits .i64 (l.length : Int), decide ((l.length : Int) ≤ 0) = false, (0 : Int) ≤ 0 ∧ (0 : Int) ≤ (l.length : Int) ∧ (l.length : Int) ≤ (l.length : Int)]) := by kernel_rfl
theorem be_01 (n : Int) (l : List (List Int)) : runF g1 60 [.br false, .br true] 22 [.own 0, .int .i64 n] [.rows [.i64, .i64] l] [] =
    some (.raw (.slice none 0 0), [some (.rows [.i64, .i64] l)], [decide (n < 0) = false, Fits .i64 (l.length : Int), decide ((l.length : Int) ≤ n) = true]) := by kernel_rfl
theorem be_11 (n : Int) (l : List (List Int)) : runF g1 60 [.br true, .br true] 22 [.own 0, .int .i64 n] [.rows [.i64, .i64] l] [] =
    some (.raw (.slice none 0 0), [some (.rows [.i64, .i64] l)], [decide (n < 0) = true, Fits .i64 (l.length : Int), decide ((l.length : Int) ≤ 0) = true]) := by kernel_rfl
def behindF : SumF := fun args B => match args, B with
  | [.own 0, .int .i64 n], [.rows K l] => match sameKs K [.i64, .i64] with
    | true => some { val := .sl 0 0 (min n.toNat l.length) 2 0 (l.length - n.toNat) false, C := [l.length ≤ 140737488355328] }
    | false => none
  | _, _ => none
theorem nil_sl {w0 : World} {O : Vx.Own} {ρ : Rho} {v : Value} {id o sz : Nat} (d : DenV w0 O ρ (.raw (.slice none 0 0)) v) : DenV w0 O ρ (.sl id 0 o sz 0 0 false) v := by
  have d := (denV_cell d (by simp) rfl).1
  simp only [DenC] at d
  obtain ⟨d, _⟩ := d
  simp at d; subst d
  refine den_cell rfl rfl ?_
  simp only [DenC]
  exact ⟨none, 0, rfl, Nat.le_refl _, ⟨by simp, .inl rfl⟩, fun h => absurd h (by omega)⟩
theorem one_rows {K : List IntKind} {l : List (List Int)} {v : SV} (j : Nat) (hj : j < 1) : (([some (Body.rows K l)] : List (Option Body))[j]?).getD none = afterH [.rows K l] { val := v } j := by
  match j, hj with
  | 0, _ => rfl
theorem acc22 : Acc g1 22 behindF := by
  intro args B out h hC
  unfold behindF at h
  split at h
  · rename_i n K l
    split at h
    · rename_i hK
      obtain rfl := sameKs_eq hK
      simp only [Option.some.injEq] at h; subst h
      have hl : l.length ≤ 140737488355328 := hC _ (by simp)
      have hf := fits_small hl
      by_cases h1 : n < 0
      · have e : n.toNat = 0 := by omega
        rw [e, Nat.zero_min]
        by_cases h2 : (l.length : Int) ≤ 0
        · refine FnOk.val (FnOk.run (out := { val := .raw (.slice none 0 0) }) g1_ok (be_11 n l) (by simp only [allC_cons, allC_nil, and_true]; exact ⟨decide_eq_true h1, hf, decide_eq_true h2⟩) (by simp [upto]) rfl (by simp) (by simp) one_rows) fun _ _ _ _ d => ?_
          have : l.length - 0 = 0 := by omega
          rw [this]; exact nil_sl d
        · exact FnOk.val (FnOk.run (out := { val := .sl 0 0 0 2 0 (l.length - 0) false }) g1_ok (be_10 n l) (by simp only [allC_cons, allC_nil, and_true]; exact ⟨decide_eq_true h1, hf, decide_eq_false h2, by omega, by omega, by omega⟩) (by simp [upto]) rfl (by simp) (by simp) one_rows) fun _ _ _ _ d => d
      · by_cases h2 : (l.length : Int) ≤ n
        · refine FnOk.val (FnOk.run (out := { val := .raw (.slice none 0 0) }) g1_ok (be_01 n l) (by simp only [allC_cons, allC_nil, and_true]; exact ⟨decide_eq_false h1, hf, decide_eq_true h2⟩) (by simp [upto]) rfl (by simp) (by simp) one_rows) fun _ _ _ _ d => ?_
          have : l.length - n.toNat = 0 := by omega
          rw [this]; exact nil_sl d
        · rw [Nat.min_eq_left (show n.toNat ≤ l.length by omega)]
          exact FnOk.val (FnOk.run (out := { val := .sl 0 0 n.toNat 2 0 (l.length - n.toNat) false }) g1_ok (be_00 n l) (by simp only [allC_cons, allC_nil, and_true]; exact ⟨decide_eq_false h1, hf, decide_eq_false h2, by omega, by omega, by omega⟩) (by simp [upto]) rfl (by simp) (by simp) one_rows) fun _ _ _ _ d => d
    · simp at h
  · simp at h
end Go.Proofs.Ytkpkdingeomhnaa

namespace Go.Proofs.Ytkpkdingeomhnaa
open Go Go.Vx

noncomputable abbrev g2 : Ctx := g1.add [(16, scanF [.i64, .i64]), (27, scanF [.i64, .i64, .i64]), (35, scanF [.i64, .i64]), (10, logStepF), (11, eventF), (22, behindF)]
theorem g2_ok : CtxU g2 := g1_ok.add mixed noGo (by
  intro x hx
  simp only [List.mem_cons, List.not_mem_nil, or_false] at hx
  rcases hx with rfl | rfl | rfl | rfl | rfl | rfl
  · exact ev_acc
  · exact rn_acc
  · exact eq_acc
  · exact acc10
  · exact acc11
  · exact acc22)

/-! ### scripts -/
def scriptF (a : Nat → Nat → Int) : Nat → SV := fun i => .agg [.int .i64 (a i 0), .int .i64 (a i 1), .sbool (decide (a i 2 = 1))]
def cellN (cs : List SV) (j : Nat) : Int := match cs[j]? with | some (.int _ n) => n | some (.sbool true) => 1 | _ => 0
def aOf (f : Nat → SV) (i j : Nat) : Int := match f i with | .agg cs => cellN cs j | _ => 0
theorem aOf_script (a : Nat → Nat → Int) : scriptF (aOf (scriptF a)) = scriptF a := by
  funext i
  have h2 : decide (aOf (scriptF a) i 2 = 1) = decide (a i 2 = 1) := by
    show decide (cellN [_, _, SV.sbool (decide (a i 2 = 1))] 2 = 1) = _
    cases h : decide (a i 2 = 1) <;> simp [cellN]
  show SV.agg [.int .i64 (a i 0), .int .i64 (a i 1), .sbool (decide (aOf (scriptF a) i 2 = 1))] = _
  rw [h2]; rfl
def evAt (a : Nat → Nat → Int) (i : Nat) : List (List Int) := stepL (a i 0) (a i 1) (decide (a i 2 = 1))
def evs (a : Nat → Nat → Int) : Nat → List (List Int)
  | 0 => []
  | n + 1 => evs a n ++ evAt a n
theorem evAt_len (a : Nat → Nat → Int) (i : Nat) : (evAt a i).length ≤ 1 := by unfold evAt stepL; split <;> simp
theorem evs_len (a : Nat → Nat → Int) : ∀ n, (evs a n).length ≤ n
  | 0 => by simp [evs]
  | n + 1 => by have := evs_len a n; have := evAt_len a n; simp only [evs, List.length_append]; omega


/-! ### filled -/
abbrev fiKeep : List Nat := [0, 4, 5, 6]
noncomputable abbrev fiBody : Code := bodyAt Try.prog 14 4
abbrev fiS (a : Nat → Nat → Int) (n i : Nat) : List (Nat × SV) := fiKeep.zip [.ro 3 n (scriptF a), .ptr 0 0, .sbool true, .int .i64 (i : Int)]
theorem fi_go (a : Nat → Nat → Int) (n i : Nat) (l : List (List Int)) : runC g2 200 31 [.br true, .br true] fiBody (fiS a n i) [.log l] fiKeep [0] =
    some (Ex.normal, [SV.ro (3 : Nat) n (scriptF a), SV.ptr (0 : Nat) (0 : Nat), SV.sbool true, SV.int IntKind.i64 ((↑i : Int) + (1 : Int))], [some (Body.log (l ++ stepL (a i (0 : Nat)) (a i (1 : Nat)) (decide (a (↑i : Int).toNat (2 : Nat) = (1 : Int)))))], [decide ((↑i : Int) < (↑n : Int)) = true, Fits IntKind.i64 (↑n : Int), decide ((↑i : Int) < (2000 : Int)) = true, l.length < (1099511627776 : Nat), (0 : Int) ≤ (↑i : Int) ∧ (↑i : Int) < (↑n : Int), Fits IntKind.i64 ((↑i : Int) + (1 : Int))]) := by kernel_rfl
theorem fi_end (a : Nat → Nat → Int) (n i : Nat) (l : List (List Int)) : runC g2 200 31 [.br false] fiBody (fiS a n i) [.log l] fiKeep [0] =
    some (Ex.exit (0 : Nat), [SV.ro (3 : Nat) n (scriptF a), SV.ptr (0 : Nat) (0 : Nat), SV.sbool true, SV.int IntKind.i64 (↑i : Int)], [some (Body.log l)], [decide ((↑i : Int) < (↑n : Int)) = false, Fits IntKind.i64 (↑n : Int)]) := by kernel_rfl
theorem fi_most (a : Nat → Nat → Int) (n i : Nat) (l : List (List Int)) : runC g2 200 31 [.br true, .br false] fiBody (fiS a n i) [.log l] fiKeep [0] =
    some (Ex.exit (0 : Nat), [SV.ro (3 : Nat) n (scriptF a), SV.ptr (0 : Nat) (0 : Nat), SV.sbool true, SV.int IntKind.i64 (↑i : Int)], [some (Body.log l)], [decide ((↑i : Int) < (↑n : Int)) = true, Fits IntKind.i64 (↑n : Int), decide ((↑i : Int) < (2000 : Int)) = false]) := by kernel_rfl
/-! ### logs -/
abbrev loKeep : List Nat := [0, 3, 4]
noncomputable abbrev loBody : Code := bodyAt Try.prog 15 3
abbrev loS (a : Nat → Nat → Int) (n i : Nat) : List (Nat × SV) := loKeep.zip [.ro 3 n (scriptF a), .own 0, .int .i64 (i : Int)]
theorem lo_go1 (a : Nat → Nat → Int) (n i : Nat) (l : List (List Int)) : runC g2 200 31 [.br true, .br true, .br true] loBody (loS a n i) [.rows [.i64, .i64] l] loKeep [3] =
    some (Ex.normal, [SV.ro (3 : Nat) n (scriptF a), SV.own (0 : Nat), SV.int IntKind.i64 ((↑i : Int) + (1 : Int))], [some (Body.rows [IntKind.i64, IntKind.i64] (l ++ [[evKind (a i (0 : Nat)), evVal (a i (0 : Nat)) (a i (1 : Nat)) (decide (a (↑i : Int).toNat (2 : Nat) = (1 : Int)))]]))], [decide ((↑i : Int) < (↑n : Int)) = true, Fits IntKind.i64 (↑n : Int), decide ((↑i : Int) < (2000 : Int)) = true, (0 : Int) ≤ (↑i : Int) ∧ (↑i : Int) < (↑n : Int), isEv (a i (0 : Nat)) = true, (l ++ [[evKind (a i (0 : Nat)), evVal (a i (0 : Nat)) (a i (1 : Nat)) (decide (a (↑i : Int).toNat (2 : Nat) = (1 : Int)))]]).length * (16 : Nat) ≤ (140737488355328 : Nat), Fits IntKind.i64 ((↑i : Int) + (1 : Int))]) := by kernel_rfl
theorem lo_go0 (a : Nat → Nat → Int) (n i : Nat) (l : List (List Int)) : runC g2 200 31 [.br true, .br true, .br false] loBody (loS a n i) [.rows [.i64, .i64] l] loKeep [0] =
    some (Ex.normal, [SV.ro (3 : Nat) n (scriptF a), SV.own (0 : Nat), SV.int IntKind.i64 ((↑i : Int) + (1 : Int))], [some (Body.rows [IntKind.i64, IntKind.i64] l)], [decide ((↑i : Int) < (↑n : Int)) = true, Fits IntKind.i64 (↑n : Int), decide ((↑i : Int) < (2000 : Int)) = true, (0 : Int) ≤ (↑i : Int) ∧ (↑i : Int) < (↑n : Int), isEv (a i (0 : Nat)) = false, Fits IntKind.i64 ((↑i : Int) + (1 : Int))]) := by kernel_rfl
theorem lo_end (a : Nat → Nat → Int) (n i : Nat) (l : List (List Int)) : runC g2 200 31 [.br false] loBody (loS a n i) [.rows [.i64, .i64] l] loKeep [0] =
    some (Ex.exit (0 : Nat), [SV.ro (3 : Nat) n (scriptF a), SV.own (0 : Nat), SV.int IntKind.i64 (↑i : Int)], [some (Body.rows [IntKind.i64, IntKind.i64] l)], [decide ((↑i : Int) < (↑n : Int)) = false, Fits IntKind.i64 (↑n : Int)]) := by kernel_rfl
theorem lo_most (a : Nat → Nat → Int) (n i : Nat) (l : List (List Int)) : runC g2 200 31 [.br true, .br false] loBody (loS a n i) [.rows [.i64, .i64] l] loKeep [0] =
    some (Ex.exit (0 : Nat), [SV.ro (3 : Nat) n (scriptF a), SV.own (0 : Nat), SV.int IntKind.i64 (↑i : Int)], [some (Body.rows [IntKind.i64, IntKind.i64] l)], [decide ((↑i : Int) < (↑n : Int)) = true, Fits IntKind.i64 (↑n : Int), decide ((↑i : Int) < (2000 : Int)) = false]) := by kernel_rfl
theorem fits_i {n i : Nat} (h : Fits .i64 (n : Int)) (hi : i < n) : Fits .i64 ((i : Int) + 1) := by
  have := fits_int h
  simp [Fits, IntKind.min, IntKind.max, IntKind.signed, IntKind.bits]; omega
theorem one_id : ∀ j : Nat, j < 1 → ([0] : List Nat)[j]? = some j := fun j hj => by
  match j, hj with
  | 0, _ => rfl
def fiG : LoopF := fun vals B => match vals, B with
  | [.ro 3 n f, .ptr 0 0, .sbool true, .int .i64 0], [.log []] => some ([(4, .ptr 0 0), (5, .sbool true)], [.log (evs (aOf f) (min n 2000))], [f = scriptF (aOf f), Fits .i64 (n : Int)])
  | _, _ => none
theorem fi_loop : LoopGood g2 31 (.loop fiBody) fiKeep 1 (.exit 0) (mkLoopN fiG) := by
  refine LoopGood.mkN (by decide) fun vals B S' B' C hG hC hlen w0 O hgl => ?_
  clear hlen
  unfold fiG at hG
  split at hG
  · rename_i n f
    simp only [Option.some.injEq, Prod.mk.injEq] at hG
    obtain ⟨rfl, rfl, rfl⟩ := hG
    simp only [allC_cons, allC_nil, and_true] at hC
    obtain ⟨hf, hn⟩ := hC
    generalize aOf f = a at hf ⊢
    subst hf
    refine SimC.iter (g := g2) (S := fiS a n) (B := fun i => [.log (evs a i)]) (N := min n 2000) (fun i hi => ?_) ?_ (by simp) 0 (by omega)
    · have h1 : i < n := by omega
      have h2 : i < 2000 := by omega
      have hl := evs_len a i
      refine SimC.run (B' := [.log (evs a (i + 1))]) g2_ok (by decide) (fi_go a n i (evs a i)) ?_ (by simp) one_id (by decide) (by simp) hgl
      simp only [allC_cons, allC_nil, and_true]
      exact ⟨decide_eq_true (by omega), hn, decide_eq_true (by omega), by omega, ⟨by omega, by omega⟩, fits_i hn h1⟩
    · by_cases h : n ≤ 2000
      · rw [Nat.min_eq_left h]
        refine SimC.weaken (SimC.run (B' := [.log (evs a n)]) g2_ok (by decide) (fi_end a n n (evs a n)) ?_ (by simp) one_id (by decide) (by simp) hgl) (sub_mkT (by simp; exact ⟨rfl, rfl⟩))
        simp only [allC_cons, allC_nil, and_true]
        exact ⟨decide_eq_false (by omega), hn⟩
      · rw [Nat.min_eq_right (by omega)]
        refine SimC.weaken (SimC.run (B' := [.log (evs a 2000)]) g2_ok (by decide) (fi_most a n 2000 (evs a 2000)) ?_ (by simp) one_id (by decide) (by simp) hgl) (sub_mkT (by simp; exact ⟨rfl, rfl⟩))
        simp only [allC_cons, allC_nil, and_true]
        exact ⟨decide_eq_true (by omega), hn, decide_eq_false (by decide)⟩
  · simp at hG

def loG : LoopF := fun vals B => match vals, B with
  | [.ro 3 n f, .raw (.slice none 0 0), .int .i64 0], [] => some ([(3, .own 0)], [.rows [.i64, .i64] (evs (aOf f) (min n 2000))], [f = scriptF (aOf f), Fits .i64 (n : Int)])
  | _, _ => none
theorem lo_loop : LoopGood g2 31 (.loop loBody) loKeep 0 (.exit 0) (mkLoopN loG) := by
  refine LoopGood.mkN (by decide) fun vals B S' B' C hG hC hlen w0 O hgl => ?_
  clear hlen
  unfold loG at hG
  split at hG
  · rename_i n f
    simp only [Option.some.injEq, Prod.mk.injEq] at hG
    obtain ⟨rfl, rfl, rfl⟩ := hG
    simp only [allC_cons, allC_nil, and_true] at hC
    obtain ⟨hf, hn⟩ := hC
    generalize aOf f = a at hf ⊢
    subst hf
    refine SimC.adoptS (.rows [.i64, .i64] []) 3 rfl rfl (by simp) (by simp) ?_
    refine SimC.iter (g := g2) (S := loS a n) (B := fun i => [.rows [.i64, .i64] (evs a i)]) (N := min n 2000) (fun i hi => ?_) ?_ (by simp) 0 (by omega)
    · have h1 : i < n := by omega
      have h2 : i < 2000 := by omega
      have hl := evs_len a i
      by_cases he : isEv (a i 0) = true
      · have e : evs a (i + 1) = evs a i ++ [[evKind (a i 0), evVal (a i 0) (a i 1) (decide (a i 2 = 1))]] := by simp only [evs, evAt, stepL, if_pos he]
        refine SimC.run (B' := [.rows [.i64, .i64] (evs a (i + 1))]) g2_ok (by decide) (by rw [e]; exact lo_go1 a n i (evs a i)) ?_ (by simp) (fun j hj => absurd hj (by omega)) (by decide) (by simp) hgl
        simp only [allC_cons, allC_nil, and_true]
        exact ⟨decide_eq_true (by omega), hn, decide_eq_true (by omega), ⟨by omega, by omega⟩, he, by simp; omega, fits_i hn h1⟩
      · have e : evs a (i + 1) = evs a i := by simp only [evs, evAt, stepL, if_neg he, List.append_nil]
        refine SimC.run (B' := [.rows [.i64, .i64] (evs a (i + 1))]) g2_ok (by decide) (by rw [e]; exact lo_go0 a n i (evs a i)) ?_ (by simp) (fun j hj => absurd hj (by omega)) (by decide) (by simp) hgl
        simp only [allC_cons, allC_nil, and_true]
        exact ⟨decide_eq_true (by omega), hn, decide_eq_true (by omega), ⟨by omega, by omega⟩, by simpa using he, fits_i hn h1⟩
    · by_cases h : n ≤ 2000
      · rw [Nat.min_eq_left h]
        refine SimC.weaken (SimC.run (B' := [.rows [.i64, .i64] (evs a n)]) g2_ok (by decide) (lo_end a n n (evs a n)) ?_ (by simp) (fun j hj => absurd hj (by omega)) (by decide) (by simp) hgl) (sub_mkT (by simp; rfl))
        simp only [allC_cons, allC_nil, and_true]
        exact ⟨decide_eq_false (by omega), hn⟩
      · rw [Nat.min_eq_right (by omega)]
        refine SimC.weaken (SimC.run (B' := [.rows [.i64, .i64] (evs a 2000)]) g2_ok (by decide) (lo_most a n 2000 (evs a 2000)) ?_ (by simp) (fun j hj => absurd hj (by omega)) (by decide) (by simp) hgl) (sub_mkT (by simp; rfl))
        simp only [allC_cons, allC_nil, and_true]
        exact ⟨decide_eq_true (by omega), hn, decide_eq_false (by decide)⟩
  · simp at hG
end Go.Proofs.Ytkpkdingeomhnaa

namespace Go.Proofs.Ytkpkdingeomhnaa
open Go Go.Vx
theorem filled_run (n : Nat) (f : Nat → SV) : runF g2 200 [.loop 4 fiKeep 1 (.exit 0) (mkLoopN fiG)] 14 [.ro 3 n f] [] [0] =
    some (SV.tuple [SV.ptr (0 : Nat) (0 : Nat), SV.sbool true], [some (Body.log (evs (aOf f) (min n (2000 : Nat))))], [LoopGood g2 31 (.loop fiBody) fiKeep 1 (.exit 0) (mkLoopN fiG), f = scriptF (aOf f), Fits IntKind.i64 (↑n : Int)]) := by kernel_rfl
theorem logs_run (n : Nat) (f : Nat → SV) : runF g2 200 [.loop 3 loKeep 0 (.exit 0) (mkLoopN loG)] 15 [.ro 3 n f] [] [0] =
    some (SV.own (0 : Nat), [some (Body.rows [IntKind.i64, IntKind.i64] (evs (aOf f) (min n (2000 : Nat))))], [LoopGood g2 31 (.loop loBody) loKeep 0 (.exit 0) (mkLoopN loG), f = scriptF (aOf f), Fits IntKind.i64 (↑n : Int)]) := by kernel_rfl
/-! ### the document's Runs -/
abbrev rrKeep : List Nat := [0, 3, 4]
noncomputable abbrev rrBody : Code := bodyAt Try.prog 33 3
abbrev rrS (i : Nat) : List (Nat × SV) := rrKeep.zip [.own 0, .own 1, .int .i64 (i : Int)]
theorem rr_0 (i : Nat) (l o : List (List Int)) : runC g2 300 67 [.br true, .br false] rrBody (rrS i) [.rows [.i64, .i64] l, .rows [.i64, .i64, .i64] o] rrKeep [0, 3] =
    some (Ex.normal, [SV.own (0 : Nat), SV.own (1 : Nat), SV.int IntKind.i64 ((↑i : Int) + (1 : Int))], [some (Body.rows [IntKind.i64, IntKind.i64] l), some (Body.rows [IntKind.i64, IntKind.i64, IntKind.i64] (o ++ [[(l.getD i []).getD (0 : Nat) (0 : Int), (l.getD i []).getD (1 : Nat) (0 : Int), (1 : Int)]]))], [Fits IntKind.i64 (↑l.length : Int), decide ((↑i : Int) < (↑l.length : Int)) = true, Fits IntKind.i64 (↑o.length : Int), decide ((0 : Int) < (↑o.length : Int)) = false, (o ++ [[(l.getD i []).getD (0 : Nat) (0 : Int), (l.getD i []).getD (1 : Nat) (0 : Int), (1 : Int)]]).length * (24 : Nat) ≤ (140737488355328 : Nat), i < l.length, i < l.length, (0 : Int) ≤ (↑i : Int) ∧ (↑i : Int) < (↑(ecount (Body.rows [IntKind.i64, IntKind.i64] l)) : Int), Fits IntKind.i64 ((↑i : Int) + (1 : Int))]) := by kernel_rfl
theorem rr_1 (i : Nat) (l o : List (List Int)) : runC g2 300 67 [.br true, .br true, .br false] rrBody (rrS i) [.rows [.i64, .i64] l, .rows [.i64, .i64, .i64] o] rrKeep [0, 3] =
    some (Ex.normal, [SV.own (0 : Nat), SV.own (1 : Nat), SV.int IntKind.i64 ((↑i : Int) + (1 : Int))], [some (Body.rows [IntKind.i64, IntKind.i64] l), some (Body.rows [IntKind.i64, IntKind.i64, IntKind.i64] (o ++ [[(l.getD i []).getD (0 : Nat) (0 : Int), (l.getD i []).getD (1 : Nat) (0 : Int), (1 : Int)]]))], [Fits IntKind.i64 (↑l.length : Int), decide ((↑i : Int) < (↑l.length : Int)) = true, Fits IntKind.i64 (↑o.length : Int), decide ((o.getD ((↑o.length : Int) - (1 : Int)).toNat []).getD ((0 : Nat) + (0 : Nat) + (0 : Nat) + (0 : Nat)) (0 : Int) = (l.getD (↑i : Int).toNat []).getD ((0 : Nat) + (0 : Nat) + (0 : Nat)) (0 : Int)) = false, i < l.length, (0 : Int) ≤ (↑i : Int) ∧ (↑i : Int) < (↑(ecount (Body.rows [IntKind.i64, IntKind.i64] l)) : Int), ((↑o.length : Int) - (1 : Int)).toNat < o.length, (0 : Int) ≤ (↑o.length : Int) - (1 : Int) ∧ (↑o.length : Int) - (1 : Int) < (↑(ecount (Body.rows [IntKind.i64, IntKind.i64, IntKind.i64] o)) : Int), Fits IntKind.i64 ((↑o.length : Int) - (1 : Int)), decide ((0 : Int) < (↑o.length : Int)) = true, (o ++ [[(l.getD i []).getD (0 : Nat) (0 : Int), (l.getD i []).getD (1 : Nat) (0 : Int), (1 : Int)]]).length * (24 : Nat) ≤ (140737488355328 : Nat), i < l.length, i < l.length, (0 : Int) ≤ (↑i : Int) ∧ (↑i : Int) < (↑(ecount (Body.rows [IntKind.i64, IntKind.i64] l)) : Int), Fits IntKind.i64 ((↑i : Int) + (1 : Int))]) := by kernel_rfl
theorem rr_2 (i : Nat) (l o : List (List Int)) : runC g2 300 67 [.br true, .br true, .br true, .br false] rrBody (rrS i) [.rows [.i64, .i64] l, .rows [.i64, .i64, .i64] o] rrKeep [0, 3] =
    some (Ex.normal, [SV.own (0 : Nat), SV.own (1 : Nat), SV.int IntKind.i64 ((↑i : Int) + (1 : Int))], [some (Body.rows [IntKind.i64, IntKind.i64] l), some (Body.rows [IntKind.i64, IntKind.i64, IntKind.i64] (o ++ [[(l.getD i []).getD (0 : Nat) (0 : Int), (l.getD i []).getD (1 : Nat) (0 : Int), (1 : Int)]]))], [Fits IntKind.i64 (↑l.length : Int), decide ((↑i : Int) < (↑l.length : Int)) = true, Fits IntKind.i64 (↑o.length : Int), i < l.length, (0 : Int) ≤ (↑i : Int) ∧ (↑i : Int) < (↑(ecount (Body.rows [IntKind.i64, IntKind.i64] l)) : Int), ((↑o.length : Int) - (1 : Int)).toNat < o.length, (0 : Int) ≤ (↑o.length : Int) - (1 : Int) ∧ (↑o.length : Int) - (1 : Int) < (↑(ecount (Body.rows [IntKind.i64, IntKind.i64, IntKind.i64] o)) : Int), Fits IntKind.i64 ((↑o.length : Int) - (1 : Int)), decide ((o.getD ((↑o.length : Int) - (1 : Int)).toNat []).getD ((0 : Nat) + (0 : Nat) + (0 : Nat) + (0 : Nat)) (0 : Int) = (l.getD (↑i : Int).toNat []).getD ((0 : Nat) + (0 : Nat) + (0 : Nat)) (0 : Int)) = true, i < l.length, (0 : Int) ≤ (↑i : Int) ∧ (↑i : Int) < (↑(ecount (Body.rows [IntKind.i64, IntKind.i64] l)) : Int), ((↑o.length : Int) - (1 : Int)).toNat < o.length, (0 : Int) ≤ (↑o.length : Int) - (1 : Int) ∧ (↑o.length : Int) - (1 : Int) < (↑(ecount (Body.rows [IntKind.i64, IntKind.i64, IntKind.i64] o)) : Int), Fits IntKind.i64 ((↑o.length : Int) - (1 : Int)), decide ((0 : Int) < (↑o.length : Int)) = true, decide ((o.getD ((↑o.length : Int) - (1 : Int)).toNat []).getD ((0 : Nat) + (0 : Nat) + (1 : Nat) + (0 : Nat)) (0 : Int) = (l.getD (↑i : Int).toNat []).getD ((0 : Nat) + (1 : Nat) + (0 : Nat)) (0 : Int)) = false, (o ++ [[(l.getD i []).getD (0 : Nat) (0 : Int), (l.getD i []).getD (1 : Nat) (0 : Int), (1 : Int)]]).length * (24 : Nat) ≤ (140737488355328 : Nat), i < l.length, i < l.length, (0 : Int) ≤ (↑i : Int) ∧ (↑i : Int) < (↑(ecount (Body.rows [IntKind.i64, IntKind.i64] l)) : Int), Fits IntKind.i64 ((↑i : Int) + (1 : Int))]) := by kernel_rfl
theorem rr_3 (i : Nat) (l o : List (List Int)) : runC g2 300 67 [.br true, .br true, .br true, .br true] rrBody (rrS i) [.rows [.i64, .i64] l, .rows [.i64, .i64, .i64] o] rrKeep [0, 1] =
    some (Ex.normal, [SV.own (0 : Nat), SV.own (1 : Nat), SV.int IntKind.i64 ((↑i : Int) + (1 : Int))], [some (Body.rows [IntKind.i64, IntKind.i64] l), some (Body.rows [IntKind.i64, IntKind.i64, IntKind.i64] (o.set ((↑o.length : Int) - (1 : Int)).toNat ((o.getD ((↑o.length : Int) - (1 : Int)).toNat []).set (2 : Nat) ((o.getD ((↑o.length : Int) - (1 : Int)).toNat []).getD (2 : Nat) (0 : Int) + (1 : Int)))))], [Fits IntKind.i64 (↑l.length : Int), decide ((↑i : Int) < (↑l.length : Int)) = true, Fits IntKind.i64 (↑o.length : Int), i < l.length, (0 : Int) ≤ (↑i : Int) ∧ (↑i : Int) < (↑(ecount (Body.rows [IntKind.i64, IntKind.i64] l)) : Int), ((↑o.length : Int) - (1 : Int)).toNat < o.length, (0 : Int) ≤ (↑o.length : Int) - (1 : Int) ∧ (↑o.length : Int) - (1 : Int) < (↑(ecount (Body.rows [IntKind.i64, IntKind.i64, IntKind.i64] o)) : Int), Fits IntKind.i64 ((↑o.length : Int) - (1 : Int)), decide ((o.getD ((↑o.length : Int) - (1 : Int)).toNat []).getD ((0 : Nat) + (0 : Nat) + (0 : Nat) + (0 : Nat)) (0 : Int) = (l.getD (↑i : Int).toNat []).getD ((0 : Nat) + (0 : Nat) + (0 : Nat)) (0 : Int)) = true, i < l.length, (0 : Int) ≤ (↑i : Int) ∧ (↑i : Int) < (↑(ecount (Body.rows [IntKind.i64, IntKind.i64] l)) : Int), ((↑o.length : Int) - (1 : Int)).toNat < o.length, (0 : Int) ≤ (↑o.length : Int) - (1 : Int) ∧ (↑o.length : Int) - (1 : Int) < (↑(ecount (Body.rows [IntKind.i64, IntKind.i64, IntKind.i64] o)) : Int), Fits IntKind.i64 ((↑o.length : Int) - (1 : Int)), decide ((0 : Int) < (↑o.length : Int)) = true, decide ((o.getD ((↑o.length : Int) - (1 : Int)).toNat []).getD ((0 : Nat) + (0 : Nat) + (1 : Nat) + (0 : Nat)) (0 : Int) = (l.getD (↑i : Int).toNat []).getD ((0 : Nat) + (1 : Nat) + (0 : Nat)) (0 : Int)) = true, ((↑o.length : Int) - (1 : Int)).toNat < o.length, (0 : Int) ≤ (↑o.length : Int) - (1 : Int) ∧ (↑o.length : Int) - (1 : Int) < (↑(ecount (Body.rows [IntKind.i64, IntKind.i64, IntKind.i64] o)) : Int), Fits IntKind.i64 ((o.getD ((↑o.length : Int) - (1 : Int)).toNat []).getD (2 : Nat) (0 : Int) + (1 : Int)), ((↑o.length : Int) - (1 : Int)).toNat < o.length, (0 : Int) ≤ (↑o.length : Int) - (1 : Int) ∧ (↑o.length : Int) - (1 : Int) < (↑(ecount (Body.rows [IntKind.i64, IntKind.i64, IntKind.i64] o)) : Int), Fits IntKind.i64 ((↑o.length : Int) - (1 : Int)), Fits IntKind.i64 ((↑o.length : Int) - (1 : Int)), Fits IntKind.i64 ((↑i : Int) + (1 : Int))]) := by kernel_rfl
theorem rr_end (i : Nat) (l o : List (List Int)) : runC g2 300 67 [.br false] rrBody (rrS i) [.rows [.i64, .i64] l, .rows [.i64, .i64, .i64] o] rrKeep [0, 1] =
    some (Ex.exit (0 : Nat), [SV.own (0 : Nat), SV.own (1 : Nat), SV.int IntKind.i64 (↑i : Int)], [some (Body.rows [IntKind.i64, IntKind.i64] l), some (Body.rows [IntKind.i64, IntKind.i64, IntKind.i64] o)], [Fits IntKind.i64 (↑l.length : Int), decide ((↑i : Int) < (↑l.length : Int)) = false]) := by kernel_rfl
def lastR (o : List (List Int)) : List Int := o.getD (o.length - 1) []
def runStep (o : List (List Int)) (a b : Int) : List (List Int) :=
  if 0 < o.length ∧ (lastR o).getD 0 0 = a ∧ (lastR o).getD 1 0 = b then o.set (o.length - 1) ((lastR o).set 2 ((lastR o).getD 2 0 + 1)) else o ++ [[a, b, 1]]
def runsN (l : List (List Int)) : Nat → List (List Int)
  | 0 => []
  | n + 1 => runStep (runsN l n) ((l.getD n []).getD 0 0) ((l.getD n []).getD 1 0)
def runsL (l : List (List Int)) : List (List Int) := runsN l l.length
/-- rows of runs of n events -/
structure RunsOk (o : List (List Int)) (n : Nat) : Prop where
  len : o.length ≤ n
  row : ∀ r ∈ o, r.length = 3
  pos : ∀ r ∈ o, 1 ≤ r.getD 2 0 ∧ r.getD 2 0 ≤ n
theorem runStep_ok {o : List (List Int)} {n : Nat} (h : RunsOk o n) (a b : Int) : RunsOk (runStep o a b) (n + 1) := by
  unfold runStep
  split
  · rename_i hc
    have hm : lastR o ∈ o := by
      unfold lastR
      rw [List.getD_eq_getElem?_getD, List.getElem?_eq_getElem (show o.length - 1 < o.length by omega)]
      exact List.getElem_mem _
    have h3 := h.row _ hm
    have hp := h.pos _ hm
    have key : ∀ r ∈ o.set (o.length - 1) ((lastR o).set 2 ((lastR o).getD 2 0 + 1)), r.length = 3 ∧ 1 ≤ r.getD 2 0 ∧ r.getD 2 0 ≤ (n + 1 : Nat) := fun r hr => by
      rcases List.mem_or_eq_of_mem_set hr with hr | hr
      · have := h.pos r hr
        exact ⟨h.row r hr, this.1, by omega⟩
      · subst hr
        have e : ((lastR o).set 2 ((lastR o).getD 2 0 + 1)).getD 2 0 = (lastR o).getD 2 0 + 1 := by
          rw [List.getD_eq_getElem?_getD, List.getElem?_set_self (by omega)]; rfl
        rw [e]
        exact ⟨by simp [h3], by omega, by omega⟩
    exact ⟨by have := h.len; simp; omega, fun r hr => (key r hr).1, fun r hr => (key r hr).2⟩
  · refine ⟨by have := h.len; simp; omega, fun r hr => ?_, fun r hr => ?_⟩
    · rcases List.mem_append.1 hr with hr | hr
      · exact h.row r hr
      · simp at hr; subst hr; rfl
    · rcases List.mem_append.1 hr with hr | hr
      · have := h.pos r hr; exact ⟨this.1, by omega⟩
      · simp at hr; subst hr; simp; omega
theorem runsN_ok (l : List (List Int)) : ∀ n, RunsOk (runsN l n) n
  | 0 => ⟨by simp [runsN], by simp [runsN], by simp [runsN]⟩
  | n + 1 => runStep_ok (runsN_ok l n) _ _

def rrG : LoopF := fun vals B => match vals, B with
  | [.own 0, .raw (.slice none 0 0), .int .i64 0], [.rows K l] => match sameKs K [.i64, .i64] with
    | true => some ([(3, .own 1)], [.rows [.i64, .i64] l, .rows [.i64, .i64, .i64] (runsL l)], [l.length * 24 ≤ 140737488355328])
    | false => none
  | _, _ => none
theorem two_id : ∀ j : Nat, j < 1 → ∀ k, ([0, k] : List Nat)[j]? = some j := fun j hj k => by
  match j, hj with
  | 0, _ => rfl
set_option maxHeartbeats 1000000 in
theorem rr_step {l : List (List Int)} (hl : l.length * 24 ≤ 140737488355328) {i : Nat} (hi : i < l.length) {w0 : World} {O : Vx.Own} (hG : GlobOk g2 w0 O) :
    SimC g2.P w0 O 67 rrBody (rrS i) [.rows [.i64, .i64] l, .rows [.i64, .i64, .i64] (runsN l i)] .normal (rrS (i + 1)) [.rows [.i64, .i64] l, .rows [.i64, .i64, .i64] (runsN l (i + 1))] 1 := by
  have ok := runsN_ok l i
  have e1 : runsN l (i + 1) = runStep (runsN l i) ((l.getD i []).getD 0 0) ((l.getD i []).getD 1 0) := rfl
  generalize runsN l i = o at ok e1 ⊢
  have hlen := ok.len
  have F1 : Fits .i64 (l.length : Int) := fits_small (by omega)
  have F2 : Fits .i64 (o.length : Int) := fits_small (by omega)
  have F4 := fits_i F1 hi
  by_cases h0 : 0 < o.length
  · have hq : ((o.length : Int) - 1).toNat = o.length - 1 := by omega
    have F3 : Fits .i64 ((o.length : Int) - 1) := fits_of (by omega) (by omega)
    have hm : lastR o ∈ o := by
      unfold lastR
      rw [List.getD_eq_getElem?_getD, List.getElem?_eq_getElem (show o.length - 1 < o.length by omega)]
      exact List.getElem_mem _
    have hp := ok.pos _ hm
    have F5 : Fits .i64 ((lastR o).getD 2 0 + 1) := fits_of (by omega) (by omega)
    by_cases c0 : (lastR o).getD 0 0 = (l.getD i []).getD 0 0
    · have hk0 := decide_eq_true c0
      by_cases c1 : (lastR o).getD 1 0 = (l.getD i []).getD 1 0
      · have hk1 := decide_eq_true c1
        have e2 : runsN l (i + 1) = o.set (o.length - 1) ((lastR o).set 2 ((lastR o).getD 2 0 + 1)) := by rw [e1]; unfold runStep; rw [if_pos ⟨h0, c0, c1⟩]
        rw [e2]
        refine SimC.run (B' := [.rows [.i64, .i64] l, .rows [.i64, .i64, .i64] (o.set (o.length - 1) ((lastR o).set 2 ((lastR o).getD 2 0 + 1)))]) g2_ok (by decide) (by have := rr_3 i l o; rw [hq] at this; exact this) ?_ (by simp) (fun j hj => two_id j hj 1) (by decide) (by simp) hG
        simp only [allC_cons, allC_nil, and_true]
        (repeat' (first | exact F1 | exact F2 | exact F3 | exact F4 | exact F5 | exact hk0 | exact hk1 | exact decide_eq_true (by omega) | exact decide_eq_false (by omega) | omega | (show _ < (l.length : Int); omega) | (show _ < (o.length : Int); omega) | (simp only [List.length_append, List.length_cons, List.length_nil]; omega) | refine And.intro ?_ ?_))
      · have hk1 := decide_eq_false c1
        have e2 : runsN l (i + 1) = o ++ [[(l.getD i []).getD 0 0, (l.getD i []).getD 1 0, 1]] := by rw [e1]; unfold runStep; rw [if_neg fun h => c1 h.2.2]
        rw [e2]
        refine SimC.run (B' := [.rows [.i64, .i64] l, .rows [.i64, .i64, .i64] (o ++ [[(l.getD i []).getD 0 0, (l.getD i []).getD 1 0, 1]])]) g2_ok (by decide) (by have := rr_2 i l o; rw [hq] at this; exact this) ?_ (by simp) (fun j hj => two_id j hj 3) (by decide) (by simp) hG
        simp only [allC_cons, allC_nil, and_true]
        (repeat' (first | exact F1 | exact F2 | exact F3 | exact F4 | exact F5 | exact hk0 | exact hk1 | exact decide_eq_true (by omega) | exact decide_eq_false (by omega) | omega | (show _ < (l.length : Int); omega) | (show _ < (o.length : Int); omega) | (simp only [List.length_append, List.length_cons, List.length_nil]; omega) | refine And.intro ?_ ?_))
    · have hk0 := decide_eq_false c0
      have hk1 := hk0
      have e2 : runsN l (i + 1) = o ++ [[(l.getD i []).getD 0 0, (l.getD i []).getD 1 0, 1]] := by rw [e1]; unfold runStep; rw [if_neg fun h => c0 h.2.1]
      rw [e2]
      refine SimC.run (B' := [.rows [.i64, .i64] l, .rows [.i64, .i64, .i64] (o ++ [[(l.getD i []).getD 0 0, (l.getD i []).getD 1 0, 1]])]) g2_ok (by decide) (by have := rr_1 i l o; rw [hq] at this; exact this) ?_ (by simp) (fun j hj => two_id j hj 3) (by decide) (by simp) hG
      simp only [allC_cons, allC_nil, and_true]
      (repeat' (first | exact F1 | exact F2 | exact F3 | exact F4 | exact F5 | exact hk0 | exact hk1 | exact decide_eq_true (by omega) | exact decide_eq_false (by omega) | omega | (show _ < (l.length : Int); omega) | (show _ < (o.length : Int); omega) | (simp only [List.length_append, List.length_cons, List.length_nil]; omega) | refine And.intro ?_ ?_))
  · have F3 := F1
    have F5 := F1
    have hk0 := F1
    have hk1 := F1
    have e2 : runsN l (i + 1) = o ++ [[(l.getD i []).getD 0 0, (l.getD i []).getD 1 0, 1]] := by rw [e1]; unfold runStep; rw [if_neg fun h => h0 h.1]
    rw [e2]
    refine SimC.run (B' := [.rows [.i64, .i64] l, .rows [.i64, .i64, .i64] (o ++ [[(l.getD i []).getD 0 0, (l.getD i []).getD 1 0, 1]])]) g2_ok (by decide) (rr_0 i l o) ?_ (by simp) (fun j hj => two_id j hj 3) (by decide) (by simp) hG
    simp only [allC_cons, allC_nil, and_true]
    (repeat' (first | exact F1 | exact F2 | exact F3 | exact F4 | exact F5 | exact hk0 | exact hk1 | exact decide_eq_true (by omega) | exact decide_eq_false (by omega) | omega | (show _ < (l.length : Int); omega) | (show _ < (o.length : Int); omega) | (simp only [List.length_append, List.length_cons, List.length_nil]; omega) | refine And.intro ?_ ?_))
theorem rr_loop : LoopGood g2 67 (.loop rrBody) rrKeep 1 (.exit 0) (mkLoopN rrG) := by
  refine LoopGood.mkN (by decide) fun vals B S' B' C hG hC hlen w0 O hgl => ?_
  clear hlen
  unfold rrG at hG
  split at hG
  · rename_i K l
    split at hG
    · rename_i hK
      obtain rfl := sameKs_eq hK
      simp only [Option.some.injEq, Prod.mk.injEq] at hG
      obtain ⟨rfl, rfl, rfl⟩ := hG
      have hl : l.length * 24 ≤ 140737488355328 := hC _ (by simp)
      refine SimC.adoptS (.rows [.i64, .i64, .i64] []) 3 rfl rfl (by simp) (by simp) ?_
      refine SimC.iter (g := g2) (S := rrS) (B := fun i => [.rows [.i64, .i64] l, .rows [.i64, .i64, .i64] (runsN l i)]) (N := l.length) (fun i hi => rr_step hl hi hgl) ?_ (by simp) 0 (by omega)
      refine SimC.weaken (SimC.run (B' := [.rows [.i64, .i64] l, .rows [.i64, .i64, .i64] (runsN l l.length)]) g2_ok (by decide) (rr_end l.length l _) ?_ (by simp) (fun j hj => two_id j hj 1) (by decide) (by simp) hgl) (sub_mkT (by simp; rfl))
      simp only [allC_cons, allC_nil, and_true]
      exact ⟨fits_small (by omega), decide_eq_false (by omega)⟩
    · simp at hG
  · simp at hG
end Go.Proofs.Ytkpkdingeomhnaa
