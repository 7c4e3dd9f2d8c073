/- Accounts of this seat's functions: lemmas, no statement of their own. No conditions. -/
import Derived.Test.YtjkenobomlbdcaaTC
namespace Go.Proofs.Ytjkenobomlbdcaa
open Go Go.Vx
/-! ### what logs -/
def binF (op : Int) (f : List Int → List Int → Nat → Int) : SumF := fun args B => match args, B with
  | [.raw (.pointer none), .agg xs, .agg ys], [] => match numsAs (List.replicate 5 .u64) xs, numsAs (List.replicate 5 .u64) ys with
    | some la, some lb => some { val := .agg (svF (List.replicate 5 .u64) (f la lb) 0) }
    | _, _ => none
  | [.ptr 0 0, .agg xs, .agg ys], [.log l] => match numsAs (List.replicate 5 .u64) xs, numsAs (List.replicate 5 .u64) ys with
    | some la, some lb => some { val := .agg (svF (List.replicate 5 .u64) (f la lb) 0), upd := [(0, some (.log (l ++ [[3, op]])))], C := [l.length < 1099511627776] }
    | _, _ => none
  | _, _ => none
theorem bin_ok {g : Ctx} (hU : CtxU g) {op : Int} {f : List Int → List Int → Nat → Int} {fn : FuncId}
    (hrun : ∀ la lb : List Int, ∃ m, runF g m [] fn [.raw (.pointer none), .agg (svF (List.replicate 5 .u64) (atL la) 0), .agg (svF (List.replicate 5 .u64) (atL lb) 0)] [] [] = some (.agg (svF (List.replicate 5 .u64) (f la lb) 0), [], []))
    (hlog : ∀ (la lb : List Int) (l : List (List Int)), ∃ m, runF g m [] fn [.ptr 0 0, .agg (svF (List.replicate 5 .u64) (atL la) 0), .agg (svF (List.replicate 5 .u64) (atL lb) 0)] [.log l] [] = some (.agg (svF (List.replicate 5 .u64) (f la lb) 0), [some (.log (l ++ [[3, op]]))], [l.length < 1099511627776])) : Acc g fn (binF op f) := by
  intro args B out h hC
  unfold binF at h
  split at h
  · split at h
    · rename_i la lb ha hb
      simp only [Option.some.injEq] at h; subst h
      obtain ⟨m, hm⟩ := hrun la lb
      exact FnOk.imp (FnOk.pure hU hm (by simp [AllC])) ⟨DenImp.refl _, nums_imp ha, nums_imp hb, trivial⟩
    · simp at h
  · split at h
    · rename_i l _ _ la lb ha hb
      simp only [Option.some.injEq] at h; subst h
      obtain ⟨m, hm⟩ := hlog la lb l
      exact FnOk.imp (FnOk.run (out := { val := .agg (svF (List.replicate 5 .u64) (f la lb) 0), upd := [(0, some (.log (l ++ [[3, op]])))], C := [l.length < 1099511627776] }) hU hm hC (by simp [upto]) rfl (by simp) (by simp) (fun j hj => by
        match j, hj with
        | 0, _ => rfl)) ⟨DenImp.refl _, nums_imp ha, nums_imp hb, trivial⟩
    · simp at h
  · simp at h
def unF (op : Int) (f : List Int → Nat → Int) (D : List Prop) : SumF := fun args B => match args, B with
  | [.raw (.pointer none), .agg xs], [] => match numsAs (List.replicate 5 .u64) xs with
    | some la => some { val := .agg (svF (List.replicate 5 .u64) (f la) 0), C := D }
    | _ => none
  | [.ptr 0 0, .agg xs], [.log l] => match numsAs (List.replicate 5 .u64) xs with
    | some la => some { val := .agg (svF (List.replicate 5 .u64) (f la) 0), upd := [(0, some (.log (l ++ [[3, op]])))], C := (l.length < 1099511627776) :: D }
    | _ => none
  | _, _ => none
theorem un_ok {g : Ctx} (hU : CtxU g) {op : Int} {f : List Int → Nat → Int} {fn : FuncId} {D : List Prop} (hD : AllC D) {pl : List Plan}
    (hrun : ∀ la : List Int, ∃ m, runF g m pl fn [.raw (.pointer none), .agg (svF (List.replicate 5 .u64) (atL la) 0)] [] [] = some (.agg (svF (List.replicate 5 .u64) (f la) 0), [], D))
    (hlog : ∀ (la : List Int) (l : List (List Int)), ∃ m, runF g m pl fn [.ptr 0 0, .agg (svF (List.replicate 5 .u64) (atL la) 0)] [.log l] [] = some (.agg (svF (List.replicate 5 .u64) (f la) 0), [some (.log (l ++ [[3, op]]))], (l.length < 1099511627776) :: D)) : Acc g fn (unF op f []) := by
  intro args B out h hC
  unfold unF at h
  split at h
  · split at h
    · rename_i la ha
      simp only [Option.some.injEq] at h; subst h
      obtain ⟨m, hm⟩ := hrun la
      exact FnOk.imp (FnOk.pure hU hm hD) ⟨DenImp.refl _, nums_imp ha, trivial⟩
    · simp at h
  · split at h
    · rename_i l _ la ha
      simp only [Option.some.injEq] at h; subst h
      obtain ⟨m, hm⟩ := hlog la l
      simp only [allC_cons, allC_nil, and_true] at hC
      exact FnOk.imp (FnOk.run (out := { val := .agg (svF (List.replicate 5 .u64) (f la) 0), upd := [(0, some (.log (l ++ [[3, op]])))], C := [l.length < 1099511627776] }) hU hm (by rw [allC_cons]; exact ⟨hC, hD⟩) (by simp [upto]) rfl (by simp) (by simp) (fun j hj => by
        match j, hj with
        | 0, _ => rfl)) ⟨DenImp.refl _, nums_imp ha, trivial⟩
    · simp at h
  · simp at h
theorem add_run (la lb : List Int) : runF gE 400 [] 45 [.raw (.pointer none), .agg (svF (List.replicate 5 .u64) (atL la) 0), .agg (svF (List.replicate 5 .u64) (atL lb) 0)] [] [] = some (.agg (svF (List.replicate 5 .u64) (faddN la lb) 0), [], []) := by kernel_rfl
theorem add_log (la lb : List Int) (l : List (List Int)) : runF gE 400 [] 45 [.ptr 0 0, .agg (svF (List.replicate 5 .u64) (atL la) 0), .agg (svF (List.replicate 5 .u64) (atL lb) 0)] [.log l] [] = some (.agg (svF (List.replicate 5 .u64) (faddN la lb) 0), [some (.log (l ++ [[3, 1]]))], [l.length < 1099511627776]) := by kernel_rfl
theorem acc_add : Acc gE 45 (binF 1 faddN) := bin_ok gE_ok (fun la lb => ⟨_, add_run la lb⟩) (fun la lb l => ⟨_, add_log la lb l⟩)
theorem sub_run (la lb : List Int) : runF gE 400 [] 47 [.raw (.pointer none), .agg (svF (List.replicate 5 .u64) (atL la) 0), .agg (svF (List.replicate 5 .u64) (atL lb) 0)] [] [] = some (.agg (svF (List.replicate 5 .u64) (fsubN la lb) 0), [], []) := by kernel_rfl
theorem sub_log (la lb : List Int) (l : List (List Int)) : runF gE 400 [] 47 [.ptr 0 0, .agg (svF (List.replicate 5 .u64) (atL la) 0), .agg (svF (List.replicate 5 .u64) (atL lb) 0)] [.log l] [] = some (.agg (svF (List.replicate 5 .u64) (fsubN la lb) 0), [some (.log (l ++ [[3, 2]]))], [l.length < 1099511627776]) := by kernel_rfl
theorem acc_sub : Acc gE 47 (binF 2 fsubN) := bin_ok gE_ok (fun la lb => ⟨_, sub_run la lb⟩) (fun la lb l => ⟨_, sub_log la lb l⟩)
theorem mul_run (la lb : List Int) : runF gE 400 [] 28 [.raw (.pointer none), .agg (svF (List.replicate 5 .u64) (atL la) 0), .agg (svF (List.replicate 5 .u64) (atL lb) 0)] [] [] = some (.agg (svF (List.replicate 5 .u64) (fmulN la lb) 0), [], []) := by kernel_rfl
theorem mul_log (la lb : List Int) (l : List (List Int)) : runF gE 400 [] 28 [.ptr 0 0, .agg (svF (List.replicate 5 .u64) (atL la) 0), .agg (svF (List.replicate 5 .u64) (atL lb) 0)] [.log l] [] = some (.agg (svF (List.replicate 5 .u64) (fmulN la lb) 0), [some (.log (l ++ [[3, 3]]))], [l.length < 1099511627776]) := by kernel_rfl
theorem acc_mul : Acc gE 28 (binF 3 fmulN) := bin_ok gE_ok (fun la lb => ⟨_, mul_run la lb⟩) (fun la lb l => ⟨_, mul_log la lb l⟩)
def fsqN (la : List Int) : Nat → Int := fmulN la la
theorem sq_run (la : List Int) : runF gE 400 [] 46 [.raw (.pointer none), .agg (svF (List.replicate 5 .u64) (atL la) 0)] [] [] = some (.agg (svF (List.replicate 5 .u64) (fmulN (listF 5 (atL la) 0) (listF 5 (atL la) 0)) 0), [], []) := by kernel_rfl
theorem sq_log (la : List Int) (l : List (List Int)) : runF gE 400 [] 46 [.ptr 0 0, .agg (svF (List.replicate 5 .u64) (atL la) 0)] [.log l] [] = some (.agg (svF (List.replicate 5 .u64) (fmulN (listF 5 (atL la) 0) (listF 5 (atL la) 0)) 0), [some (.log (l ++ [[3, 4]]))], [l.length < 1099511627776]) := by kernel_rfl
theorem acc_sq : Acc gE 46 (unF 4 (fun la => fmulN (listF 5 (atL la) 0) (listF 5 (atL la) 0)) []) := un_ok gE_ok (by simp [AllC]) (fun la => ⟨_, sq_run la⟩) (fun la l => ⟨_, sq_log la l⟩)
theorem sc_run (la : List Int) (n : Int) : runF gE 400 [] 48 [.raw (.pointer none), .agg (svF (List.replicate 5 .u64) (atL la) 0), .int .u32 n] [] [] = some (.agg (svF (List.replicate 5 .u64) (fsclN la n) 0), [], []) := by kernel_rfl
theorem sc_log (la : List Int) (n : Int) (l : List (List Int)) : runF gE 400 [] 48 [.ptr 0 0, .agg (svF (List.replicate 5 .u64) (atL la) 0), .int .u32 n] [.log l] [] = some (.agg (svF (List.replicate 5 .u64) (fsclN la n) 0), [some (.log (l ++ [[3, 5]]))], [l.length < 1099511627776]) := by kernel_rfl
def scF : SumF := fun args B => match args, B with
  | [.raw (.pointer none), .agg xs, .int .u32 n], [] => match numsAs (List.replicate 5 .u64) xs with
    | some la => some { val := .agg (svF (List.replicate 5 .u64) (fsclN la n) 0) }
    | _ => none
  | [.ptr 0 0, .agg xs, .int .u32 n], [.log l] => match numsAs (List.replicate 5 .u64) xs with
    | some la => some { val := .agg (svF (List.replicate 5 .u64) (fsclN la n) 0), upd := [(0, some (.log (l ++ [[3, 5]])))], C := [l.length < 1099511627776] }
    | _ => none
  | _, _ => none
theorem acc_sc : Acc gE 48 scF := by
  intro args B out h hC
  unfold scF at h
  split at h
  · split at h
    · rename_i la ha
      simp only [Option.some.injEq] at h; subst h
      exact FnOk.imp (FnOk.pure gE_ok (sc_run la _) (by simp [AllC])) ⟨DenImp.refl _, nums_imp ha, DenImp.refl _, trivial⟩
    · simp at h
  · split at h
    · rename_i n l _ la ha
      simp only [Option.some.injEq] at h; subst h
      exact FnOk.imp (FnOk.run (out := { val := .agg (svF (List.replicate 5 .u64) (fsclN la n) 0), upd := [(0, some (.log (l ++ [[3, 5]])))], C := [l.length < 1099511627776] }) gE_ok (sc_log la n l) hC (by simp [upto]) rfl (by simp) (by simp) (fun j hj => by
        match j, hj with
        | 0, _ => rfl)) ⟨DenImp.refl _, nums_imp ha, DenImp.refl _, trivial⟩
    · simp at h
  · simp at h
end Go.Proofs.Ytjkenobomlbdcaa
