/- Accounts of this seat's functions: lemmas, no statement of their own. No conditions. -/
import Derived.Test.YtibfkpgdpldjbaaTZa
namespace Go.Proofs.Ytibfkpgdpldjbaa
open Go Go.Vx
def U16 (x : Nat → Int) : Prop := ∀ i, i < 16 → U (x i)
def qst (x : Nat → Int) (a b c d : Nat) : Nat → Int := qset x a b c d (qa (x a) (x b) (x c) (x d)) (qb (x a) (x b) (x c) (x d)) (qc (x a) (x b) (x c) (x d)) (qd (x a) (x b) (x c) (x d))
noncomputable def F32 : SumF := fun args B => match args, B with
  | [.agg xs, .int .i64 0, .int .i64 4, .int .i64 8, .int .i64 12], [] => match numsAs (List.replicate 16 .i64) xs with
    | some l => some { val := .agg (i16 (qst (atL l) 0 4 8 12)), C := [U16 (atL l)] }
    | none => none
  | [.agg xs, .int .i64 1, .int .i64 5, .int .i64 9, .int .i64 13], [] => match numsAs (List.replicate 16 .i64) xs with
    | some l => some { val := .agg (i16 (qst (atL l) 1 5 9 13)), C := [U16 (atL l)] }
    | none => none
  | [.agg xs, .int .i64 2, .int .i64 6, .int .i64 10, .int .i64 14], [] => match numsAs (List.replicate 16 .i64) xs with
    | some l => some { val := .agg (i16 (qst (atL l) 2 6 10 14)), C := [U16 (atL l)] }
    | none => none
  | [.agg xs, .int .i64 3, .int .i64 7, .int .i64 11, .int .i64 15], [] => match numsAs (List.replicate 16 .i64) xs with
    | some l => some { val := .agg (i16 (qst (atL l) 3 7 11 15)), C := [U16 (atL l)] }
    | none => none
  | [.agg xs, .int .i64 0, .int .i64 5, .int .i64 10, .int .i64 15], [] => match numsAs (List.replicate 16 .i64) xs with
    | some l => some { val := .agg (i16 (qst (atL l) 0 5 10 15)), C := [U16 (atL l)] }
    | none => none
  | [.agg xs, .int .i64 1, .int .i64 6, .int .i64 11, .int .i64 12], [] => match numsAs (List.replicate 16 .i64) xs with
    | some l => some { val := .agg (i16 (qst (atL l) 1 6 11 12)), C := [U16 (atL l)] }
    | none => none
  | [.agg xs, .int .i64 2, .int .i64 7, .int .i64 8, .int .i64 13], [] => match numsAs (List.replicate 16 .i64) xs with
    | some l => some { val := .agg (i16 (qst (atL l) 2 7 8 13)), C := [U16 (atL l)] }
    | none => none
  | [.agg xs, .int .i64 3, .int .i64 4, .int .i64 9, .int .i64 14], [] => match numsAs (List.replicate 16 .i64) xs with
    | some l => some { val := .agg (i16 (qst (atL l) 3 4 9 14)), C := [U16 (atL l)] }
    | none => none
  | _, _ => none
theorem acc32 : Acc g7 32 F32 := by
  intro args B out h hC
  unfold F32 at h
  split at h
  · rename_i xs
    split at h
    · rename_i l hl
      simp only [Option.some.injEq] at h; subst h
      have hu : U16 (atL l) := hC _ (by simp)
      refine FnOk.imp (args' := [.agg (i16 (atL l)), .lit .i64 0, .lit .i64 4, .lit .i64 8, .lit .i64 12]) ?_ ⟨nums_imp hl, DenImp.lit, DenImp.lit, DenImp.lit, DenImp.lit, trivial⟩
      obtain ⟨e1, e2, e3, e4, hk, _⟩ := quarter_eq (hu 0 (by decide)) (hu 4 (by decide)) (hu 8 (by decide)) (hu 12 (by decide))
      have hr := rq0 (atL l)
      rw [e1, e2, e3, e4] at hr
      exact FnOk.pure g7_ok hr hk
    · simp at h
  · rename_i xs
    split at h
    · rename_i l hl
      simp only [Option.some.injEq] at h; subst h
      have hu : U16 (atL l) := hC _ (by simp)
      refine FnOk.imp (args' := [.agg (i16 (atL l)), .lit .i64 1, .lit .i64 5, .lit .i64 9, .lit .i64 13]) ?_ ⟨nums_imp hl, DenImp.lit, DenImp.lit, DenImp.lit, DenImp.lit, trivial⟩
      obtain ⟨e1, e2, e3, e4, hk, _⟩ := quarter_eq (hu 1 (by decide)) (hu 5 (by decide)) (hu 9 (by decide)) (hu 13 (by decide))
      have hr := rq1 (atL l)
      rw [e1, e2, e3, e4] at hr
      exact FnOk.pure g7_ok hr hk
    · simp at h
  · rename_i xs
    split at h
    · rename_i l hl
      simp only [Option.some.injEq] at h; subst h
      have hu : U16 (atL l) := hC _ (by simp)
      refine FnOk.imp (args' := [.agg (i16 (atL l)), .lit .i64 2, .lit .i64 6, .lit .i64 10, .lit .i64 14]) ?_ ⟨nums_imp hl, DenImp.lit, DenImp.lit, DenImp.lit, DenImp.lit, trivial⟩
      obtain ⟨e1, e2, e3, e4, hk, _⟩ := quarter_eq (hu 2 (by decide)) (hu 6 (by decide)) (hu 10 (by decide)) (hu 14 (by decide))
      have hr := rq2 (atL l)
      rw [e1, e2, e3, e4] at hr
      exact FnOk.pure g7_ok hr hk
    · simp at h
  · rename_i xs
    split at h
    · rename_i l hl
      simp only [Option.some.injEq] at h; subst h
      have hu : U16 (atL l) := hC _ (by simp)
      refine FnOk.imp (args' := [.agg (i16 (atL l)), .lit .i64 3, .lit .i64 7, .lit .i64 11, .lit .i64 15]) ?_ ⟨nums_imp hl, DenImp.lit, DenImp.lit, DenImp.lit, DenImp.lit, trivial⟩
      obtain ⟨e1, e2, e3, e4, hk, _⟩ := quarter_eq (hu 3 (by decide)) (hu 7 (by decide)) (hu 11 (by decide)) (hu 15 (by decide))
      have hr := rq3 (atL l)
      rw [e1, e2, e3, e4] at hr
      exact FnOk.pure g7_ok hr hk
    · simp at h
  · rename_i xs
    split at h
    · rename_i l hl
      simp only [Option.some.injEq] at h; subst h
      have hu : U16 (atL l) := hC _ (by simp)
      refine FnOk.imp (args' := [.agg (i16 (atL l)), .lit .i64 0, .lit .i64 5, .lit .i64 10, .lit .i64 15]) ?_ ⟨nums_imp hl, DenImp.lit, DenImp.lit, DenImp.lit, DenImp.lit, trivial⟩
      obtain ⟨e1, e2, e3, e4, hk, _⟩ := quarter_eq (hu 0 (by decide)) (hu 5 (by decide)) (hu 10 (by decide)) (hu 15 (by decide))
      have hr := rq4 (atL l)
      rw [e1, e2, e3, e4] at hr
      exact FnOk.pure g7_ok hr hk
    · simp at h
  · rename_i xs
    split at h
    · rename_i l hl
      simp only [Option.some.injEq] at h; subst h
      have hu : U16 (atL l) := hC _ (by simp)
      refine FnOk.imp (args' := [.agg (i16 (atL l)), .lit .i64 1, .lit .i64 6, .lit .i64 11, .lit .i64 12]) ?_ ⟨nums_imp hl, DenImp.lit, DenImp.lit, DenImp.lit, DenImp.lit, trivial⟩
      obtain ⟨e1, e2, e3, e4, hk, _⟩ := quarter_eq (hu 1 (by decide)) (hu 6 (by decide)) (hu 11 (by decide)) (hu 12 (by decide))
      have hr := rq5 (atL l)
      rw [e1, e2, e3, e4] at hr
      exact FnOk.pure g7_ok hr hk
    · simp at h
  · rename_i xs
    split at h
    · rename_i l hl
      simp only [Option.some.injEq] at h; subst h
      have hu : U16 (atL l) := hC _ (by simp)
      refine FnOk.imp (args' := [.agg (i16 (atL l)), .lit .i64 2, .lit .i64 7, .lit .i64 8, .lit .i64 13]) ?_ ⟨nums_imp hl, DenImp.lit, DenImp.lit, DenImp.lit, DenImp.lit, trivial⟩
      obtain ⟨e1, e2, e3, e4, hk, _⟩ := quarter_eq (hu 2 (by decide)) (hu 7 (by decide)) (hu 8 (by decide)) (hu 13 (by decide))
      have hr := rq6 (atL l)
      rw [e1, e2, e3, e4] at hr
      exact FnOk.pure g7_ok hr hk
    · simp at h
  · rename_i xs
    split at h
    · rename_i l hl
      simp only [Option.some.injEq] at h; subst h
      have hu : U16 (atL l) := hC _ (by simp)
      refine FnOk.imp (args' := [.agg (i16 (atL l)), .lit .i64 3, .lit .i64 4, .lit .i64 9, .lit .i64 14]) ?_ ⟨nums_imp hl, DenImp.lit, DenImp.lit, DenImp.lit, DenImp.lit, trivial⟩
      obtain ⟨e1, e2, e3, e4, hk, _⟩ := quarter_eq (hu 3 (by decide)) (hu 4 (by decide)) (hu 9 (by decide)) (hu 14 (by decide))
      have hr := rq7 (atL l)
      rw [e1, e2, e3, e4] at hr
      exact FnOk.pure g7_ok hr hk
    · simp at h
  · simp at h
end Go.Proofs.Ytibfkpgdpldjbaa
