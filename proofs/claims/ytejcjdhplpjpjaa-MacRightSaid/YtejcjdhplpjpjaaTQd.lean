/- Accounts of this seat's functions: lemmas, no statement of their own. No conditions. -/
import Derived.Test.YtejcjdhplpjpjaaTQc
namespace Go.Proofs.Ytejcjdhplpjpjaa
open Go Go.Vx
/-! ### Write: the account; Tag -/
noncomputable def wrA (a : Nat → Int) (l : List Int) : Nat → Int :=
  if 0 < a 42 then (if a 42 + kN a l = 16 then (if 0 < (rsL (l1 a l)).length then tlE (eqA a l) (l1 a l) else lpE (eqA a l) (l1 a l)) else lpE (ovA a l) (l1 a l))
  else if 0 < (rsL l).length then tlE a l else lpE a l
theorem kN_le (a : Nat → Int) (l : List Int) : 0 ≤ kN a l ∧ kN a l ≤ (l.length : Int) ∧ kN a l ≤ 16 - (a 42).toNat ∨ 16 < (a 42).toNat := by
  by_cases h : (a 42).toNat ≤ 16
  · left
    have := Nat.min_le_left l.length (16 - (a 42).toNat)
    have := Nat.min_le_right l.length (16 - (a 42).toNat)
    simp only [kN]
    refine ⟨by omega, by omega, by omega⟩
  · right; omega
theorem wr_acc0 (a : Nat → Int) (l : List Int) (h1 : 0 ≤ a 42 ∧ a 42 < 16) (h2 : l.length ≤ 140737488355328) : FnOk gw 12 [.ptr 0 0, .roi .u8 l] [macV nilR a] { val := .tuple [], upd := [(0, some (macV nilR (wrA a l)))] } := by
  have hL : LGw := lp_loop
  have fin : ∀ {pl C} {v : Nat → Int}, runF gw 400 pl 12 [.ptr 0 0, .roi .u8 l] [macV nilR a] [] = some (.tuple [], [some (macV nilR v)], C) → AllC C → FnOk gw 12 [.ptr 0 0, .roi .u8 l] [macV nilR a] { val := .tuple [], upd := [(0, some (macV nilR v))] } := fun hr hC =>
    FnOk.run (new := []) gw_ok hr hC (by simp [upto]) rfl (by simp) (by simp) (fun j hj => by
      match j, hj with
      | 0, _ => rfl)
  have rest : ∀ l : List Int, l.length ≤ 140737488355328 → ∀ b, decide (0 < ((rsL l).length : Int)) = b → AllC (Crest l b) := fun l hl b hb => by
    have : (rsL l).length ≤ l.length := by rw [rsL, List.length_drop]; omega
    simp only [Crest, allC_cons, allC_nil, and_true]
    exact ⟨hl, Go.Vx.fits_small (by omega), hb⟩
  have tl : ∀ l : List Int, AllC (Ctl l) := fun l => by
    have h3 := Nat.min_le_right (rsL l).length 16
    have h4 : ((rsL l).take 16).length ≤ 16 := by rw [List.length_take]; exact Nat.min_le_left _ _
    simp only [Ctl, allC_cons, allC_nil, and_true]
    exact ⟨fits_of (by omega) (by omega), by omega⟩
  have kk := kN_le a l
  have kl : (l1 a l).length ≤ l.length := by rw [l1, List.length_take]; have := Nat.min_le_left (l.length - (kN a l).toNat) (l.drop (kN a l).toNat).length; omega
  have cov : ∀ b, decide (a 42 + kN a l = 16) = b → AllC (Cov a l b) := fun b hb => by
    have h5 : (l.take (16 - (a 42).toNat)).length ≤ 16 - (a 42).toNat := by rw [List.length_take]; exact Nat.min_le_left _ _
    simp only [Cov, allC_cons, allC_nil, and_true]
    exact ⟨fits_of (by omega) (by omega), by omega, ⟨by omega, by omega, by omega⟩, ⟨by omega, by omega, by omega⟩, fits_of (by omega) (by omega), hb⟩
  unfold wrA
  by_cases h0 : 0 < a 42
  · rw [if_pos h0]
    by_cases h16 : a 42 + kN a l = 16
    · rw [if_pos h16]
      by_cases hr : 0 < (rsL (l1 a l)).length
      · rw [if_pos hr]
        exact fin (we1 a l) (allC_cons.2 ⟨decide_eq_true h0, allC_append.2 ⟨cov _ (decide_eq_true h16), allC_cons.2 ⟨hL, allC_append.2 ⟨rest _ (by omega) _ (decide_eq_true (by omega)), tl _⟩⟩⟩⟩)
      · rw [if_neg hr]
        exact fin (we0 a l) (allC_cons.2 ⟨decide_eq_true h0, allC_append.2 ⟨cov _ (decide_eq_true h16), allC_cons.2 ⟨hL, rest _ (by omega) _ (decide_eq_false (by omega))⟩⟩⟩)
    · rw [if_neg h16]
      have hz : (rsL (l1 a l)).length = 0 := by
        have e : kN a l = (l.length : Int) := by
          have : min l.length (16 - (a 42).toNat) = l.length ∨ min l.length (16 - (a 42).toNat) = 16 - (a 42).toNat := by omega
          rcases this with h | h
          · show ((min l.length (16 - (a 42).toNat) : Nat) : Int) = _; rw [h]
          · exfalso; apply h16; show a 42 + ((min l.length (16 - (a 42).toNat) : Nat) : Int) = 16; rw [h]; omega
        have : (l1 a l).length = 0 := by rw [l1, List.length_take, e]; simp
        rw [rsL, List.length_drop]; omega
      exact fin (wn0 a l) (allC_cons.2 ⟨decide_eq_true h0, allC_append.2 ⟨cov _ (decide_eq_false h16), allC_cons.2 ⟨hL, rest _ (by omega) _ (decide_eq_false (by omega))⟩⟩⟩)
  · rw [if_neg h0]
    by_cases hr : 0 < (rsL l).length
    · rw [if_pos hr]
      exact fin (w01 a l) (allC_append.2 ⟨allC_cons.2 ⟨decide_eq_false h0, allC_cons.2 ⟨hL, by simp [AllC]⟩⟩, allC_append.2 ⟨rest _ h2 _ (decide_eq_true (by omega)), tl _⟩⟩)
    · rw [if_neg hr]
      exact fin (w00 a l) (allC_append.2 ⟨allC_cons.2 ⟨decide_eq_false h0, allC_cons.2 ⟨hL, by simp [AllC]⟩⟩, rest _ h2 _ (decide_eq_false (by omega))⟩)
theorem wr_nil (l : List Int) : runF gw 100 [] 12 [nilR, .roi .u8 l] [] [] = some (.tuple [], [], []) := by kernel_rfl
noncomputable def F12 : SumF := fun args B => match args, B with
  | [.ptr 0 0, .roi K l], [.cells ms] => match macAs ms, headK (ms.take 1), sameK K .u8 with
    | some la, .nil, true => some { val := .tuple [], upd := [(0, some (macV nilR (wrA (atL la) l)))], C := [0 ≤ atL la 42 ∧ atL la 42 < 16, l.length ≤ 140737488355328] }
    | _, _, _ => none
  | [.raw (.pointer none), .roi K l], [] => match sameK K .u8 with
    | true => some { val := .tuple [] }
    | _ => none
  | _, _ => none
theorem acc12 : Acc gw 12 F12 := by
  intro args B out h hC
  unfold F12 at h
  split at h
  · rename_i K l ms
    split at h
    · rename_i la ha hr hK
      obtain rfl := kidx_inj hK
      have hr := head_nil hr
      simp only [Option.some.injEq] at h; subst h
      simp only [allC_cons, allC_nil, and_true] at hC
      refine FnOk.preB (B' := [macV nilR (atL la)]) ?_ ⟨cells_mac ha hr rfl, trivial⟩ (fun j => by
        match j with
        | 0 => rfl
        | j + 1 => rfl)
      exact FnOk.val (wr_acc0 _ _ hC.1 hC.2) (fun _ _ _ _ h => h)
    · simp at h
  · rename_i K l
    split at h
    · rename_i hK
      obtain rfl := kidx_inj hK
      simp only [Option.some.injEq] at h; subst h
      exact FnOk.pure gw_ok (wr_nil l) (by simp [AllC])
    · simp at h
  · simp at h
/-! Tag -/
abbrev mkL (a : Nat → Int) : List Int := listF 16 (fun j => a (10 + j)) 0
abbrev tbL (a : Nat → Int) : List Int := listF 17 (fun j => if (a 42).toNat = j then 1 else (bif Nat.blt j 16 then a (26 + j) else 0)) 0
def tgN (a : Nat → Int) : Nat → Int := if 0 < a 42 then sumN (L5 (plusN (byL a) (smL a) (tbL a))) (mkL a) else sumN (smL a) (mkL a)
theorem tag_1 (a : Nat → Int) : runF gw 300 [.br true] 13 [.ptr 0 0] [macV nilR a] [] = some (.agg (svF (List.replicate 16 .u8) (sumN (L5 (plusN (byL a) (smL a) (tbL a))) (mkL a)) 0), [some (macV nilR a)], [decide (0 < a 42) = true, (a 42).toNat < 17, 0 ≤ a 42 ∧ a 42 < ((17 : Nat) : Int)]) :=
  run_parts (by kernel_rfl) (by kernel_rfl) (by kernel_rfl)
theorem tag_0 (a : Nat → Int) : runF gw 300 [.br false] 13 [.ptr 0 0] [macV nilR a] [] = some (.agg (svF (List.replicate 16 .u8) (sumN (smL a) (mkL a)) 0), [some (macV nilR a)], [decide (0 < a 42) = false]) :=
  run_parts (by kernel_rfl) (by kernel_rfl) (by kernel_rfl)
theorem tag_n : runF gw 100 [] 13 [nilR] [] [] = some (.agg (List.replicate 16 (.lit .u8 0)), [], []) := by kernel_rfl
noncomputable def F13 : SumF := fun args B => match args, B with
  | [.ptr 0 0], [.cells ms] => match macAs ms, headK (ms.take 1) with
    | some la, .nil => some { val := .agg (svF (List.replicate 16 .u8) (tgN (atL la)) 0), upd := [(0, some (macV nilR (atL la)))], C := [0 ≤ atL la 42 ∧ atL la 42 < 16] }
    | _, _ => none
  | [.raw (.pointer none)], [] => some { val := .agg (svF (List.replicate 16 .u8) (fun _ => 0) 0) }
  | _, _ => none
theorem acc13 : Acc gw 13 F13 := by
  intro args B out h hC
  unfold F13 at h
  split at h
  · rename_i ms
    split at h
    · rename_i la ha hr
      have hr := head_nil hr
      simp only [Option.some.injEq] at h; subst h
      simp only [allC_cons, allC_nil, and_true] at hC
      refine FnOk.preB (B' := [macV nilR (atL la)]) ?_ ⟨cells_mac ha hr rfl, trivial⟩ (fun j => by
        match j with
        | 0 => rfl
        | j + 1 => rfl)
      refine FnOk.val (C := []) (rd := []) ?_ (fun _ _ _ _ h => h)
      unfold tgN
      by_cases h0 : 0 < atL la 42
      · rw [if_pos h0]
        exact FnOk.run (new := []) gw_ok (tag_1 (atL la)) (by simp only [allC_cons, allC_nil, and_true]; exact ⟨decide_eq_true h0, by omega, by omega, by omega⟩) (by simp [upto]) rfl (by simp) (by simp) (fun j hj => by
          match j, hj with
          | 0, _ => rfl)
      · rw [if_neg h0]
        exact FnOk.run (new := []) gw_ok (tag_0 (atL la)) (by simp only [allC_cons, allC_nil, and_true]; exact decide_eq_false h0) (by simp [upto]) rfl (by simp) (by simp) (fun j hj => by
          match j, hj with
          | 0, _ => rfl)
    · simp at h
  · simp only [Option.some.injEq] at h; subst h
    exact FnOk.val (FnOk.pure gw_ok tag_n (by simp [AllC])) (fun _ _ _ _ h => denV_norm h)
  · simp at h
end Go.Proofs.Ytejcjdhplpjpjaa
