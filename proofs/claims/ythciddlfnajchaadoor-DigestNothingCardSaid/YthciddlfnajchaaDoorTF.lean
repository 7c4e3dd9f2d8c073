/- Accounts of this seat's functions: lemmas, no statement of their own. No conditions. -/
import Derived.Test.YthciddlfnajchaaDoorTE
namespace Go.Proofs.Tryd
open Go Go.Vx
/-! ### Write: a round -/
abbrev n75 (a : Nat → Int) : Nat → Int := atL (listF 75 a 0)
def cntA (a : Nat → Int) (j : Nat) : Int := bif Nat.beq j 9 then uadd .u64 (a 9) 64 else a j
def heldA (v : Int) (a : Nat → Int) (j : Nat) : Int := bif Nat.beq j 74 then v else a j
/-- the held block is pressed -/
noncomputable def flA (a : Nat → Int) : Nat → Int := heldA 0 (setS (prS (stA (n75 (cntA a))) (bkA (n75 (cntA a))) (uadd .u64 (a 9) 64) 0) (n75 (cntA a)))
/-- what fits is laid behind what is held -/
def ovA (a : Nat → Int) (l : List Int) (j : Nat) : Int :=
  bif (Nat.ble 10 j).and (Nat.blt j 74) then (if (a 74).toNat ≤ j - 10 ∧ j - 10 < (a 74).toNat + (l.take (64 - (a 74).toNat)).length then (l.take (64 - (a 74).toNat)).getD (j - 10 - (a 74).toNat) 0 else a j)
  else bif Nat.beq j 74 then a 74 + ((min l.length (64 - (a 74).toNat) : Nat) : Int) else a j
abbrev kN (a : Nat → Int) (l : List Int) : Int := ((min l.length (64 - (a 74).toNat) : Nat) : Int)
abbrev l1 (a : Nat → Int) (l : List Int) : List Int := (l.drop (kN a l).toNat).take (l.length - (kN a l).toNat)
abbrev wrKeep : List Nat := [0, 1]
noncomputable abbrev wrBody : Code := bodyAt Tryd.prog 14 1
noncomputable abbrev g4 : Ctx := g3.add [(10, F10)]
theorem g4_ok : CtxU g4 := g3_ok.add mixed noGo (by
  intro x hx
  simp only [List.mem_cons, List.not_mem_nil, or_false] at hx
  rcases hx with rfl
  exact acc10)
abbrev Cov (a : Nat → Int) (l : List Int) : List Prop := [Fits .i64 (kN a l), (a 74).toNat + (l.take (64 - (a 74).toNat)).length ≤ 64, 0 ≤ a 74 ∧ a 74 ≤ ((64 : Nat) : Int) ∧ ((64 : Nat) : Int) ≤ ((64 : Nat) : Int), 0 ≤ kN a l ∧ kN a l ≤ (l.length : Int) ∧ (l.length : Int) ≤ (l.length : Int), Fits .i64 (a 74 + kN a l)]
theorem w_a (a : Nat → Int) (l : List Int) : runC g4 600 78 [.br true, .br false] wrBody (wrKeep.zip [.ptr 0 0, .roi .u8 l]) [dgV nilR a] wrKeep [0] =
    some (.normal, [.ptr 0 0, .roi .u8 (l1 a l)], [dgV nilR (ovA a l)].map some, [Fits .i64 (l.length : Int), decide ((0 : Int) < (l.length : Int)) = true, decide (a 74 = 64) = false] ++ Cov a l) :=
  r3_parts4 (by kernel_rfl) (by kernel_rfl) (by kernel_rfl) (by kernel_rfl)
theorem w_b (a : Nat → Int) (l : List Int) : runC g4 600 78 [.br true, .br true] wrBody (wrKeep.zip [.ptr 0 0, .roi .u8 l]) [dgV nilR a] wrKeep [0] =
    some (.normal, [.ptr 0 0, .roi .u8 (l1 (flA a) l)], [dgV nilR (ovA (flA a) l)].map some, [Fits .i64 (l.length : Int), decide ((0 : Int) < (l.length : Int)) = true, decide (a 74 = 64) = true] ++ Cov (flA a) l) :=
  r3_parts4 (by kernel_rfl) (by kernel_rfl) (by kernel_rfl) (by kernel_rfl)
theorem w_e (a : Nat → Int) (l : List Int) : runC g4 600 78 [.br false] wrBody (wrKeep.zip [.ptr 0 0, .roi .u8 l]) [dgV nilR a] wrKeep [0] =
    some (.exit 0, [.ptr 0 0, .roi .u8 l], [dgV nilR a].map some, [Fits .i64 (l.length : Int), decide ((0 : Int) < (l.length : Int)) = false]) :=
  r3_parts4 (by kernel_rfl) (by kernel_rfl) (by kernel_rfl) (by kernel_rfl)
/-! ### Write: the whole -/
noncomputable def stepA (a : Nat → Int) (l : List Int) : Nat → Int := ovA (if a 74 = 64 then flA a else a) l
noncomputable abbrev stepL (a : Nat → Int) (l : List Int) : List Int := l1 (if a 74 = 64 then flA a else a) l
noncomputable def wrF : Nat → (Nat → Int) → List Int → (Nat → Int)
  | 0, a, _ => a
  | n + 1, a, l => if l = [] then a else wrF n (stepA a l) (stepL a l)
noncomputable def wrA (a : Nat → Int) (l : List Int) : Nat → Int := wrF l.length a l
theorem flA_held (a : Nat → Int) : flA a 74 = 0 := rfl
theorem ovA_held (a : Nat → Int) (l : List Int) : ovA a l 74 = a 74 + kN a l := rfl
theorem kN_bd {a : Nat → Int} {l : List Int} (h : 0 ≤ a 74 ∧ a 74 ≤ 64) : kN a l = (l.length : Int) ∧ (l.length : Int) ≤ 64 - a 74 ∨ kN a l = 64 - a 74 ∧ 64 - a 74 ≤ (l.length : Int) := by
  have e := Int.toNat_of_nonneg h.1
  have hm : min l.length (64 - (a 74).toNat) = l.length ∧ l.length ≤ 64 - (a 74).toNat ∨ min l.length (64 - (a 74).toNat) = 64 - (a 74).toNat ∧ 64 - (a 74).toNat ≤ l.length := by omega
  simp only [kN]
  rcases hm with ⟨hm, h2⟩ | ⟨hm, h2⟩ <;> rw [hm] <;> omega
theorem l1_len (a : Nat → Int) (l : List Int) : (l1 a l).length = l.length - (kN a l).toNat := by
  rw [l1, List.length_take, List.length_drop]; omega
theorem step_held {a : Nat → Int} {l : List Int} (h : 0 ≤ a 74 ∧ a 74 ≤ 64) : 0 ≤ stepA a l 74 ∧ stepA a l 74 ≤ 64 := by
  unfold stepA
  rw [ovA_held]
  by_cases c : a 74 = 64
  · rw [if_pos c]
    have := kN_bd (a := flA a) (l := l) (by rw [flA_held]; omega)
    rw [flA_held] at this ⊢; omega
  · rw [if_neg c]
    have := kN_bd (a := a) (l := l) h
    omega
theorem step_len {a : Nat → Int} {l : List Int} (h : 0 ≤ a 74 ∧ a 74 ≤ 64) (hl : l ≠ []) : (stepL a l).length < l.length := by
  have h0 : 0 < l.length := List.length_pos_iff.2 hl
  unfold stepL
  rw [l1_len]
  by_cases c : a 74 = 64
  · rw [if_pos c]
    have := kN_bd (a := flA a) (l := l) (by rw [flA_held]; omega)
    rw [flA_held] at this; omega
  · rw [if_neg c]
    have := kN_bd (a := a) (l := l) h
    omega
theorem cov_ok {a : Nat → Int} {l : List Int} (h : 0 ≤ a 74 ∧ a 74 ≤ 64) : AllC (Cov a l) := by
  have := kN_bd (l := l) h
  have h5 : (l.take (64 - (a 74).toNat)).length ≤ 64 - (a 74).toNat := by rw [List.length_take]; exact Nat.min_le_left _ _
  simp only [Cov, allC_cons, allC_nil, and_true]
  exact ⟨fits_of (by omega) (by omega), by omega, ⟨by omega, by omega, by omega⟩, ⟨by omega, by omega, by omega⟩, fits_of (by omega) (by omega)⟩
theorem i1 : ∀ j : Nat, j < 1 → ([0] : List Nat)[j]? = some j := fun j hj => by
  match j, hj with
  | 0, _ => rfl
abbrev wrS (l : List Int) : List (Nat × SV) := wrKeep.zip [.ptr 0 0, .roi .u8 l]
theorem wr_sim {w0 : World} {O : Go.Vx.Own} (hgl : GlobOk g4 w0 O) : ∀ (n : Nat) (a : Nat → Int) (l : List Int), l.length ≤ n → 0 ≤ a 74 ∧ a 74 ≤ 64 → l.length ≤ 140737488355328 →
    SimC g4.P w0 O 78 (.loop wrBody) (wrS l) [dgV nilR a] (.exit 0) [(0, .ptr 0 0)] [dgV nilR (wrF n a l)] 1
  | n, a, l, hn, ha, hl => by
    have F : Fits .i64 (l.length : Int) := Go.Vx.fits_small (by omega)
    by_cases c : l = []
    · subst c
      have e : wrF n a [] = a := by cases n <;> simp [wrF]
      rw [e]
      exact SimC.done (SimC.weaken (SimC.run (B' := [dgV nilR a]) g4_ok (by decide) (w_e a []) (by simp only [allC_cons, allC_nil, and_true]; exact ⟨F, by decide⟩) (by decide) i1 (by decide) (by simp) hgl) (sub_mkT (by simp; exact rfl))) (by simp)
    · have h0 : 0 < l.length := List.length_pos_iff.2 c
      obtain ⟨n, rfl⟩ : ∃ k, n = k + 1 := ⟨n - 1, by omega⟩
      have hlt := step_len ha c
      have hh := step_held (l := l) ha
      have r := wr_sim hgl n (stepA a l) (stepL a l) (by omega) hh (by omega)
      have e : wrF (n + 1) a l = wrF n (stepA a l) (stepL a l) := by simp only [wrF]; rw [if_neg c]
      rw [e]
      refine SimC.next (Nat.le_refl _) ?_ r
      by_cases c6 : a 74 = 64
      · have ea : stepA a l = ovA (flA a) l := by unfold stepA; rw [if_pos c6]
        have el : stepL a l = l1 (flA a) l := by unfold stepL; rw [if_pos c6]
        rw [ea, el]
        refine SimC.run (B' := [dgV nilR (ovA (flA a) l)]) g4_ok (by decide) (w_b a l) (allC_append.2 ⟨?_, cov_ok (by rw [flA_held]; omega)⟩) (by decide) i1 (by decide) (by simp) hgl
        simp only [allC_cons, allC_nil, and_true]
        exact ⟨F, decide_eq_true (by omega), decide_eq_true c6⟩
      · have ea : stepA a l = ovA a l := by unfold stepA; rw [if_neg c6]
        have el : stepL a l = l1 a l := by unfold stepL; rw [if_neg c6]
        rw [ea, el]
        refine SimC.run (B' := [dgV nilR (ovA a l)]) g4_ok (by decide) (w_a a l) (allC_append.2 ⟨?_, cov_ok ha⟩) (by decide) i1 (by decide) (by simp) hgl
        simp only [allC_cons, allC_nil, and_true]
        exact ⟨F, decide_eq_true (by omega), decide_eq_false c6⟩
noncomputable def wrG : LoopF := fun vals B => match vals, B with
  | [.ptr 0 0, .roi K l], [.cells ms] => match dgAs ms, headK (ms.take 1), sameK K .u8 with
    | some la, .nil, true => some ([(0, .ptr 0 0)], [dgV nilR (wrA (atL la) l)], [0 ≤ atL la 74 ∧ atL la 74 ≤ 64, l.length ≤ 140737488355328])
    | _, _, _ => none
  | _, _ => none
theorem wr_loop : LoopGood g4 78 (.loop wrBody) wrKeep 1 (.exit 0) (mkLoopN wrG) := by
  refine LoopGood.mkN (by decide) fun vals B S' B' C hG hC hlen w0 O hgl => ?_
  clear hlen
  unfold wrG at hG
  split at hG
  · rename_i K l ms
    split at hG
    · rename_i la ha hr hK
      obtain rfl := kidx_inj hK
      have hr := head_nil hr
      simp only [Option.some.injEq, Prod.mk.injEq] at hG
      obtain ⟨rfl, rfl, rfl⟩ := hG
      simp only [allC_cons, allC_nil, and_true] at hC
      refine SimC.preI (B1 := [dgV nilR (atL la)]) ?_ ⟨cells_dg ha hr rfl, trivial⟩
      exact wr_sim hgl l.length (atL la) l (Nat.le_refl _) hC.1 hC.2
    · simp at hG
  · simp at hG
theorem wr_run (a : Nat → Int) (l : List Int) : runF g4 400 [.loop 1 wrKeep 1 (.exit 0) (mkLoopN wrG)] 14 [.ptr 0 0, .roi .u8 l] [dgV nilR a] [] =
    some (.tuple [], [some (dgV nilR (wrA (n75 a) l))], [LoopGood g4 78 (.loop wrBody) wrKeep 1 (.exit 0) (mkLoopN wrG), 0 ≤ n75 a 74 ∧ n75 a 74 ≤ 64, l.length ≤ 140737488355328]) :=
  run_parts (by kernel_rfl) (by kernel_rfl) (by kernel_rfl)
theorem wr_nil (l : List Int) : runF g4 100 [] 14 [nilR, .roi .u8 l] [] [] = some (.tuple [], [], []) := by kernel_rfl
theorem n75_at {a : Nat → Int} {j : Nat} (hj : j < 75) : n75 a j = a j := atLF hj
theorem n75_la {la : List Int} {ms : List SV} (h : dgAs ms = some la) : n75 (atL la) = atL la := by
  have e := (numsAs_len h).1
  have : listF 75 (atL la) 0 = la := by
    have := nums_list h
    rw [show dgK.length = 75 by decide] at this
    exact this.symm
  unfold n75
  rw [this]
noncomputable def F14 : SumF := fun args B => match args, B with
  | [.ptr 0 0, .roi K l], [.cells ms] => match dgAs ms, headK (ms.take 1), sameK K .u8 with
    | some la, .nil, true => some { val := .tuple [], upd := [(0, some (dgV nilR (wrA (atL la) l)))], C := [0 ≤ atL la 74 ∧ atL la 74 ≤ 64, l.length ≤ 140737488355328] }
    | _, _, _ => none
  | [.raw (.pointer none), .roi K l], [] => match sameK K .u8 with
    | true => some { val := .tuple [] }
    | _ => none
  | _, _ => none
theorem acc14 : Acc g4 14 F14 := by
  intro args B out h hC
  unfold F14 at h
  split at h
  · rename_i K l ms
    split at h
    · rename_i la ha hr hK
      obtain rfl := kidx_inj hK
      have hr := head_nil hr
      simp only [Option.some.injEq] at h; subst h
      simp only [allC_cons, allC_nil, and_true] at hC
      refine FnOk.preB (B' := [dgV nilR (atL la)]) ?_ ⟨cells_dg ha hr rfl, trivial⟩ (fun j => by
        match j with
        | 0 => rfl
        | j + 1 => rfl)
      have hrun := wr_run (atL la) l
      rw [n75_la ha] at hrun
      have hL := wr_loop
      exact FnOk.val (FnOk.run (out := { val := .tuple [], upd := [(0, some (dgV nilR (wrA (atL la) l)))] }) (new := []) g4_ok hrun (by
        simp only [allC_cons, allC_nil, and_true]
        exact ⟨hL, hC.1, hC.2⟩) (by simp [upto]) rfl (by simp) (by simp) (fun j hj => by
        match j, hj with
        | 0, _ => rfl)) (fun _ _ _ _ h => h)
    · simp at h
  · rename_i K l
    split at h
    · rename_i hK
      obtain rfl := kidx_inj hK
      simp only [Option.some.injEq] at h; subst h
      exact FnOk.pure g4_ok (wr_nil l) (by simp [AllC])
    · simp at h
  · simp at h
end Go.Proofs.Tryd
