/- Accounts of this seat's functions: lemmas, no statement of their own. No conditions. -/
import Derived.Test.YthciddlfnajchaaDoorTE
import Derived.Stop.LaidErr
import Derived.LaidLaws
namespace Go.Proofs.Tryd
open Go Go.Vx
/-! ### Write: a round -/
abbrev n75 (a : Nat → Int) : Nat → Int := atL (listF 75 a 0)
def cntA (a : Nat → Int) (j : Nat) : Int := bif Nat.beq j 9 then uadd .u64 (a 9) 64 else a j
def heldA (v : Int) (a : Nat → Int) (j : Nat) : Int := bif Nat.beq j 74 then v else a j
/-- the held block is pressed -/
noncomputable def flA (a : Nat → Int) : Nat → Int := heldA 0 (setS (prS (stA (n75 (cntA a))) (bkA (n75 (cntA a))) (uadd .u64 (a 9) 64) 0) (n75 (cntA a)))
/-- what fits is laid behind what is held -/
def ovA (a : Nat → Int) (l : List Int) (j : Nat) : Int :=
  bif (Nat.ble 10 j).and (Nat.blt j 74) then (if (a 74).toNat ≤ j - 10 ∧ j - 10 < (a 74).toNat + (l.take (64 - (a 74).toNat)).length then (l.take (64 - (a 74).toNat)).getD (j - 10 - (a 74).toNat) 0 else a j)
  else bif Nat.beq j 74 then a 74 + ((min l.length (64 - (a 74).toNat) : Nat) : Int) else a j
abbrev kN (a : Nat → Int) (l : List Int) : Int := ((min l.length (64 - (a 74).toNat) : Nat) : Int)
abbrev l1 (a : Nat → Int) (l : List Int) : List Int := (l.drop (kN a l).toNat).take (l.length - (kN a l).toNat)
abbrev wrKeep : List Nat := [0, 1]
noncomputable abbrev wrBody : Code := bodyAt Tryd.prog 14 1
noncomputable abbrev g4 : Ctx := g3.add [(10, F10)]
theorem g4_ok : CtxU g4 := g3_ok.add mixed noGo (by
  intro x hx
  simp only [List.mem_cons, List.not_mem_nil, or_false] at hx
  rcases hx with rfl
  exact acc10)
abbrev Cov (a : Nat → Int) (l : List Int) : List Prop := [Fits .i64 (kN a l), (a 74).toNat + (l.take (64 - (a 74).toNat)).length ≤ 64, 0 ≤ a 74 ∧ a 74 ≤ ((64 : Nat) : Int) ∧ ((64 : Nat) : Int) ≤ ((64 : Nat) : Int), 0 ≤ kN a l ∧ kN a l ≤ (l.length : Int) ∧ (l.length : Int) ≤ (l.length : Int), Fits .i64 (a 74 + kN a l)]
theorem w_a (a : Nat → Int) (l : List Int) : runC g4 600 78 [.br true, .br false] wrBody (wrKeep.zip [.ptr 0 0, .roi .u8 l]) [dgV nilR a] wrKeep [0] =
    some (.normal, [.ptr 0 0, .roi .u8 (l1 a l)], [dgV nilR (ovA a l)].map some, [Fits .i64 (l.length : Int), decide ((0 : Int) < (l.length : Int)) = true, decide (a 74 = 64) = false] ++ Cov a l) :=
  r3_parts4 (by kernel_rfl) (by kernel_rfl) (by kernel_rfl) (by kernel_rfl)
theorem w_b (a : Nat → Int) (l : List Int) : runC g4 600 78 [.br true, .br true] wrBody (wrKeep.zip [.ptr 0 0, .roi .u8 l]) [dgV nilR a] wrKeep [0] =
    some (.normal, [.ptr 0 0, .roi .u8 (l1 (flA a) l)], [dgV nilR (ovA (flA a) l)].map some, [Fits .i64 (l.length : Int), decide ((0 : Int) < (l.length : Int)) = true, decide (a 74 = 64) = true] ++ Cov (flA a) l) :=
  r3_parts4 (by kernel_rfl) (by kernel_rfl) (by kernel_rfl) (by kernel_rfl)
theorem w_e (a : Nat → Int) (l : List Int) : runC g4 600 78 [.br false] wrBody (wrKeep.zip [.ptr 0 0, .roi .u8 l]) [dgV nilR a] wrKeep [0] =
    some (.exit 0, [.ptr 0 0, .roi .u8 l], [dgV nilR a].map some, [Fits .i64 (l.length : Int), decide ((0 : Int) < (l.length : Int)) = false]) :=
  r3_parts4 (by kernel_rfl) (by kernel_rfl) (by kernel_rfl) (by kernel_rfl)
/-! ### Write: the whole -/
noncomputable def stepA (a : Nat → Int) (l : List Int) : Nat → Int := ovA (if a 74 = 64 then flA a else a) l
noncomputable abbrev stepL (a : Nat → Int) (l : List Int) : List Int := l1 (if a 74 = 64 then flA a else a) l
noncomputable def wrF : Nat → (Nat → Int) → List Int → (Nat → Int)
  | 0, a, _ => a
  | n + 1, a, l => if l = [] then a else wrF n (stepA a l) (stepL a l)
noncomputable def wrA (a : Nat → Int) (l : List Int) : Nat → Int := wrF l.length a l
theorem flA_held (a : Nat → Int) : flA a 74 = 0 := rfl
theorem ovA_held (a : Nat → Int) (l : List Int) : ovA a l 74 = a 74 + kN a l := rfl
theorem kN_bd {a : Nat → Int} {l : List Int} (h : 0 ≤ a 74 ∧ a 74 ≤ 64) : kN a l = (l.length : Int) ∧ (l.length : Int) ≤ 64 - a 74 ∨ kN a l = 64 - a 74 ∧ 64 - a 74 ≤ (l.length : Int) := by
  have e := Int.toNat_of_nonneg h.1
  have hm : min l.length (64 - (a 74).toNat) = l.length ∧ l.length ≤ 64 - (a 74).toNat ∨ min l.length (64 - (a 74).toNat) = 64 - (a 74).toNat ∧ 64 - (a 74).toNat ≤ l.length := by omega
  simp only [kN]
  rcases hm with ⟨hm, h2⟩ | ⟨hm, h2⟩ <;> rw [hm] <;> omega
theorem l1_len (a : Nat → Int) (l : List Int) : (l1 a l).length = l.length - (kN a l).toNat := by
  rw [l1, List.length_take, List.length_drop]; omega
theorem step_held {a : Nat → Int} {l : List Int} (h : 0 ≤ a 74 ∧ a 74 ≤ 64) : 0 ≤ stepA a l 74 ∧ stepA a l 74 ≤ 64 := by
  unfold stepA
  rw [ovA_held]
  by_cases c : a 74 = 64
  · rw [if_pos c]
    have := kN_bd (a := flA a) (l := l) (by rw [flA_held]; omega)
    rw [flA_held] at this ⊢; omega
  · rw [if_neg c]
    have := kN_bd (a := a) (l := l) h
    omega
theorem step_len {a : Nat → Int} {l : List Int} (h : 0 ≤ a 74 ∧ a 74 ≤ 64) (hl : l ≠ []) : (stepL a l).length < l.length := by
  have h0 : 0 < l.length := List.length_pos_iff.2 hl
  unfold stepL
  rw [l1_len]
  by_cases c : a 74 = 64
  · rw [if_pos c]
    have := kN_bd (a := flA a) (l := l) (by rw [flA_held]; omega)
    rw [flA_held] at this; omega
  · rw [if_neg c]
    have := kN_bd (a := a) (l := l) h
    omega
theorem cov_ok {a : Nat → Int} {l : List Int} (h : 0 ≤ a 74 ∧ a 74 ≤ 64) : AllC (Cov a l) := by
  have := kN_bd (l := l) h
  have h5 : (l.take (64 - (a 74).toNat)).length ≤ 64 - (a 74).toNat := by rw [List.length_take]; exact Nat.min_le_left _ _
  simp only [Cov, allC_cons, allC_nil, and_true]
  exact ⟨fits_of (by omega) (by omega), by omega, ⟨by omega, by omega, by omega⟩, ⟨by omega, by omega, by omega⟩, fits_of (by omega) (by omega)⟩
theorem i1 : ∀ j : Nat, j < 1 → ([0] : List Nat)[j]? = some j := fun j hj => by
  match j, hj with
  | 0, _ => rfl
abbrev wrS (l : List Int) : List (Nat × SV) := wrKeep.zip [.ptr 0 0, .roi .u8 l]
theorem wr_sim {w0 : World} {O : Go.Vx.Own} (hgl : GlobOk g4 w0 O) : ∀ (n : Nat) (a : Nat → Int) (l : List Int), l.length ≤ n → 0 ≤ a 74 ∧ a 74 ≤ 64 → l.length ≤ 140737488355328 →
    SimC g4.P w0 O 78 (.loop wrBody) (wrS l) [dgV nilR a] (.exit 0) [(0, .ptr 0 0)] [dgV nilR (wrF n a l)] 1
  | n, a, l, hn, ha, hl => by
    have F : Fits .i64 (l.length : Int) := Go.Vx.fits_small (by omega)
    by_cases c : l = []
    · subst c
      have e : wrF n a [] = a := by cases n <;> simp [wrF]
      rw [e]
      exact SimC.done (SimC.weaken (SimC.run (B' := [dgV nilR a]) g4_ok (by decide) (w_e a []) (by simp only [allC_cons, allC_nil, and_true]; exact ⟨F, by decide⟩) (by decide) i1 (by decide) (by simp) hgl) (sub_mkT (by simp; exact rfl))) (by simp)
    · have h0 : 0 < l.length := List.length_pos_iff.2 c
      obtain ⟨n, rfl⟩ : ∃ k, n = k + 1 := ⟨n - 1, by omega⟩
      have hlt := step_len ha c
      have hh := step_held (l := l) ha
      have r := wr_sim hgl n (stepA a l) (stepL a l) (by omega) hh (by omega)
      have e : wrF (n + 1) a l = wrF n (stepA a l) (stepL a l) := by simp only [wrF]; rw [if_neg c]
      rw [e]
      refine SimC.next (Nat.le_refl _) ?_ r
      by_cases c6 : a 74 = 64
      · have ea : stepA a l = ovA (flA a) l := by unfold stepA; rw [if_pos c6]
        have el : stepL a l = l1 (flA a) l := by unfold stepL; rw [if_pos c6]
        rw [ea, el]
        refine SimC.run (B' := [dgV nilR (ovA (flA a) l)]) g4_ok (by decide) (w_b a l) (allC_append.2 ⟨?_, cov_ok (by rw [flA_held]; omega)⟩) (by decide) i1 (by decide) (by simp) hgl
        simp only [allC_cons, allC_nil, and_true]
        exact ⟨F, decide_eq_true (by omega), decide_eq_true c6⟩
      · have ea : stepA a l = ovA a l := by unfold stepA; rw [if_neg c6]
        have el : stepL a l = l1 a l := by unfold stepL; rw [if_neg c6]
        rw [ea, el]
        refine SimC.run (B' := [dgV nilR (ovA a l)]) g4_ok (by decide) (w_a a l) (allC_append.2 ⟨?_, cov_ok ha⟩) (by decide) i1 (by decide) (by simp) hgl
        simp only [allC_cons, allC_nil, and_true]
        exact ⟨F, decide_eq_true (by omega), decide_eq_false c6⟩
noncomputable def wrG : LoopF := fun vals B => match vals, B with
  | [.ptr 0 0, .roi K l], [.cells ms] => match dgAs ms, headK (ms.take 1), sameK K .u8 with
    | some la, .nil, true => some ([(0, .ptr 0 0)], [dgV nilR (wrA (atL la) l)], [0 ≤ atL la 74 ∧ atL la 74 ≤ 64, l.length ≤ 140737488355328])
    | _, _, _ => none
  | _, _ => none
theorem wr_loop : LoopGood g4 78 (.loop wrBody) wrKeep 1 (.exit 0) (mkLoopN wrG) := by
  refine LoopGood.mkN (by decide) fun vals B S' B' C hG hC hlen w0 O hgl => ?_
  clear hlen
  unfold wrG at hG
  split at hG
  · rename_i K l ms
    split at hG
    · rename_i la ha hr hK
      obtain rfl := kidx_inj hK
      have hr := head_nil hr
      simp only [Option.some.injEq, Prod.mk.injEq] at hG
      obtain ⟨rfl, rfl, rfl⟩ := hG
      simp only [allC_cons, allC_nil, and_true] at hC
      refine SimC.preI (B1 := [dgV nilR (atL la)]) ?_ ⟨cells_dg ha hr rfl, trivial⟩
      exact wr_sim hgl l.length (atL la) l (Nat.le_refl _) hC.1 hC.2
    · simp at hG
  · simp at hG
theorem wr_run (a : Nat → Int) (l : List Int) : runF g4 400 [.loop 1 wrKeep 1 (.exit 0) (mkLoopN wrG)] 14 [.ptr 0 0, .roi .u8 l] [dgV nilR a] [] =
    some (.tuple [], [some (dgV nilR (wrA (n75 a) l))], [LoopGood g4 78 (.loop wrBody) wrKeep 1 (.exit 0) (mkLoopN wrG), 0 ≤ n75 a 74 ∧ n75 a 74 ≤ 64, l.length ≤ 140737488355328]) :=
  run_parts (by kernel_rfl) (by kernel_rfl) (by kernel_rfl)
theorem wr_nil (l : List Int) : runF g4 100 [] 14 [nilR, .roi .u8 l] [] [] = some (.tuple [], [], []) := by kernel_rfl
theorem n75_at {a : Nat → Int} {j : Nat} (hj : j < 75) : n75 a j = a j := atLF hj
theorem n75_la {la : List Int} {ms : List SV} (h : dgAs ms = some la) : n75 (atL la) = atL la := by
  have e := (numsAs_len h).1
  have : listF 75 (atL la) 0 = la := by
    have := nums_list h
    rw [show dgK.length = 75 by decide] at this
    exact this.symm
  unfold n75
  rw [this]
noncomputable def F14 : SumF := fun args B => match args, B with
  | [.ptr 0 0, .roi K l], [.cells ms] => match dgAs ms, headK (ms.take 1), sameK K .u8 with
    | some la, .nil, true => some { val := .tuple [], upd := [(0, some (dgV nilR (wrA (atL la) l)))], C := [0 ≤ atL la 74 ∧ atL la 74 ≤ 64, l.length ≤ 140737488355328] }
    | _, _, _ => none
  | [.raw (.pointer none), .roi K l], [] => match sameK K .u8 with
    | true => some { val := .tuple [] }
    | _ => none
  | _, _ => none
theorem acc14 : Acc g4 14 F14 := by
  intro args B out h hC
  unfold F14 at h
  split at h
  · rename_i K l ms
    split at h
    · rename_i la ha hr hK
      obtain rfl := kidx_inj hK
      have hr := head_nil hr
      simp only [Option.some.injEq] at h; subst h
      simp only [allC_cons, allC_nil, and_true] at hC
      refine FnOk.preB (B' := [dgV nilR (atL la)]) ?_ ⟨cells_dg ha hr rfl, trivial⟩ (fun j => by
        match j with
        | 0 => rfl
        | j + 1 => rfl)
      have hrun := wr_run (atL la) l
      rw [n75_la ha] at hrun
      have hL := wr_loop
      exact FnOk.val (FnOk.run (out := { val := .tuple [], upd := [(0, some (dgV nilR (wrA (atL la) l)))] }) (new := []) g4_ok hrun (by
        simp only [allC_cons, allC_nil, and_true]
        exact ⟨hL, hC.1, hC.2⟩) (by simp [upto]) rfl (by simp) (by simp) (fun j hj => by
        match j, hj with
        | 0, _ => rfl)) (fun _ _ _ _ h => h)
    · simp at h
  · rename_i K l
    split at h
    · rename_i hK
      obtain rfl := kidx_inj hK
      simp only [Option.some.injEq] at h; subst h
      exact FnOk.pure g4_ok (wr_nil l) (by simp [AllC])
    · simp at h
  · simp at h
end Go.Proofs.Tryd

namespace Go.Proofs.Tryd
open Go Go.Vx
/-! ### Sum -/
/-- the block, noughts behind what is held -/
def clB (a : Nat → Int) (j : Nat) : Int := if (a 74).toNat ≤ j ∧ j < (a 74).toNat + (List.replicate (64 - (a 74).toNat) (0 : Int)).length then (List.replicate (64 - (a 74).toNat) (0 : Int)).getD (j - (a 74).toNat) 0 else a (10 + j)
noncomputable def smS (a : Nat → Int) : Nat → Int := prS (stA a) (atL (listF 64 (clB a) 0)) (uadd .u64 (a 9) (scut .u64 (a 74))) 4294967295
def dgB (s : Nat → Int) (j : Nat) : Int := ucut .u8 (ushr (s (j / 4)) (8 * (j % 4) : Nat))
abbrev smC (a : Nat → Int) : List Prop := [(a 74).toNat + (List.replicate (64 - (a 74).toNat) (0 : Int)).length ≤ 64, 0 ≤ a 74 ∧ a 74 ≤ ((64 : Nat) : Int) ∧ ((64 : Nat) : Int) ≤ ((64 : Nat) : Int), 0 ≤ n75 a 0 ∧ n75 a 0 = n75 a 0 ∧ (n75 a 0).toNat * 1 ≤ 2 ^ 47,
  Fits .i64 ((min 32 (n75 a 0).toNat : Nat) : Int), 0 + (0 + 0) + ((listF 32 (dgB (smS a)) 0).take (n75 a 0).toNat).length ≤ (List.replicate (n75 a 0).toNat (0 : Int)).length]
theorem sum_0 (a : Nat → Int) : runF g4 2000 [] 15 [.ptr 0 0] [dgV nilR a] [4] =
    some (.sl 1 (n75 a 0).toNat 0 1 0 (n75 a 0).toNat false, [some (dgV nilR (n75 a)), some (.ints .u8 (splice (List.replicate (n75 a 0).toNat 0) 0 ((listF 32 (dgB (smS a)) 0).take (n75 a 0).toNat)))], smC a) :=
  run_parts (by kernel_rfl) (by kernel_rfl) (by kernel_rfl)
theorem sum_1 (a : Nat → Int) (w : List (List Int)) : runF g4 2000 [] 15 [.ptr 0 0] [dgV (.ptr 1 0) a, .log w] [5] =
    some (.sl 2 (n75 a 0).toNat 0 1 0 (n75 a 0).toNat false, [some (dgV (.ptr 1 0) (n75 a)), some (.log ((w ++ [[2, a 74]]) ++ [[3, 31]])), some (.ints .u8 (splice (List.replicate (n75 a 0).toNat 0) 0 ((listF 32 (dgB (smS a)) 0).take (n75 a 0).toNat)))], (smC a).take 2 ++ ([w.length < 1099511627776, (w ++ [[2, a 74]]).length < 1099511627776] ++ (smC a).drop 2)) :=
  run_parts (by kernel_rfl) (by kernel_rfl) (by kernel_rfl)
theorem sum_n : runF g4 100 [] 15 [nilR] [] [] = some (.raw (.slice none 0 0), [], []) := by kernel_rfl
theorem splice_all {X : List Int} {n : Nat} (h : X.length = n) : splice (List.replicate n 0) 0 X = X := by
  unfold splice
  rw [List.take_zero, List.nil_append, List.drop_of_length_le (by rw [List.length_replicate]; omega), List.append_nil]
/-- the digest that Sum tells -/
noncomputable def dgL (a : Nat → Int) : List Int := (listF 32 (dgB (smS a)) 0).take (a 0).toNat
theorem dgL_len {a : Nat → Int} (h : 0 ≤ a 0 ∧ a 0 ≤ 32) : (dgL a).length = (a 0).toNat := by
  rw [dgL, List.length_take, listF_length]; omega
abbrev suW (w : List (List Int)) (a : Nat → Int) : List (List Int) := w ++ [[2, a 74], [3, 31]]
noncomputable def F15 : SumF := fun args B => match args, B with
  | [.ptr 0 0], [.cells ms] => match dgAs ms, headK (ms.take 1) with
    | some la, .nil => some { val := .sl 1 (atL la 0).toNat 0 1 0 (atL la 0).toNat false, upd := [(0, some (dgV nilR (atL la)))], new := [.ints .u8 (dgL (atL la))], C := [0 ≤ atL la 74 ∧ atL la 74 ≤ 64, 0 ≤ atL la 0 ∧ atL la 0 ≤ 32] }
    | _, _ => none
  | [.ptr 0 0], [.cells ms, .log w] => match dgAs ms, headK (ms.take 1) with
    | some la, .log1 => some { val := .sl 2 (atL la 0).toNat 0 1 0 (atL la 0).toNat false, upd := [(0, some (dgV (.ptr 1 0) (atL la))), (1, some (.log (suW w (atL la))))], new := [.ints .u8 (dgL (atL la))], C := [0 ≤ atL la 74 ∧ atL la 74 ≤ 64, 0 ≤ atL la 0 ∧ atL la 0 ≤ 32, w.length < 1099511627770] }
    | _, _ => none
  | [.raw (.pointer none)], [] => some { val := .raw (.slice none 0 0) }
  | _, _ => none
theorem smC_ok {a : Nat → Int} (h : 0 ≤ a 74 ∧ a 74 ≤ 64) (h0 : 0 ≤ a 0 ∧ a 0 ≤ 32) : AllC (smC a) := by
  have e := n75_at (a := a) (j := 0) (by omega)
  simp only [smC, allC_cons, allC_nil, and_true]
  rw [e]
  refine ⟨by rw [List.length_replicate]; omega, ⟨by omega, by omega, by omega⟩, ⟨by omega, trivial, by omega⟩, fits_of (by omega) (by omega), ?_⟩
  rw [List.length_take, listF_length, List.length_replicate]; omega
theorem acc15 : Acc g4 15 F15 := by
  intro args B out h hC
  unfold F15 at h
  split at h
  · rename_i ms
    split at h
    · rename_i la ha hr
      have hr := head_nil hr
      simp only [Option.some.injEq] at h; subst h
      simp only [allC_cons, allC_nil, and_true] at hC
      refine FnOk.preB (B' := [dgV nilR (atL la)]) ?_ ⟨cells_dg ha hr rfl, trivial⟩ (fun j => by
        match j with
        | 0 => rfl
        | 1 => rfl
        | j + 2 => rfl)
      have hrun := sum_0 (atL la)
      have hc := smC_ok hC.1 hC.2
      have hl := dgL_len hC.2
      rw [n75_la ha] at hrun
      unfold smC at hc
      rw [n75_la ha] at hc
      have es : splice (List.replicate (atL la 0).toNat 0) 0 ((listF 32 (dgB (smS (atL la))) 0).take (atL la 0).toNat) = dgL (atL la) := splice_all hl
      rw [es] at hrun
      refine FnOk.val (FnOk.run (out := { val := .sl 1 (atL la 0).toNat 0 1 0 (atL la 0).toNat false, upd := [(0, some (dgV nilR (atL la)))], new := [.ints .u8 (dgL (atL la))] }) (new := [4]) g4_ok hrun ?_ (by simp [upto]) rfl (by simp) (by simp) (fun j hj => by
        match j, hj with
        | 0, _ => rfl
        | 1, _ => rfl)) (fun _ _ _ _ h => h)
      unfold smC
      rw [n75_la ha]
      exact hc
    · simp at h
  · rename_i ms w
    split at h
    · rename_i la ha hr
      have hr := head_log1 hr
      simp only [Option.some.injEq] at h; subst h
      simp only [allC_cons, allC_nil, and_true] at hC
      obtain ⟨h1, h2, h3⟩ := hC
      refine FnOk.preB (B' := [dgV (.ptr 1 0) (atL la), .log w]) ?_ ⟨cells_dg ha hr rfl, ⟨BImp.refl _, fun _ h => by simp at h⟩, trivial⟩ (fun j => by
        match j with
        | 0 => rfl
        | 1 => rfl
        | 2 => rfl
        | j + 3 => rfl)
      have hrun := sum_1 (atL la) w
      have hc := smC_ok h1 h2
      have hl := dgL_len h2
      have es : splice (List.replicate (atL la 0).toNat 0) 0 ((listF 32 (dgB (smS (atL la))) 0).take (atL la 0).toNat) = dgL (atL la) := splice_all hl
      have ew : (w ++ [[2, atL la 74]]) ++ [[3, 31]] = suW w (atL la) := by simp
      rw [n75_la ha, es, ew] at hrun
      refine FnOk.val (FnOk.run (out := { val := .sl 2 (atL la 0).toNat 0 1 0 (atL la 0).toNat false, upd := [(0, some (dgV (.ptr 1 0) (atL la))), (1, some (.log (suW w (atL la))))], new := [.ints .u8 (dgL (atL la))] }) (new := [5]) g4_ok hrun ?_ (by simp [upto]) rfl (by simp) (by simp) (fun j hj => by
        match j, hj with
        | 0, _ => rfl
        | 1, _ => rfl
        | 2, _ => rfl)) (fun _ _ _ _ h => h)
      refine allC_append.2 ⟨?_, allC_append.2 ⟨?_, ?_⟩⟩
      · exact fun p hp => hc p (List.mem_of_mem_take hp)
      · simp only [allC_cons, allC_nil, and_true, List.length_append, List.length_cons, List.length_nil]; omega
      · exact fun p hp => hc p (List.mem_of_mem_drop hp)
    · simp at h
  · simp only [Option.some.injEq] at h; subst h
    exact FnOk.pure g4_ok sum_n (by simp [AllC])
  · simp at h
noncomputable abbrev gs : Ctx := g4.add [(15, F15)]
theorem gs_ok : CtxU gs := g4_ok.add mixed noGo (by
  intro x hx
  simp only [List.mem_cons, List.not_mem_nil, or_false] at hx
  rcases hx with rfl
  exact acc15)
/-! ### the one variable -/
noncomputable def _root_.Go.Vx.Ctx.gl (g : Ctx) (v : SV) : Ctx := { P := g.P, sum := g.sum, glob := fun n => bif Nat.beq n 0 then some v else none }
theorem gl_ok {g : Ctx} {v : SV} (hU : CtxU g) (hn : ∀ n, g.glob n = none) : CtxU (g.gl v) := fun w0 O hG => by
  have h := hU w0 O (fun n v h => by rw [hn] at h; simp at h)
  exact ⟨hG, h.sums, h.mixed, h.names⟩
theorem FnOk.gl {g : Ctx} {v : SV} {f : FuncId} {args : List SV} {B : List Body} {out : OpOut} (hn : ∀ n, g.glob n = none) (h : FnOk g f args B out) : FnOk (g.gl v) f args B out :=
  fun w0 O hG ρ Φ vs w d x hr => h w0 O (fun n v h => by rw [hn] at h; simp at h) ρ Φ vs w d x hr
theorem Acc.gl {g : Ctx} {v : SV} {f : FuncId} {F : SumF} (hn : ∀ n, g.glob n = none) (h : Acc g f F) : Acc (g.gl v) f F :=
  fun args B out hF hC => FnOk.gl hn (h args B out hF hC)
abbrev eV (p : Addr) : SV := .raw (.iface 120 (.pointer (some p)))
end Go.Proofs.Tryd

namespace Go.Proofs.Tryd
open Go Go.Vx
/-! ### known -/
noncomputable abbrev gk0 : Ctx := g3.add [(15, F15)]
theorem gk0_ok : CtxU gk0 := g3_ok.add mixed noGo (by
  intro x hx
  simp only [List.mem_cons, List.not_mem_nil, or_false] at hx
  rcases hx with rfl
  exact Acc.of (g := g4) rfl rfl acc15)
noncomputable abbrev gK (p : Addr) : Ctx := gk0.gl (eV p)
theorem gK_ok (p : Addr) : CtxU (gK p) := gl_ok gk0_ok fun _ => rfl
noncomputable abbrev knP : List Plan := [.br false, .br false, .br false, .br false, .br true, .fix 0, .br true, .br false, .fix 0, .fix 2, .br false, .br true, .fix 1, .br true, .br false, .fix 2, .fix 2, .br false, .br false, .br false, .br false, .br false, .br false, .br true, .br false, .fix 0, .fix 4, .br false, .br true, .br true, .br true, .br true, .br true, .br true, .br true]
abbrev knC (p : Addr) : List Prop := [(0 : Nat) < 1099511627776, false = false, (1 : Nat) < 1099511627776, false = false, (2 : Nat) < 1099511627776, false = false, (3 : Nat) < 1099511627776, false = false, (4 : Nat) < 1099511627776, true = true, (6 : Nat) < 1099511627776, true = true, (7 : Nat) < 1099511627776, false = false, (8 : Nat) < 1099511627776, (0 : Int) = 0, (9 : Nat) < 1099511627776, (2 : Int) = 2, (10 : Nat) < 1099511627776, false = false, (5 : Nat) < 1099511627776, (0 : Int) = 0, (11 : Nat) < 1099511627776, true = true, (13 : Nat) < 1099511627776, true = true, (14 : Nat) < 1099511627776, false = false, (15 : Nat) < 1099511627776, (2 : Int) = 2, (16 : Nat) < 1099511627776, (2 : Int) = 2, (17 : Nat) < 1099511627776, false = false, (12 : Nat) < 1099511627776, (1 : Int) = 1, (18 : Nat) < 1099511627776, false = false, Fits .i64 ((32 : Nat) : Int), (0 : Nat) + 32 ≤ 32, (0 : Nat) + 0 + 32 ≤ 32, (0 : Int) ≤ 4 ∧ (4 : Int) ≤ 64, (0 : Int) ≤ 32 ∧ (32 : Int) ≤ 32, (19 : Nat) < 1099511627770, false = false, false = false, false = false, false = false, true = true, false = false, (0 : Int) = 0, (4 : Int) = 4, false = false, (0 : Int) ≤ 4 ∧ (4 : Int) ≤ 64, (0 : Int) ≤ 16 ∧ (16 : Int) ≤ 32, true = true, p = p, true = true, (15 : Nat) < 16, (0 : Int) ≤ 15 ∧ (15 : Int) < ((16 : Nat) : Int), true = true, (0 : Nat) < 16, (0 : Int) ≤ 0 ∧ (0 : Int) < ((16 : Nat) : Int), true = true, Fits .i64 ((16 : Nat) : Int), true = true, true = true]
set_option maxRecDepth 100000 in
theorem kn_run (p : Addr) : runF (gK p) 6000 knP 13 [] [] [] = some (.sbool true, [], knC p) := run_parts (by kernel_rfl) (by kernel_rfl) (by kernel_rfl)
theorem knC_ok (p : Addr) : AllC (knC p) := by
  have f : ∀ n : Nat, n < 100 → Fits .i64 (n : Int) := fun n h => fits_of (by omega) (by omega)
  have f32 := f 32 (by omega)
  have f16 := f 16 (by omega)
  simp only [knC, allC_cons, allC_nil, and_true]
  simp only [f32, f16, true_and]
  decide
def F13 : SumF := fun args B => match args, B with
  | [], [] => some { val := .sbool true }
  | _, _ => none
theorem acc13 (p : Addr) : Acc (gK p) 13 F13 := by
  intro args B out h hC
  unfold F13 at h
  split at h
  · simp only [Option.some.injEq] at h; subst h
    exact FnOk.pure (gK_ok p) (kn_run p) (knC_ok p)
  · simp at h
/-! ### the variable as it is laid -/
theorem star : "*" ++ "errors.errorString" = "*errors.errorString" := by decide
theorem row120 (u : TypeId) (h : Tryd.prog.typeName? 3 u = some "*errors.errorString") : u = 120 :=
  typeName_ptr_named (nm := "errors.errorString") (by rw [star]; kernel_rfl) (by kernel_rfl) (by decide) u (by rw [star]; exact h)
theorem laid_err {W : World} (hL : laidMet Tryd.prog [("pintle/api.ErrArg", .iface "*errors.errorString" (.ptr (.agg [.lit (.string [112, 105, 110, 116, 108, 101, 58, 32, 97, 114, 103, 117, 109, 101, 110, 116])])))] W) :
    ∃ p, W.cell? ⟨0, 0, none⟩ = some (.iface 120 (.pointer (some p))) := by
  have hg : Tryd.prog.globalNamed "pintle/api.ErrArg" = some 0 := by kernel_rfl
  obtain ⟨a, s, hv, _⟩ := laid_sentinel hL hg (by kernel_rfl) Tryd.underlying26 row120 Tryd.underlying120 Tryd.underlying136 rfl rfl Tryd.underlying9 (by kernel_rfl) (by kernel_rfl)
  exact ⟨a, by simpa using World.var?_cell hg hv 0⟩
/-! ### all accounts -/
noncomputable abbrev g5 : Ctx := g4.add [(14, F14), (15, F15)]
theorem g5_ok : CtxU g5 := g4_ok.add mixed noGo (by
  intro x hx
  simp only [List.mem_cons, List.not_mem_nil, or_false] at hx
  rcases hx with rfl | rfl
  · exact acc14
  · exact acc15)
noncomputable abbrev gn (p : Addr) : Ctx := (g5.gl (eV p)).add [(13, F13)]
theorem gn_ok (p : Addr) : CtxU (gn p) := (gl_ok g5_ok fun _ => rfl).add mixed noGo (by
  intro x hx
  simp only [List.mem_cons, List.not_mem_nil, or_false] at hx
  rcases hx with rfl
  exact Acc.of (g := gK p) rfl rfl (acc13 p))
theorem glob_ok (p : Addr) (W : World) (h : W.cell? ⟨0, 0, none⟩ = some (.iface 120 (.pointer (some p)))) : GlobOk (gn p) W (O0 W) := by
  intro n v hv
  have hv : (bif Nat.beq n 0 then some (eV p) else none) = some v := hv
  cases hn : Nat.beq n 0 with
  | false =>
    rw [hn] at hv
    have hv : (none : Option SV) = some v := hv
    injection hv
  | true =>
    rw [hn] at hv
    obtain rfl := Nat.eq_of_beq_eq_true hn
    have hv : some (eV p) = some v := hv
    injection hv with hv; subst hv
    refine ⟨[.iface 120 (.pointer (some p))], fun j v hj => ?_, by simp only [DenC]; simp [isAggV]⟩
    match j, hj with
    | 0, hj =>
      have hj : some (Value.iface 120 (.pointer (some p))) = some v := hj
      injection hj with hj; subst hj; exact h
    | j + 1, hj =>
      have hj : (none : Option Value) = some v := by simp at hj
      injection hj
end Go.Proofs.Tryd

namespace Go.Proofs.Tryd
open Go Go.Vx
/-! ### steps as rows -/
noncomputable abbrev rowY (p : Nat → Bool) (d : Nat → List Int) : Nat → SV := fun i => .agg [.sbool (p i), .roi .u8 (d i)]
def pOf (f : Nat → SV) (i : Nat) : Bool := match f i with | .agg [.sbool b, _] => b | _ => false
def dOf (f : Nat → SV) (i : Nat) : List Int := match f i with | .agg [_, .roi _ l] => l | _ => []
/-! ### DigestNothing: the loop -/
variable (p : Addr)
abbrev noKeep : List Nat := [0, 3, 4, 5, 6]
noncomputable abbrev noBody : Code := bodyAt Tryd.prog 4 7
noncomputable abbrev noO (q : Nat → Bool) (d : Nat → List Int) (m : Nat) (n i : Int) : List SV := [.ro 2 m (rowY q d), nilR, .ptr 0 0, .int .i64 n, .int .i64 i]
noncomputable abbrev noS (q : Nat → Bool) (d : Nat → List Int) (m : Nat) (n i : Int) : List (Nat × SV) := noKeep.zip (noO q d m n i)
noncomputable abbrev noB (a : Nat → Int) : List Body := [dgV nilR a]
abbrev stC (m i : Nat) (n : Int) (e : List Int) (b : Bool) : List Prop := [Fits .i64 (m : Int), decide ((i : Int) < (m : Int)) = true, (0 : Int) ≤ (i : Int) ∧ (i : Int) < (m : Int), Fits .i64 (131072 - n), Fits .i64 (e.length : Int), decide (131072 - n < (e.length : Int)) = b]
abbrev heC (a : Nat → Int) : List Prop := [0 ≤ a 74 ∧ a 74 ≤ 64]
abbrev wrC (i m : Nat) (n : Int) (e : List Int) (a : Nat → Int) : List Prop := [Fits .i64 (n + (e.length : Int)), Fits .i64 (e.length : Int), 0 ≤ n75 a 74 ∧ n75 a 74 ≤ 64, e.length ≤ 140737488355328]
abbrev suC (x : Nat → Int) : List Prop := [Fits .i64 ((n75 x 0).toNat : Int), 0 ≤ n75 x 74 ∧ n75 x 74 ≤ 64, 0 ≤ n75 x 0 ∧ n75 x 0 ≤ 32]
theorem no_go0 (q : Nat → Bool) (d : Nat → List Int) (m i : Nat) (n : Int) (a : Nat → Int) : runC (gn p) 600 69 [.br true, .br false, .br false] noBody (noS q d m n (i : Int)) (noB a) noKeep [0] =
    some (.normal, noO q d m (n + ((d i).length : Int)) ((i : Int) + 1), (noB (wrA (n75 a) (d i))).map some, stC m i n (d i) false ++ (wrC i m n (d i) a ++ [q i = false, (0 : Int) ≤ (i : Int) ∧ (i : Int) < (m : Int), Fits .i64 ((i : Int) + 1)])) :=
  r3_parts4 (by kernel_rfl) (by kernel_rfl) (by kernel_rfl) (by kernel_rfl)
theorem no_go1 (q : Nat → Bool) (d : Nat → List Int) (m i : Nat) (n : Int) (a : Nat → Int) : runC (gn p) 600 69 [.br true, .br false, .br true, .br false] noBody (noS q d m n (i : Int)) (noB a) noKeep [0] =
    some (.normal, noO q d m (n + ((d i).length : Int)) ((i : Int) + 1), (noB (wrA (n75 a) (d i))).map some, [Fits .i64 (m : Int), decide ((i : Int) < (m : Int)) = true, (0 : Int) ≤ (i : Int) ∧ (i : Int) < (m : Int), Fits .i64 (131072 - n), Fits .i64 ((d i).length : Int), decide (131072 - n < ((d i).length : Int)) = false, Fits .i64 (n + ((d i).length : Int)), Fits .i64 ((d i).length : Int), 0 ≤ n75 a 74 ∧ n75 a 74 ≤ 64, (d i).length ≤ 140737488355328, Fits .i64 ((n75 (wrA (n75 a) (d i)) 0).toNat : Int), 0 ≤ n75 (wrA (n75 a) (d i)) 74 ∧ n75 (wrA (n75 a) (d i)) 74 ≤ 64, 0 ≤ n75 (wrA (n75 a) (d i)) 0 ∧ n75 (wrA (n75 a) (d i)) 0 ≤ 32, q i = true, (0 : Int) ≤ (i : Int) ∧ (i : Int) < (m : Int), (!decide (((n75 (wrA (n75 a) (d i)) 0).toNat : Int) = 0)) = false, Fits .i64 ((i : Int) + 1)]) :=
  r3_parts4 (by kernel_rfl) (by kernel_rfl) (by kernel_rfl) (by kernel_rfl)
theorem no_long (q : Nat → Bool) (d : Nat → List Int) (m i : Nat) (n : Int) (a : Nat → Int) : runC (gn p) 600 69 [.br true, .br true] noBody (noS q d m n (i : Int)) (noB a) [2] [0] =
    some (.ret, [.bool true], (noB a).map some, stC m i n (d i) true) :=
  r3_parts4 (by kernel_rfl) (by kernel_rfl) (by kernel_rfl) (by kernel_rfl)
theorem no_end (q : Nat → Bool) (d : Nat → List Int) (m i : Nat) (n : Int) (a : Nat → Int) : runC (gn p) 600 69 [.br false] noBody (noS q d m n (i : Int)) (noB a) noKeep [0] =
    some (.exit 0, noO q d m n (i : Int), (noB a).map some, [Fits .i64 (m : Int), decide ((i : Int) < (m : Int)) = false]) :=
  r3_parts4 (by kernel_rfl) (by kernel_rfl) (by kernel_rfl) (by kernel_rfl)
/-! what was taken -/
def xZ (d : Nat → List Int) : Nat → List Int
  | 0 => []
  | i + 1 => xZ d i ++ d i
noncomputable def aZ (a : Nat → Int) (d : Nat → List Int) : Nat → (Nat → Int)
  | 0 => a
  | i + 1 => wrA (n75 (aZ a d i)) (d i)
/-- the first i below m at which P holds, or m -/
def firstI (P : Nat → Bool) : Nat → Nat
  | 0 => 0
  | m + 1 => if firstI P m < m then firstI P m else if P m then m else m + 1
theorem firstI_spec (P : Nat → Bool) : ∀ m, firstI P m ≤ m ∧ (∀ i, i < firstI P m → P i = false) ∧ (firstI P m < m → P (firstI P m) = true)
  | 0 => ⟨Nat.le_refl _, fun i hi => absurd hi (Nat.not_lt_zero i), fun h => absurd h (Nat.lt_irrefl 0)⟩
  | m + 1 => by
    obtain ⟨h1, h2, h3⟩ := firstI_spec P m
    by_cases c : firstI P m < m
    · have e : firstI P (m + 1) = firstI P m := by simp only [firstI]; rw [if_pos c]
      rw [e]
      exact ⟨by omega, h2, fun _ => h3 c⟩
    · have em : firstI P m = m := by omega
      cases hp : P m with
      | true =>
        have e : firstI P (m + 1) = m := by simp only [firstI]; rw [if_neg c, hp]; rfl
        rw [e]
        exact ⟨by omega, fun i hi => h2 i (by omega), fun _ => hp⟩
      | false =>
        have e : firstI P (m + 1) = m + 1 := by simp only [firstI]; rw [if_neg c, hp]; rfl
        rw [e]
        refine ⟨Nat.le_refl _, fun i hi => ?_, fun h => absurd h (Nat.lt_irrefl _)⟩
        by_cases ci : i < m
        · exact h2 i (by omega)
        · rw [show i = m by omega]; exact hp
def stp (d : Nat → List Int) (m : Nat) : Nat := firstI (fun i => decide (131072 < (xZ d i).length + (d i).length)) m
theorem stp_le (d : Nat → List Int) (m : Nat) : stp d m ≤ m := (firstI_spec _ m).1
theorem stp_lt {d : Nat → List Int} {m i : Nat} (h : i < stp d m) : (xZ d i).length + (d i).length ≤ 131072 := by
  have := (firstI_spec _ m).2.1 i h
  have := of_decide_eq_false this
  omega
theorem stp_at {d : Nat → List Int} {m : Nat} (h : stp d m < m) : 131072 < (xZ d (stp d m)).length + (d (stp d m)).length := of_decide_eq_true ((firstI_spec _ m).2.2 h)
theorem xZ_len {d : Nat → List Int} {m : Nat} : ∀ i, i ≤ stp d m → (xZ d i).length ≤ 131072
  | 0, _ => by simp [xZ]
  | i + 1, h => by
    have := stp_lt (show i < stp d m by omega)
    simp only [xZ, List.length_append]; omega
abbrev Bytes (l : List Int) : Prop := ∀ j, Byte (l.getD j 0)
theorem bytes_of {l : List Int} (h : ∀ n ∈ l, Fits .u8 n) : Bytes l := fun j => by
  rw [List.getD_eq_getElem?_getD]
  cases e : l[j]? with
  | none => exact ⟨by decide, by decide⟩
  | some v =>
    have := h v (List.mem_of_getElem? e)
    exact ⟨this.1, Int.lt_of_le_of_lt this.2 (by decide)⟩
abbrev YB (d : Nat → List Int) (m : Nat) : Prop := ∀ i, i < m → Bytes (d i)
theorem rowY_bytes {f : Nat → SV} {m : Nat} (h : f = rowY (pOf f) (dOf f)) (hf : ∀ i, i < m → factsC (f i)) : YB (dOf f) m := fun i hi => by
  have := hf i hi
  rw [h] at this
  have h2 : factsL [.sbool (pOf f i), .roi .u8 (dOf f i)] := this
  exact bytes_of h2.2.1
theorem stC_ok {m i : Nat} {n : Nat} {e : List Int} {b : Bool} (Fm : Fits .i64 (m : Int)) (hi : i < m) (hx : n ≤ 131072) (he : Fits .i64 (e.length : Int)) (hb : decide (131072 < n + e.length) = b) : AllC (stC m i n e b) := by
  simp only [stC, allC_cons, allC_nil, and_true]
  refine ⟨Fm, decide_eq_true (by omega), ⟨by omega, by omega⟩, fits_of (by omega) (by omega), he, ?_⟩
  rw [← hb]
  exact decide_eq_decide.2 (by omega)
/-! the size and what is held stay in their bounds -/
theorem flA_size (a : Nat → Int) : flA a 0 = a 0 := by
  show n75 (cntA a) 0 = a 0
  rw [n75_at (by omega)]; rfl
theorem ovA_size (a : Nat → Int) (l : List Int) : ovA a l 0 = a 0 := rfl
theorem wrF_size : ∀ (n : Nat) (a : Nat → Int) (l : List Int), wrF n a l 0 = a 0
  | 0, _, _ => rfl
  | n + 1, a, l => by
    simp only [wrF]
    by_cases c : l = []
    · rw [if_pos c]
    · rw [if_neg c, wrF_size n]
      unfold stepA
      rw [ovA_size]
      by_cases c6 : a 74 = 64
      · rw [if_pos c6, flA_size]
      · rw [if_neg c6]
theorem wrF_held : ∀ (n : Nat) (a : Nat → Int) (l : List Int), 0 ≤ a 74 ∧ a 74 ≤ 64 → 0 ≤ wrF n a l 74 ∧ wrF n a l 74 ≤ 64
  | 0, _, _, h => h
  | n + 1, a, l, h => by
    simp only [wrF]
    by_cases c : l = []
    · rw [if_pos c]; exact h
    · rw [if_neg c]; exact wrF_held n _ _ (step_held h)
/-- a size below 33, at most a block held -/
def OkA (a : Nat → Int) : Prop := (0 ≤ a 74 ∧ a 74 ≤ 64) ∧ 0 ≤ a 0 ∧ a 0 ≤ 32
theorem OkA.n {a : Nat → Int} (h : OkA a) : OkA (n75 a) := by
  unfold OkA; rw [n75_at (by omega), n75_at (by omega)]; exact h
theorem OkA.wr {a : Nat → Int} (h : OkA a) (l : List Int) : OkA (wrA a l) := ⟨wrF_held _ _ _ h.1, by unfold wrA; rw [wrF_size]; exact h.2⟩
theorem OkA.aZ {a : Nat → Int} (h : OkA a) (d : Nat → List Int) : ∀ i, OkA (aZ a d i)
  | 0 => h
  | i + 1 => (OkA.aZ h d i).n.wr _
theorem aZ_size {a : Nat → Int} (d : Nat → List Int) : ∀ i, aZ a d i 0 = a 0
  | 0 => rfl
  | i + 1 => by
    show wrF _ _ _ 0 = _
    rw [wrF_size, n75_at (by omega), aZ_size d i]
/-! ### DigestNothing: the loops -/
theorem no_round {w0 : World} {O : Go.Vx.Own} (hgl : GlobOk (gn p) w0 O) (q : Nat → Bool) (d : Nat → List Int) (m : Nat) (a : Nat → Int) (h0 : OkA a) (hz : a 0 = 0) (Fm : Fits .i64 (m : Int)) (hm : m ≤ 400) (i : Nat) (hi : i < stp d m) :
    SimC (gn p).P w0 O 69 noBody (noS q d m ((xZ d i).length : Int) (i : Int)) (noB (aZ a d i)) .normal (noS q d m ((xZ d (i + 1)).length : Int) ((i + 1 : Nat) : Int)) (noB (aZ a d (i + 1))) 1 := by
  have hle := stp_le d m
  have hl := stp_lt hi
  have hx := xZ_len (d := d) (m := m) i (by omega)
  have F1 : Fits .i64 ((i : Int) + 1) := fits_of (by omega) (by omega)
  have Fl : Fits .i64 ((d i).length : Int) := fits_of (by omega) (by omega)
  have M := (h0.aZ d i).n
  have M2 := (h0.aZ d (i + 1)).n
  have ap : ((xZ d (i + 1)).length : Int) = ((xZ d i).length : Int) + ((d i).length : Int) := by simp [xZ]
  have Fn : Fits .i64 (((xZ d i).length : Int) + ((d i).length : Int)) := fits_of (by omega) (by omega)
  have hs : AllC (stC m i ((xZ d i).length : Int) (d i) false) := stC_ok Fm (by omega) hx Fl (decide_eq_false (by omega))
  simp only [stC, allC_cons, allC_nil, and_true] at hs
  obtain ⟨s1, s2, s3, s4, s5, s6⟩ := hs
  rw [ap]
  cases hp : q i with
  | false =>
    refine SimC.run (B' := noB (aZ a d (i + 1))) (gn_ok p) (by decide) (no_go0 p q d m i ((xZ d i).length : Int) (aZ a d i)) (allC_append.2 ⟨?_, allC_append.2 ⟨?_, ?_⟩⟩) (by decide) i1 (by decide) (by simp) hgl
    · simp only [stC, allC_cons, allC_nil, and_true]; exact ⟨s1, s2, s3, s4, s5, s6⟩
    · simp only [wrC, allC_cons, allC_nil, and_true]; exact ⟨Fn, Fl, M.1, by omega⟩
    · simp only [allC_cons, allC_nil, and_true]; exact ⟨hp, s3, F1⟩
  | true =>
    have z : n75 (wrA (n75 (aZ a d i)) (d i)) 0 = 0 := by
      rw [n75_at (by omega)]
      show aZ a d (i + 1) 0 = 0
      rw [aZ_size, hz]
    refine SimC.run (B' := noB (aZ a d (i + 1))) (gn_ok p) (by decide) (no_go1 p q d m i ((xZ d i).length : Int) (aZ a d i)) ?_ (by decide) i1 (by decide) (by simp) hgl
    simp only [allC_cons, allC_nil, and_true]
    rw [z]
    exact ⟨s1, s2, s3, s4, s5, s6, Fn, Fl, M.1, by omega, fits_of (by decide) (by decide), M2.1, by decide, hp, s3, by decide, F1⟩
noncomputable def noG0 : LoopF := fun vals B => match vals, B with
  | [.ro 2 m f, .raw (.pointer none), .ptr 0 0, .int .i64 0, .int .i64 0], [.cells ms] => match dgAs ms, headK (ms.take 1) with
    | some la, .nil => some ([(3, nilR), (4, .ptr 0 0)], noB (aZ (atL la) (dOf f) m), [f = rowY (pOf f) (dOf f), Fits .i64 (m : Int), m ≤ 400, OkA (atL la), atL la 0 = 0, stp (dOf f) m = m])
    | _, _ => none
  | _, _ => none
noncomputable def noG1 : LoopF := fun vals B => match vals, B with
  | [.ro 2 m f, .raw (.pointer none), .ptr 0 0, .int .i64 0, .int .i64 0], [.cells ms] => match dgAs ms, headK (ms.take 1) with
    | some la, .nil => some ([(2, .bool true)], noB (aZ (atL la) (dOf f) (stp (dOf f) m)), [f = rowY (pOf f) (dOf f), Fits .i64 (m : Int), m ≤ 400, OkA (atL la), atL la 0 = 0, stp (dOf f) m < m, Fits .i64 ((dOf f (stp (dOf f) m)).length : Int)])
    | _, _ => none
  | _, _ => none
theorem no_loop0 : LoopGood (gn p) 69 (.loop noBody) noKeep 1 (.exit 0) (mkLoopN noG0) := by
  refine LoopGood.mkN (by decide) fun vals B S' B' C hG hC hlen w0 O hgl => ?_
  clear hlen
  unfold noG0 at hG
  split at hG
  · rename_i m f ms
    split at hG
    · rename_i la ha hr
      have hr := head_nil hr
      simp only [Option.some.injEq, Prod.mk.injEq] at hG
      obtain ⟨rfl, rfl, rfl⟩ := hG
      simp only [allC_cons, allC_nil, and_true] at hC
      obtain ⟨hf, Fm, hm, h0, hz, hN⟩ := hC
      generalize pOf f = q at *
      generalize hdd : dOf f = d at *
      rw [hf]
      clear hf hdd
      refine SimC.preI (B1 := [dgV nilR (atL la)]) ?_ ⟨cells_dg ha hr rfl, trivial⟩
      show SimC _ _ _ _ _ (noS q d m ((xZ d 0).length : Int) ((0 : Nat) : Int)) (noB (aZ (atL la) d 0)) _ _ _ _
      refine SimC.iter (g := gn p) (e := .exit 0) (S := fun i => noS q d m ((xZ d i).length : Int) (i : Int)) (B := fun i => noB (aZ (atL la) d i)) (N := m) (fun i hi => no_round p hgl q d m (atL la) h0 hz Fm hm i (by omega)) ?_ (by simp) 0 (by omega)
      exact SimC.weaken (SimC.run (B' := noB (aZ (atL la) d m)) (gn_ok p) (by decide) (no_end p q d m m _ _) (by simp only [allC_cons, allC_nil, and_true]; exact ⟨Fm, decide_eq_false (by omega)⟩) (by decide) i1 (by decide) (by simp) hgl) (sub_mkT (by simp; exact ⟨rfl, rfl⟩))
    · simp at hG
  · simp at hG
theorem no_loop1 : LoopGood (gn p) 69 (.loop noBody) noKeep 1 .ret (mkLoopN noG1) := by
  refine LoopGood.mkN (by decide) fun vals B S' B' C hG hC hlen w0 O hgl => ?_
  clear hlen
  unfold noG1 at hG
  split at hG
  · rename_i m f ms
    split at hG
    · rename_i la ha hr
      have hr := head_nil hr
      simp only [Option.some.injEq, Prod.mk.injEq] at hG
      obtain ⟨rfl, rfl, rfl⟩ := hG
      simp only [allC_cons, allC_nil, and_true] at hC
      obtain ⟨hf, Fm, hm, h0, hz, hN, Fl⟩ := hC
      generalize pOf f = q at *
      generalize hdd : dOf f = d at *
      rw [hf]
      clear hf hdd
      refine SimC.preI (B1 := [dgV nilR (atL la)]) ?_ ⟨cells_dg ha hr rfl, trivial⟩
      show SimC _ _ _ _ _ (noS q d m ((xZ d 0).length : Int) ((0 : Nat) : Int)) (noB (aZ (atL la) d 0)) _ _ _ _
      refine SimC.iter (g := gn p) (e := .ret) (S := fun i => noS q d m ((xZ d i).length : Int) (i : Int)) (B := fun i => noB (aZ (atL la) d i)) (N := stp d m) (fun i hi => no_round p hgl q d m (atL la) h0 hz Fm hm i hi) ?_ (by simp) 0 (by omega)
      exact SimC.weaken (SimC.run (B' := noB (aZ (atL la) d (stp d m))) (gn_ok p) (by decide) (no_long p q d m (stp d m) _ _) (stC_ok Fm hN (xZ_len _ (Nat.le_refl _)) Fl (decide_eq_true (stp_at hN))) (by decide) i1 (by decide) (by simp) hgl) (sub_mkT (by simp; exact rfl))
    · simp at hG
  · simp at hG
/-! ### DigestNothing: the account -/
abbrev z75 : List Int := List.replicate 75 0
noncomputable abbrev n1 (d : Nat → List Int) (m : Nat) : Nat → Int := n75 (aZ (atL z75) d m)
noncomputable abbrev noC (q : Nat → Bool) (d : Nat → List Int) (m : Nat) : List Prop := [rowY q d = rowY (pOf (rowY q d)) (dOf (rowY q d)), Fits .i64 (m : Int), m ≤ 400, OkA (atL z75), atL z75 0 = 0]
theorem nothing_run0 (q : Nat → Bool) (d : Nat → List Int) (m : Nat) : runF (gn p) 900 [.br false, .loop 7 noKeep 1 (.exit 0) (mkLoopN noG0), .br true, .br true] 4 [.ro 2 m (rowY q d)] [] [] =
    some (.sbool true, [], [Fits .i64 (m : Int), decide ((400 : Int) < (m : Int)) = false, LoopGood (gn p) 69 (.loop noBody) noKeep 1 (.exit 0) (mkLoopN noG0), rowY q d = rowY (pOf (rowY q d)) (dOf (rowY q d)), Fits .i64 (m : Int), m ≤ 400, OkA (atL z75), atL z75 0 = 0, stp d m = m, decide (((n1 d m 0).toNat : Int) = 0) = true, Fits .i64 ((n1 d m 0).toNat : Int), 0 ≤ n1 d m 74 ∧ n1 d m 74 ≤ 64, 0 ≤ n1 d m 0 ∧ n1 d m 0 ≤ 32]) :=
  run_parts (by kernel_rfl) (by kernel_rfl) (by kernel_rfl)
theorem nothing_run1 (q : Nat → Bool) (d : Nat → List Int) (m : Nat) : runF (gn p) 900 [.br false, .loop 7 noKeep 1 .ret (mkLoopN noG1)] 4 [.ro 2 m (rowY q d)] [] [] =
    some (.bool true, [], [Fits .i64 (m : Int), decide ((400 : Int) < (m : Int)) = false, LoopGood (gn p) 69 (.loop noBody) noKeep 1 .ret (mkLoopN noG1)] ++ (noC q d m ++ [stp d m < m, Fits .i64 ((d (stp d m)).length : Int)])) :=
  run_parts (by kernel_rfl) (by kernel_rfl) (by kernel_rfl)
theorem nothing_run2 (q : Nat → Bool) (d : Nat → List Int) (m : Nat) : runF (gn p) 900 [.br true] 4 [.ro 2 m (rowY q d)] [] [] =
    some (.bool true, [], [Fits .i64 (m : Int), decide ((400 : Int) < (m : Int)) = true]) :=
  run_parts (by kernel_rfl) (by kernel_rfl) (by kernel_rfl)
theorem nothing_ok (m : Nat) (a : Nat → Nat → Int) (d : Nat → Nat → List Int) (Fm : Fits .i64 (m : Int)) (hl : ∀ i j, Fits .i64 ((d i j).length : Int)) (_ : ∀ i, i < m → factsC (.agg (svY [.b, .s .u8] (a i) (d i) 0))) :
    FnOk (gn p) 4 [.ro 2 m fun i => .agg (svY [.b, .s .u8] (a i) (d i) 0)] [] { val := .bool true } := by
  show FnOk (gn p) 4 [.ro 2 m (rowY (fun i => decide (a i 0 = 1)) (fun i => d i 1))] [] { val := .bool true }
  have hl' : ∀ i, Fits .i64 (((fun i => d i 1) i).length : Int) := fun i => hl i 1
  generalize (fun i => decide (a i 0 = 1)) = q at *
  generalize (fun i => d i 1) = e at *
  have hL0 := no_loop0 p
  have hL1 := no_loop1 p
  have hz : OkA (atL z75) := ⟨by decide, by decide⟩
  by_cases h4 : 400 < m
  · exact FnOk.pure (gn_ok p) (nothing_run2 p q e m) (by simp only [allC_cons, allC_nil, and_true]; exact ⟨Fm, decide_eq_true (by omega)⟩)
  · have h0 : decide ((400 : Int) < (m : Int)) = false := decide_eq_false (by omega)
    have hle := stp_le e m
    by_cases hs : stp e m = m
    · refine FnOk.ofSb (b := true) (FnOk.pure (gn_ok p) (nothing_run0 p q e m) ?_) rfl
      have M := (hz.aZ e m).n
      have z : n1 e m 0 = 0 := by
        rw [n1, n75_at (by omega), aZ_size]; rfl
      simp only [allC_cons, allC_nil, and_true]
      rw [z]
      exact ⟨Fm, h0, hL0, rfl, Fm, by omega, hz, rfl, hs, by decide, fits_of (by decide) (by decide), M.1, by decide⟩
    · refine FnOk.pure (gn_ok p) (nothing_run1 p q e m) ?_
      refine allC_append.2 ⟨?_, allC_append.2 ⟨?_, ?_⟩⟩
      · simp only [allC_cons, allC_nil, and_true]; exact ⟨Fm, h0, hL1⟩
      · simp only [noC, allC_cons, allC_nil, and_true]; exact ⟨rfl, Fm, by omega, hz, rfl⟩
      · simp only [allC_cons, allC_nil, and_true]; exact ⟨by omega, hl' _⟩
end Go.Proofs.Tryd
