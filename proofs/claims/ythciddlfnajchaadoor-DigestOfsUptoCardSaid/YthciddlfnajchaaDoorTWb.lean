/- Accounts of this seat's functions: lemmas, no statement of their own. No conditions. -/
import Derived.Test.YthciddlfnajchaaDoorTWa
namespace Go.Proofs.Tryd
open Go Go.Vx
/-! ### Write with a Recorder, over a slice of a list of numbers -/
abbrev wlS (o n : Nat) : List SV := [.ptr 0 0, .sl 1 0 o 1 0 n false]
noncomputable abbrev wlB (a : Nat → Int) (W : List Int) (w : List (List Int)) : List Body := [dgV (.ptr 2 0) a, .ints .u8 W, .log w]
abbrev kW (a : Nat → Int) (W : List Int) (o n : Nat) : Int := kN a (subI W o n)
abbrev wE (a : Nat → Int) (n : Nat) (w : List (List Int)) : List (List Int) := (w ++ [[1, bI (decide (0 < (n : Int)))]]) ++ [[1, bI (decide (a 74 = 64))]]
theorem wl_0 (o n : Nat) (a : Nat → Int) (W : List Int) (w : List (List Int)) : runC g4 600 78 [.br true, .br false] wrBody (wrKeep.zip (wlS o n)) (wlB a W w) wrKeep [0, 1, 2] =
    some (.normal, wlS (o + (kW a W o n).toNat) (n - (kW a W o n).toNat), (wlB (ovA a (subI W o n)) W (((wE a n w) ++ [[2, a 74]]) ++ [[2, kW a W o n]])).map some, [w.length < 1099511627776, Fits .i64 (n : Int), decide (0 < (n : Int)) = true, (w ++ [[1, bI (decide (0 < (n : Int)))]]).length < 1099511627776, decide (a 74 = 64) = false, Fits .i64 (kW a W o n), (a 74).toNat + ((subI W o n).take (64 - (a 74).toNat)).length ≤ 64, o + 0 + n ≤ W.length, 0 ≤ a 74 ∧ a 74 ≤ ((64 : Nat) : Int) ∧ ((64 : Nat) : Int) ≤ ((64 : Nat) : Int), ((wE a n w)).length < 1099511627776, 0 ≤ kW a W o n ∧ kW a W o n ≤ (n : Int) ∧ (n : Int) ≤ (n : Int), ((wE a n w) ++ [[2, a 74]]).length < 1099511627776, Fits .i64 (a 74 + kW a W o n)]) :=
  r3_parts4 (by kernel_rfl) (by kernel_rfl) (by kernel_rfl) (by kernel_rfl)
theorem wl_1 (o n : Nat) (a : Nat → Int) (W : List Int) (w : List (List Int)) : runC g4 600 78 [.br true, .br true] wrBody (wrKeep.zip (wlS o n)) (wlB a W w) wrKeep [0, 1, 2] =
    some (.normal, wlS (o + (kW (flA a) W o n).toNat) (n - (kW (flA a) W o n).toNat), (wlB (ovA (flA a) (subI W o n)) W (((wE a n w ++ [[3, 31]]) ++ [[2, (flA a) 74]]) ++ [[2, kW (flA a) W o n]])).map some, [w.length < 1099511627776, Fits .i64 (n : Int), decide (0 < (n : Int)) = true, (w ++ [[1, bI (decide (0 < (n : Int)))]]).length < 1099511627776, decide (a 74 = 64) = true, (wE a n w).length < 1099511627776, Fits .i64 (kW (flA a) W o n), ((flA a) 74).toNat + ((subI W o n).take (64 - ((flA a) 74).toNat)).length ≤ 64, o + 0 + n ≤ W.length, 0 ≤ (flA a) 74 ∧ (flA a) 74 ≤ ((64 : Nat) : Int) ∧ ((64 : Nat) : Int) ≤ ((64 : Nat) : Int), ((wE a n w ++ [[3, 31]])).length < 1099511627776, 0 ≤ kW (flA a) W o n ∧ kW (flA a) W o n ≤ (n : Int) ∧ (n : Int) ≤ (n : Int), ((wE a n w ++ [[3, 31]]) ++ [[2, (flA a) 74]]).length < 1099511627776, Fits .i64 ((flA a) 74 + kW (flA a) W o n)]) :=
  r3_parts4 (by kernel_rfl) (by kernel_rfl) (by kernel_rfl) (by kernel_rfl)
theorem wl_e (o n : Nat) (a : Nat → Int) (W : List Int) (w : List (List Int)) : runC g4 600 78 [.br false] wrBody (wrKeep.zip (wlS o n)) (wlB a W w) wrKeep [0, 1, 2] =
    some (.exit 0, wlS o n, (wlB a W (w ++ [[1, bI (decide (0 < (n : Int)))]])).map some, [w.length < 1099511627776, Fits .i64 (n : Int), decide (0 < (n : Int)) = false]) :=
  r3_parts4 (by kernel_rfl) (by kernel_rfl) (by kernel_rfl) (by kernel_rfl)
theorem subI_drop (W : List Int) (o n k : Nat) : subI W (o + k) (n - k) = (subI W o n).drop k := by
  rw [subI, subI, List.drop_take, List.drop_drop]
noncomputable abbrev aP (a : Nat → Int) : Nat → Int := if a 74 = 64 then flA a else a
theorem aP_b0 (a : Nat → Int) : aP a 74 = b0 (a 74) := by
  by_cases c : a 74 = 64
  · simp only [aP, b0, if_pos c]; exact flA_held a
  · simp only [aP, b0, if_neg c]
theorem b0_bd {h : Int} (h0 : 0 ≤ h ∧ h ≤ 64) : 0 ≤ b0 h ∧ b0 h < 64 := by
  simp only [b0]; split <;> omega
theorem aP_k {a : Nat → Int} {l : List Int} (h : 0 ≤ a 74 ∧ a 74 ≤ 64) : kN (aP a) l = kR (a 74) (l.length : Int) := by
  have e := aP_b0 a
  have b := b0_bd h
  have := kN_bd (a := aP a) (l := l) (by rw [e]; omega)
  rw [e] at this
  simp only [kR]
  split <;> omega
theorem st_held {a : Nat → Int} {l : List Int} (h : 0 ≤ a 74 ∧ a 74 ≤ 64) : stepA a l 74 = hN (a 74) (l.length : Int) := by
  show ovA (aP a) l 74 = _
  rw [ovA_held, aP_k h, aP_b0]
theorem wrF_ew : ∀ (f : Nat) (a : Nat → Int) (l : List Int), l.length ≤ f → 0 ≤ a 74 ∧ a 74 ≤ 64 → wrF f a l 74 = ewH f (a 74) (l.length : Int)
  | 0, a, l, hl, h => rfl
  | f + 1, a, l, hl, h => by
    by_cases c : l = []
    · subst c
      simp only [wrF, if_true]
      exact (ew_n (f + 1) (a 74)).2.symm
    · have h0 : 0 < l.length := List.length_pos_iff.2 c
      have e1 : wrF (f + 1) a l = wrF f (stepA a l) (stepL a l) := by simp only [wrF]; rw [if_neg c]
      have e2 : ewH (f + 1) (a 74) (l.length : Int) = ewH f (hN (a 74) l.length) (l.length - kR (a 74) l.length) := by simp only [ewH]; exact if_pos (by omega)
      have hlt := step_len h c
      have k := kR_bd h (show (0 : Int) < l.length by omega)
      have el : ((stepL a l).length : Int) = (l.length : Int) - kR (a 74) l.length := by
        show ((l1 (aP a) l).length : Int) = _
        rw [l1_len, aP_k h]; omega
      rw [e1, e2, wrF_ew f _ _ (by omega) (step_held h), st_held h, el]
theorem wrA_ew {a : Nat → Int} {l : List Int} (h : 0 ≤ a 74 ∧ a 74 ≤ 64) : wrA a l 74 = ewH l.length (a 74) (l.length : Int) := wrF_ew _ _ _ (Nat.le_refl _) h
theorem i3 : ∀ j : Nat, j < 3 → ([0, 1, 2] : List Nat)[j]? = some j := fun j hj => by
  match j, hj with
  | 0, _ => rfl
  | 1, _ => rfl
  | 2, _ => rfl
theorem wl_step {w0 : World} {O : Go.Vx.Own} (hgl : GlobOk g4 w0 O) (a : Nat → Int) (W : List Int) (o n : Nat) (w : List (List Int)) (h0 : 0 < n) (h1 : o + n ≤ W.length) (ha : 0 ≤ a 74 ∧ a 74 ≤ 64) (hn : n ≤ 140737488355328) (hw : w.length ≤ 1000000000) :
    SimC g4.P w0 O 78 wrBody (wrKeep.zip (wlS o n)) (wlB a W w) .normal (wrKeep.zip (wlS (o + (kR (a 74) n).toNat) (n - (kR (a 74) n).toNat))) (wlB (stepA a (subI W o n)) W (w ++ evR (a 74) n)) 3 := by
  have hl := subI_length h1
  have F : Fits .i64 (n : Int) := Go.Vx.fits_small (by omega)
  have z1 : decide (0 < (n : Int)) = true := decide_eq_true (by omega)
  have hk := aP_k (l := subI W o n) ha
  have e0 := aP_b0 a
  have bb := b0_bd ha
  have kb := kR_bd ha (show (0 : Int) < (n : Int) by omega)
  rw [hl] at hk
  have hlen : ((subI W o n).take (64 - (b0 (a 74)).toNat)).length ≤ 64 - (b0 (a 74)).toNat := by rw [List.length_take]; exact Nat.min_le_left _ _
  by_cases c : a 74 = 64
  · have ep : aP a = flA a := if_pos c
    have z2 : decide (a 74 = 64) = true := decide_eq_true c
    have hr := wl_1 o n a W w
    have hk2 : kW (flA a) W o n = kR (a 74) n := by rw [← hk, ep]
    rw [ep] at e0
    have eb : b0 (a 74) = 0 := if_pos c
    have ee : ((wE a n w ++ [[3, 31]]) ++ [[2, flA a 74]]) ++ [[2, kW (flA a) W o n]] = w ++ evR (a 74) n := by
      simp only [wE, evR, if_pos c, z1, e0, hk2, List.append_assoc]; rfl
    have es : ovA (flA a) (subI W o n) = stepA a (subI W o n) := by unfold stepA; rw [if_pos c]
    rw [es, ee, hk2] at hr
    rw [← e0] at hlen bb
    refine SimC.run (B' := wlB (stepA a (subI W o n)) W (w ++ evR (a 74) n)) g4_ok (by decide) hr ?_ (by decide) i3 (by decide) (by simp) hgl
    simp only [allC_cons, allC_nil, and_true, List.length_append, List.length_cons, List.length_nil]
    exact ⟨by omega, F, z1, by omega, z2, by omega, fits_of (by omega) (by omega), by omega, by omega, ⟨by omega, by omega, by omega⟩, by omega, ⟨by omega, by omega, by omega⟩, by omega, fits_of (by omega) (by omega)⟩
  · have ep : aP a = a := if_neg c
    have z2 : decide (a 74 = 64) = false := decide_eq_false c
    have hr := wl_0 o n a W w
    have hk2 : kW a W o n = kR (a 74) n := by rw [← hk, ep]
    rw [ep] at e0
    have ee : (wE a n w ++ [[2, a 74]]) ++ [[2, kW a W o n]] = w ++ evR (a 74) n := by
      have e3 : b0 (a 74) = a 74 := e0.symm
      simp only [wE, evR, if_neg c, z1, e3, hk2, List.append_assoc]; rfl
    have es : ovA a (subI W o n) = stepA a (subI W o n) := by unfold stepA; rw [if_neg c]
    rw [es, ee, hk2] at hr
    rw [← e0] at hlen bb
    refine SimC.run (B' := wlB (stepA a (subI W o n)) W (w ++ evR (a 74) n)) g4_ok (by decide) hr ?_ (by decide) i3 (by decide) (by simp) hgl
    simp only [allC_cons, allC_nil, and_true, List.length_append, List.length_cons, List.length_nil]
    exact ⟨by omega, F, z1, by omega, z2, fits_of (by omega) (by omega), by omega, by omega, ⟨by omega, by omega, by omega⟩, by omega, ⟨by omega, by omega, by omega⟩, by omega, fits_of (by omega) (by omega)⟩
theorem wl_sim {w0 : World} {O : Go.Vx.Own} (hgl : GlobOk g4 w0 O) : ∀ (f : Nat) (a : Nat → Int) (W : List Int) (o n : Nat) (w : List (List Int)), n ≤ f → o + n ≤ W.length → 0 ≤ a 74 ∧ a 74 ≤ 64 → n ≤ 140737488355328 → w.length + 5 * n ≤ 1000000000 →
    SimC g4.P w0 O 78 (.loop wrBody) (wrKeep.zip (wlS o n)) (wlB a W w) (.exit 0) [(0, .ptr 0 0)] (wlB (wrF f a (subI W o n)) W ((w ++ evW f (a 74) n) ++ [[1, 0]])) 3
  | f, a, W, o, n, w, hf, h1, ha, hn, hw => by
    have hl := subI_length h1
    by_cases c : n = 0
    · subst c
      have e0 : subI W o 0 = [] := List.length_eq_zero_iff.1 hl
      have e : wrF f a [] = a := by cases f <;> simp [wrF]
      have hr := wl_e o 0 a W w
      have e2 : bI (decide (0 < ((0 : Nat) : Int))) = 0 := rfl
      rw [e2] at hr
      have e3 : evW f (a 74) ((0 : Nat) : Int) = [] := (ew_n f (a 74)).1
      rw [e0, e, e3, List.append_nil]
      exact SimC.done (SimC.weaken (SimC.run (B' := wlB a W (w ++ [[1, 0]])) g4_ok (by decide) hr (by simp only [allC_cons, allC_nil, and_true]; exact ⟨by omega, fits_of (by omega) (by omega), by decide⟩) (by decide) i3 (by decide) (by simp) hgl) (sub_mkT (by simp; exact rfl))) (by simp)
    · obtain ⟨f, rfl⟩ : ∃ k, f = k + 1 := ⟨f - 1, by omega⟩
      have kb := kR_bd ha (show (0 : Int) < (n : Int) by omega)
      have hne : subI W o n ≠ [] := fun e => by rw [e] at hl; simp at hl; omega
      have hr := evR_len (a 74) n
      have s := wl_step hgl a W o n w (by omega) h1 ha hn (by omega)
      have r := wl_sim hgl f (stepA a (subI W o n)) W (o + (kR (a 74) n).toNat) (n - (kR (a 74) n).toNat) (w ++ evR (a 74) n) (by omega) (by omega) (step_held ha) (by omega) (by rw [List.length_append]; omega)
      have e1 : wrF (f + 1) a (subI W o n) = wrF f (stepA a (subI W o n)) (stepL a (subI W o n)) := by simp only [wrF]; rw [if_neg hne]
      have hk := aP_k (l := subI W o n) ha
      rw [hl] at hk
      have e2 : stepL a (subI W o n) = subI W (o + (kR (a 74) n).toNat) (n - (kR (a 74) n).toNat) := by
        show l1 (aP a) (subI W o n) = _
        rw [l1, hk, hl, subI_drop, List.take_of_length_le]
        rw [List.length_drop, hl]; exact Nat.le_refl _
      have e3 : evW (f + 1) (a 74) n = evR (a 74) n ++ evW f (hN (a 74) n) (n - kR (a 74) n) := by simp only [evW]; exact if_pos (by omega)
      have e4 : ((n - (kR (a 74) n).toNat : Nat) : Int) = (n : Int) - kR (a 74) n := by omega
      have e5 := st_held (l := subI W o n) ha
      rw [hl] at e5
      rw [e4, e5, List.append_assoc w] at r
      rw [e1, e2, e3]
      exact SimC.next (Nat.le_refl _) s r
noncomputable def wlG : LoopF := fun vals B => match vals, B with
  | [.ptr 0 0, .sl 1 0 o 1 0 n false], [.cells ms, .ints K W, .log w] => match dgAs ms, headK (ms.take 1), sameK K .u8 with
    | some la, .log2, true => some ([(0, .ptr 0 0)], wlB (wrF n (atL la) (subI W o n)) W ((w ++ evW n (atL la 74) n) ++ [[1, 0]]), [0 ≤ atL la 74 ∧ atL la 74 ≤ 64, o + n ≤ W.length, n ≤ 131072, w.length < 900000000])
    | _, _, _ => none
  | _, _ => none
theorem wl_loop : LoopGood g4 78 (.loop wrBody) wrKeep 3 (.exit 0) (mkLoopN wlG) := by
  refine LoopGood.mkN (by decide) fun vals B S' B' C hG hC hlen w0 O hgl => ?_
  clear hlen
  unfold wlG at hG
  split at hG
  · rename_i o n ms K W w
    split at hG
    · rename_i la ha hr hK
      obtain rfl := kidx_inj hK
      have hr := head_log2 hr
      simp only [Option.some.injEq, Prod.mk.injEq] at hG
      obtain ⟨rfl, rfl, rfl⟩ := hG
      simp only [allC_cons, allC_nil, and_true] at hC
      obtain ⟨h0, h1, h2, h3⟩ := hC
      refine SimC.preI (B1 := wlB (atL la) W w) ?_ ⟨cells_dg ha hr rfl, ⟨BImp.refl _, fun _ h => by simp at h⟩, ⟨BImp.refl _, fun _ h => by simp at h⟩, trivial⟩
      exact wl_sim hgl n (atL la) W o n w (Nat.le_refl _) h1 h0 (by omega) (by omega)
    · simp at hG
  · simp at hG
theorem wl_run (o n : Nat) (a : Nat → Int) (W : List Int) (w : List (List Int)) : runF g4 400 [.loop 1 wrKeep 3 (.exit 0) (mkLoopN wlG)] 14 (wlS o n) (wlB a W w) [] =
    some (.tuple [], (wlB (wrF n (n75 a) (subI W o n)) W ((w ++ evW n (n75 a 74) n) ++ [[1, 0]])).map some, [LoopGood g4 78 (.loop wrBody) wrKeep 3 (.exit 0) (mkLoopN wlG), 0 ≤ n75 a 74 ∧ n75 a 74 ≤ 64, o + n ≤ W.length, n ≤ 131072, w.length < 900000000]) :=
  run_parts (by kernel_rfl) (by kernel_rfl) (by kernel_rfl)
noncomputable def F14l : SumF := fun args B => match args, B with
  | [.ptr 0 0, x], [.cells ms, .ints K W, .log w] => match dgAs ms, headK (ms.take 1), sameK K .u8, vwI 1 W x with
    | some la, .log2, true, some (o, n) => some { val := .tuple [], upd := [(0, some (dgV (.ptr 2 0) (wrA (atL la) (subI W o n)))), (2, some (.log (w ++ evX (atL la 74) (n : Int))))], C := [0 ≤ atL la 74 ∧ atL la 74 ≤ 64, o + n ≤ W.length, n ≤ 131072, w.length < 900000000] }
    | _, _, _, _ => none
  | _, _ => none
theorem acc14l : Acc g4 14 F14l := by
  intro args B out h hC
  unfold F14l at h
  split at h
  · rename_i x ms K W w
    split at h
    · rename_i la o n ha hr hK hx
      obtain rfl := kidx_inj hK
      have hr := head_log2 hr
      simp only [Option.some.injEq] at h; subst h
      simp only [allC_cons, allC_nil, and_true] at hC
      obtain ⟨h1, h2, h3, h4⟩ := hC
      refine FnOk.argsH (args' := wlS o n) ?_ (fun w0 O ρ Φ w vs x d => by
        simp only [DenT] at d ⊢
        obtain ⟨v1, r1, rfl, d1, v2, r2, rfl, d2, rfl⟩ := d
        exact ⟨_, _, rfl, d1, _, _, rfl, vwI_den hx x rfl d2, rfl⟩)
      refine FnOk.preB (B' := wlB (atL la) W w) ?_ ⟨cells_dg ha hr rfl, ⟨BImp.refl _, fun _ h => by simp at h⟩, ⟨BImp.refl _, fun _ h => by simp at h⟩, trivial⟩ (fun j => by
        match j with
        | 0 => rfl
        | 1 => rfl
        | 2 => rfl
        | j + 3 => rfl)
      have hrun := wl_run o n (atL la) W w
      rw [n75_la ha] at hrun
      have hL := wl_loop
      have hl := subI_length h2
      have e1 : wrF n (atL la) (subI W o n) = wrA (atL la) (subI W o n) := by unfold wrA; rw [hl]
      have e2 : (w ++ evW n (atL la 74) n) ++ [[1, 0]] = w ++ evX (atL la 74) (n : Int) := by
        simp only [evX, Int.toNat_natCast, List.append_assoc]
      rw [e1, e2] at hrun
      refine FnOk.val (C := []) (rd := []) ?_ (fun _ _ _ _ h => h)
      exact FnOk.run (new := []) g4_ok hrun (by simp only [allC_cons, allC_nil, and_true]; exact ⟨hL, h1, h2, h3, h4⟩) (by simp [upto]) rfl (by simp) (by simp) (fun j hj => by
        match j, hj with
        | 0, _ => rfl
        | 1, _ => rfl
        | 2, _ => rfl)
    · simp at h
  · simp at h
end Go.Proofs.Tryd

namespace Go.Proofs.Tryd
open Go Go.Vx
/-! ### Write with a Recorder, over a constant list -/
abbrev wqS (l : List Int) : List SV := [.ptr 0 0, .roi .u8 l]
noncomputable abbrev wqB (a : Nat → Int) (w : List (List Int)) : List Body := [dgV (.ptr 1 0) a, .log w]
theorem wq_0 (a : Nat → Int) (l : List Int) (w : List (List Int)) : runC g4 600 78 [.br true, .br false] wrBody (wrKeep.zip (wqS l)) (wqB a w) wrKeep [0, 1] =
    some (.normal, wqS (l1 a l), (wqB (ovA a l) (((wE a l.length w) ++ [[2, a 74]]) ++ [[2, kN a l]])).map some, [w.length < 1099511627776, Fits .i64 (l.length : Int), decide (0 < (l.length : Int)) = true, (w ++ [[1, bI (decide (0 < (l.length : Int)))]]).length < 1099511627776, decide (a 74 = 64) = false, Fits .i64 (kN a l), (a 74).toNat + (l.take (64 - (a 74).toNat)).length ≤ 64, 0 ≤ a 74 ∧ a 74 ≤ ((64 : Nat) : Int) ∧ ((64 : Nat) : Int) ≤ ((64 : Nat) : Int), ((wE a l.length w)).length < 1099511627776, 0 ≤ kN a l ∧ kN a l ≤ (l.length : Int) ∧ (l.length : Int) ≤ (l.length : Int), ((wE a l.length w) ++ [[2, a 74]]).length < 1099511627776, Fits .i64 (a 74 + kN a l)]) := r3_parts4 (by kernel_rfl) (by kernel_rfl) (by kernel_rfl) (by kernel_rfl)
theorem wq_1 (a : Nat → Int) (l : List Int) (w : List (List Int)) : runC g4 600 78 [.br true, .br true] wrBody (wrKeep.zip (wqS l)) (wqB a w) wrKeep [0, 1] =
    some (.normal, wqS (l1 (flA a) l), (wqB (ovA (flA a) l) (((wE a l.length w ++ [[3, 31]]) ++ [[2, (flA a) 74]]) ++ [[2, kN (flA a) l]])).map some, [w.length < 1099511627776, Fits .i64 (l.length : Int), decide (0 < (l.length : Int)) = true, (w ++ [[1, bI (decide (0 < (l.length : Int)))]]).length < 1099511627776, decide (a 74 = 64) = true, (wE a l.length w).length < 1099511627776, Fits .i64 (kN (flA a) l), ((flA a) 74).toNat + (l.take (64 - ((flA a) 74).toNat)).length ≤ 64, 0 ≤ (flA a) 74 ∧ (flA a) 74 ≤ ((64 : Nat) : Int) ∧ ((64 : Nat) : Int) ≤ ((64 : Nat) : Int), ((wE a l.length w ++ [[3, 31]])).length < 1099511627776, 0 ≤ kN (flA a) l ∧ kN (flA a) l ≤ (l.length : Int) ∧ (l.length : Int) ≤ (l.length : Int), ((wE a l.length w ++ [[3, 31]]) ++ [[2, (flA a) 74]]).length < 1099511627776, Fits .i64 ((flA a) 74 + kN (flA a) l)]) := r3_parts4 (by kernel_rfl) (by kernel_rfl) (by kernel_rfl) (by kernel_rfl)
theorem wq_e (a : Nat → Int) (l : List Int) (w : List (List Int)) : runC g4 600 78 [.br false] wrBody (wrKeep.zip (wqS l)) (wqB a w) wrKeep [0, 1] =
    some (.exit 0, wqS l, (wqB a (w ++ [[1, bI (decide (0 < (l.length : Int)))]])).map some, [w.length < 1099511627776, Fits .i64 (l.length : Int), decide (0 < (l.length : Int)) = false]) := r3_parts4 (by kernel_rfl) (by kernel_rfl) (by kernel_rfl) (by kernel_rfl)
theorem wq_step {w0 : World} {O : Go.Vx.Own} (hgl : GlobOk g4 w0 O) (a : Nat → Int) (l : List Int) (w : List (List Int)) (h0 : 0 < l.length) (ha : 0 ≤ a 74 ∧ a 74 ≤ 64) (hn : l.length ≤ 140737488355328) (hw : w.length ≤ 1000000000) :
    SimC g4.P w0 O 78 wrBody (wrKeep.zip (wqS l)) (wqB a w) .normal (wrKeep.zip (wqS (stepL a l))) (wqB (stepA a l) (w ++ evR (a 74) l.length)) 2 := by
  have F : Fits .i64 (l.length : Int) := Go.Vx.fits_small (by omega)
  have z1 : decide (0 < (l.length : Int)) = true := decide_eq_true (by omega)
  have hk := aP_k (l := l) ha
  have e0 := aP_b0 a
  have bb := b0_bd ha
  have kb := kR_bd ha (show (0 : Int) < (l.length : Int) by omega)
  have hlen : (l.take (64 - (b0 (a 74)).toNat)).length ≤ 64 - (b0 (a 74)).toNat := by rw [List.length_take]; exact Nat.min_le_left _ _
  by_cases c : a 74 = 64
  · have ep : aP a = (flA a) := if_pos c
    have z2 : decide (a 74 = 64) = true := decide_eq_true c
    have hr := wq_1 a l w
    have hk2 : kN (flA a) l = kR (a 74) l.length := by rw [← hk, ep]
    rw [ep] at e0
    have eb : b0 (a 74) = 0 := if_pos c
    have ee : ((wE a l.length w ++ [[3, 31]]) ++ [[2, (flA a) 74]]) ++ [[2, kN (flA a) l]] = w ++ evR (a 74) l.length := by
      simp only [wE, evR, if_pos c, z1, e0, hk2, List.append_assoc]; rfl
    have es : ovA (flA a) l = stepA a l := by unfold stepA; rw [if_pos c]
    have el : l1 (flA a) l = stepL a l := by unfold stepL; rw [if_pos c]
    rw [es, el, ee, hk2] at hr
    rw [← e0] at hlen bb
    refine SimC.run (B' := wqB (stepA a l) (w ++ evR (a 74) l.length)) g4_ok (by decide) hr ?_ (by decide) i2 (by decide) (by simp) hgl
    simp only [allC_cons, allC_nil, and_true, List.length_append, List.length_cons, List.length_nil]
    exact ⟨by omega, F, z1, by omega, z2, by omega, fits_of (by omega) (by omega), by omega, ⟨by omega, by omega, by omega⟩, by omega, ⟨by omega, by omega, by omega⟩, by omega, fits_of (by omega) (by omega)⟩
  · have ep : aP a = a := if_neg c
    have z2 : decide (a 74 = 64) = false := decide_eq_false c
    have hr := wq_0 a l w
    have hk2 : kN a l = kR (a 74) l.length := by rw [← hk, ep]
    rw [ep] at e0
    have ee : (wE a l.length w ++ [[2, a 74]]) ++ [[2, kN a l]] = w ++ evR (a 74) l.length := by
      have e3 : b0 (a 74) = a 74 := e0.symm
      simp only [wE, evR, if_neg c, z1, e3, hk2, List.append_assoc]; rfl
    have es : ovA a l = stepA a l := by unfold stepA; rw [if_neg c]
    have el : l1 a l = stepL a l := by unfold stepL; rw [if_neg c]
    rw [es, el, ee, hk2] at hr
    rw [← e0] at hlen bb
    refine SimC.run (B' := wqB (stepA a l) (w ++ evR (a 74) l.length)) g4_ok (by decide) hr ?_ (by decide) i2 (by decide) (by simp) hgl
    simp only [allC_cons, allC_nil, and_true, List.length_append, List.length_cons, List.length_nil]
    exact ⟨by omega, F, z1, by omega, z2, fits_of (by omega) (by omega), by omega, ⟨by omega, by omega, by omega⟩, by omega, ⟨by omega, by omega, by omega⟩, by omega, fits_of (by omega) (by omega)⟩
theorem wq_sim {w0 : World} {O : Go.Vx.Own} (hgl : GlobOk g4 w0 O) : ∀ (f : Nat) (a : Nat → Int) (l : List Int) (w : List (List Int)), l.length ≤ f → 0 ≤ a 74 ∧ a 74 ≤ 64 → l.length ≤ 140737488355328 → w.length + 5 * l.length ≤ 1000000000 →
    SimC g4.P w0 O 78 (.loop wrBody) (wrKeep.zip (wqS l)) (wqB a w) (.exit 0) [(0, .ptr 0 0)] (wqB (wrF f a l) ((w ++ evW f (a 74) l.length) ++ [[1, 0]])) 2
  | f, a, l, w, hf, ha, hn, hw => by
    by_cases c : l = []
    · subst c
      have e : wrF f a [] = a := by cases f <;> simp [wrF]
      have hr := wq_e a [] w
      have e2 : bI (decide (0 < ((([] : List Int).length : Nat) : Int))) = 0 := rfl
      rw [e2] at hr
      have e3 : evW f (a 74) ((([] : List Int).length : Nat) : Int) = [] := (ew_n f (a 74)).1
      rw [e, e3, List.append_nil]
      exact SimC.done (SimC.weaken (SimC.run (B' := wqB a (w ++ [[1, 0]])) g4_ok (by decide) hr (by simp only [allC_cons, allC_nil, and_true]; exact ⟨by omega, fits_of (by decide) (by decide), by decide⟩) (by decide) i2 (by decide) (by simp) hgl) (sub_mkT (by simp; exact rfl))) (by simp)
    · have h0 : 0 < l.length := List.length_pos_iff.2 c
      obtain ⟨f, rfl⟩ : ∃ k, f = k + 1 := ⟨f - 1, by omega⟩
      have kb := kR_bd ha (show (0 : Int) < (l.length : Int) by omega)
      have hr := evR_len (a 74) l.length
      have hlt := step_len ha c
      have s := wq_step hgl a l w h0 ha (by omega) (by omega)
      have el : ((stepL a l).length : Int) = (l.length : Int) - kR (a 74) l.length := by
        show ((l1 (aP a) l).length : Int) = _
        rw [l1_len, aP_k ha]; omega
      have r := wq_sim hgl f (stepA a l) (stepL a l) (w ++ evR (a 74) l.length) (by omega) (step_held ha) (by omega) (by rw [List.length_append]; omega)
      have e1 : wrF (f + 1) a l = wrF f (stepA a l) (stepL a l) := by simp only [wrF]; rw [if_neg c]
      have e3 : evW (f + 1) (a 74) l.length = evR (a 74) l.length ++ evW f (hN (a 74) l.length) (l.length - kR (a 74) l.length) := by simp only [evW]; exact if_pos (by omega)
      have e5 := st_held (l := l) ha
      rw [el, e5, List.append_assoc w] at r
      rw [e1, e3]
      exact SimC.next (Nat.le_refl _) s r
noncomputable def wqG : LoopF := fun vals B => match vals, B with
  | [.ptr 0 0, .roi K l], [.cells ms, .log w] => match dgAs ms, headK (ms.take 1), sameK K .u8 with
    | some la, .log1, true => some ([(0, .ptr 0 0)], wqB (wrF l.length (atL la) l) ((w ++ evW l.length (atL la 74) l.length) ++ [[1, 0]]), [0 ≤ atL la 74 ∧ atL la 74 ≤ 64, l.length ≤ 131072, w.length < 900000000])
    | _, _, _ => none
  | _, _ => none
theorem wq_loop : LoopGood g4 78 (.loop wrBody) wrKeep 2 (.exit 0) (mkLoopN wqG) := by
  refine LoopGood.mkN (by decide) fun vals B S' B' C hG hC hlen w0 O hgl => ?_
  clear hlen
  unfold wqG at hG
  split at hG
  · rename_i K l ms w
    split at hG
    · rename_i la ha hr hK
      obtain rfl := kidx_inj hK
      have hr := head_log1 hr
      simp only [Option.some.injEq, Prod.mk.injEq] at hG
      obtain ⟨rfl, rfl, rfl⟩ := hG
      simp only [allC_cons, allC_nil, and_true] at hC
      obtain ⟨h0, h2, h3⟩ := hC
      refine SimC.preI (B1 := wqB (atL la) w) ?_ ⟨cells_dg ha hr rfl, ⟨BImp.refl _, fun _ h => by simp at h⟩, trivial⟩
      exact wq_sim hgl l.length (atL la) l w (Nat.le_refl _) h0 (by omega) (by omega)
    · simp at hG
  · simp at hG
theorem wq_run (a : Nat → Int) (l : List Int) (w : List (List Int)) : runF g4 400 [.loop 1 wrKeep 2 (.exit 0) (mkLoopN wqG)] 14 (wqS l) (wqB a w) [] =
    some (.tuple [], (wqB (wrF l.length (n75 a) l) ((w ++ evW l.length (n75 a 74) l.length) ++ [[1, 0]])).map some, [LoopGood g4 78 (.loop wrBody) wrKeep 2 (.exit 0) (mkLoopN wqG), 0 ≤ n75 a 74 ∧ n75 a 74 ≤ 64, l.length ≤ 131072, w.length < 900000000]) :=
  run_parts (by kernel_rfl) (by kernel_rfl) (by kernel_rfl)
noncomputable def F14r : SumF := fun args B => match args, B with
  | [.ptr 0 0, .roi K l], [.cells ms, .log w] => match dgAs ms, headK (ms.take 1), sameK K .u8 with
    | some la, .log1, true => some { val := .tuple [], upd := [(0, some (dgV (.ptr 1 0) (wrA (atL la) l))), (1, some (.log (w ++ evX (atL la 74) (l.length : Int))))], C := [0 ≤ atL la 74 ∧ atL la 74 ≤ 64, l.length ≤ 131072, w.length < 900000000] }
    | _, _, _ => none
  | _, _ => none
theorem acc14r : Acc g4 14 F14r := by
  intro args B out h hC
  unfold F14r at h
  split at h
  · rename_i K l ms w
    split at h
    · rename_i la ha hr hK
      obtain rfl := kidx_inj hK
      have hr := head_log1 hr
      simp only [Option.some.injEq] at h; subst h
      simp only [allC_cons, allC_nil, and_true] at hC
      obtain ⟨h1, h3, h4⟩ := hC
      refine FnOk.preB (B' := wqB (atL la) w) ?_ ⟨cells_dg ha hr rfl, ⟨BImp.refl _, fun _ h => by simp at h⟩, trivial⟩ (fun j => by
        match j with
        | 0 => rfl
        | 1 => rfl
        | j + 2 => rfl)
      have hrun := wq_run (atL la) l w
      rw [n75_la ha] at hrun
      have hL := wq_loop
      have e1 : wrF l.length (atL la) l = wrA (atL la) l := rfl
      have e2 : (w ++ evW l.length (atL la 74) l.length) ++ [[1, 0]] = w ++ evX (atL la 74) (l.length : Int) := by
        simp only [evX, Int.toNat_natCast, List.append_assoc]
      rw [e1, e2] at hrun
      refine FnOk.val (C := []) (rd := []) ?_ (fun _ _ _ _ h => h)
      exact FnOk.run (new := []) g4_ok hrun (by simp only [allC_cons, allC_nil, and_true]; exact ⟨hL, h1, h3, h4⟩) (by simp [upto]) rfl (by simp) (by simp) (fun j hj => by
        match j, hj with
        | 0, _ => rfl
        | 1, _ => rfl)
    · simp at h
  · simp at h
end Go.Proofs.Tryd
