/- Accounts of this seat's functions: lemmas, no statement of their own. No conditions. -/
import Derived.Test.YthciddlfnajchaaDoorTUa
namespace Go.Proofs.Tryd
open Go Go.Vx
/-! ### Write with a Recorder, over a slice of a list of numbers -/
abbrev wlS (o n : Nat) : List SV := [.ptr 0 0, .sl 1 0 o 1 0 n false]
noncomputable abbrev wlB (a : Nat → Int) (W : List Int) (w : List (List Int)) : List Body := [dgV (.ptr 2 0) a, .ints .u8 W, .log w]
abbrev kW (a : Nat → Int) (W : List Int) (o n : Nat) : Int := kN a (subI W o n)
abbrev wE (a : Nat → Int) (n : Nat) (w : List (List Int)) : List (List Int) := (w ++ [[1, bI (decide (0 < (n : Int)))]]) ++ [[1, bI (decide (a 74 = 64))]]
theorem wl_0 (o n : Nat) (a : Nat → Int) (W : List Int) (w : List (List Int)) : runC g4 600 78 [.br true, .br false] wrBody (wrKeep.zip (wlS o n)) (wlB a W w) wrKeep [0, 1, 2] =
    some (.normal, wlS (o + (kW a W o n).toNat) (n - (kW a W o n).toNat), (wlB (ovA a (subI W o n)) W (((wE a n w) ++ [[2, a 74]]) ++ [[2, kW a W o n]])).map some, [w.length < 1099511627776, Fits .i64 (n : Int), decide (0 < (n : Int)) = true, (w ++ [[1, bI (decide (0 < (n : Int)))]]).length < 1099511627776, decide (a 74 = 64) = false, Fits .i64 (kW a W o n), (a 74).toNat + ((subI W o n).take (64 - (a 74).toNat)).length ≤ 64, o + 0 + n ≤ W.length, 0 ≤ a 74 ∧ a 74 ≤ ((64 : Nat) : Int) ∧ ((64 : Nat) : Int) ≤ ((64 : Nat) : Int), ((wE a n w)).length < 1099511627776, 0 ≤ kW a W o n ∧ kW a W o n ≤ (n : Int) ∧ (n : Int) ≤ (n : Int), ((wE a n w) ++ [[2, a 74]]).length < 1099511627776, Fits .i64 (a 74 + kW a W o n)]) :=
  r3_parts4 (by kernel_rfl) (by kernel_rfl) (by kernel_rfl) (by kernel_rfl)
theorem wl_1 (o n : Nat) (a : Nat → Int) (W : List Int) (w : List (List Int)) : runC g4 600 78 [.br true, .br true] wrBody (wrKeep.zip (wlS o n)) (wlB a W w) wrKeep [0, 1, 2] =
    some (.normal, wlS (o + (kW (flA a) W o n).toNat) (n - (kW (flA a) W o n).toNat), (wlB (ovA (flA a) (subI W o n)) W (((wE a n w ++ [[3, 31]]) ++ [[2, (flA a) 74]]) ++ [[2, kW (flA a) W o n]])).map some, [w.length < 1099511627776, Fits .i64 (n : Int), decide (0 < (n : Int)) = true, (w ++ [[1, bI (decide (0 < (n : Int)))]]).length < 1099511627776, decide (a 74 = 64) = true, (wE a n w).length < 1099511627776, Fits .i64 (kW (flA a) W o n), ((flA a) 74).toNat + ((subI W o n).take (64 - ((flA a) 74).toNat)).length ≤ 64, o + 0 + n ≤ W.length, 0 ≤ (flA a) 74 ∧ (flA a) 74 ≤ ((64 : Nat) : Int) ∧ ((64 : Nat) : Int) ≤ ((64 : Nat) : Int), ((wE a n w ++ [[3, 31]])).length < 1099511627776, 0 ≤ kW (flA a) W o n ∧ kW (flA a) W o n ≤ (n : Int) ∧ (n : Int) ≤ (n : Int), ((wE a n w ++ [[3, 31]]) ++ [[2, (flA a) 74]]).length < 1099511627776, Fits .i64 ((flA a) 74 + kW (flA a) W o n)]) :=
  r3_parts4 (by kernel_rfl) (by kernel_rfl) (by kernel_rfl) (by kernel_rfl)
theorem wl_e (o n : Nat) (a : Nat → Int) (W : List Int) (w : List (List Int)) : runC g4 600 78 [.br false] wrBody (wrKeep.zip (wlS o n)) (wlB a W w) wrKeep [0, 1, 2] =
    some (.exit 0, wlS o n, (wlB a W (w ++ [[1, bI (decide (0 < (n : Int)))]])).map some, [w.length < 1099511627776, Fits .i64 (n : Int), decide (0 < (n : Int)) = false]) :=
  r3_parts4 (by kernel_rfl) (by kernel_rfl) (by kernel_rfl) (by kernel_rfl)
theorem subI_drop (W : List Int) (o n k : Nat) : subI W (o + k) (n - k) = (subI W o n).drop k := by
  rw [subI, subI, List.drop_take, List.drop_drop]
noncomputable abbrev aP (a : Nat → Int) : Nat → Int := if a 74 = 64 then flA a else a
theorem aP_b0 (a : Nat → Int) : aP a 74 = b0 (a 74) := by
  by_cases c : a 74 = 64
  · simp only [aP, b0, if_pos c]; exact flA_held a
  · simp only [aP, b0, if_neg c]
theorem b0_bd {h : Int} (h0 : 0 ≤ h ∧ h ≤ 64) : 0 ≤ b0 h ∧ b0 h < 64 := by
  simp only [b0]; split <;> omega
theorem aP_k {a : Nat → Int} {l : List Int} (h : 0 ≤ a 74 ∧ a 74 ≤ 64) : kN (aP a) l = kR (a 74) (l.length : Int) := by
  have e := aP_b0 a
  have b := b0_bd h
  have := kN_bd (a := aP a) (l := l) (by rw [e]; omega)
  rw [e] at this
  simp only [kR]
  split <;> omega
theorem st_held {a : Nat → Int} {l : List Int} (h : 0 ≤ a 74 ∧ a 74 ≤ 64) : stepA a l 74 = hN (a 74) (l.length : Int) := by
  show ovA (aP a) l 74 = _
  rw [ovA_held, aP_k h, aP_b0]
theorem wrF_ew : ∀ (f : Nat) (a : Nat → Int) (l : List Int), l.length ≤ f → 0 ≤ a 74 ∧ a 74 ≤ 64 → wrF f a l 74 = ewH f (a 74) (l.length : Int)
  | 0, a, l, hl, h => rfl
  | f + 1, a, l, hl, h => by
    by_cases c : l = []
    · subst c
      simp only [wrF, if_true]
      exact (ew_n (f + 1) (a 74)).2.symm
    · have h0 : 0 < l.length := List.length_pos_iff.2 c
      have e1 : wrF (f + 1) a l = wrF f (stepA a l) (stepL a l) := by simp only [wrF]; rw [if_neg c]
      have e2 : ewH (f + 1) (a 74) (l.length : Int) = ewH f (hN (a 74) l.length) (l.length - kR (a 74) l.length) := by simp only [ewH]; exact if_pos (by omega)
      have hlt := step_len h c
      have k := kR_bd h (show (0 : Int) < l.length by omega)
      have el : ((stepL a l).length : Int) = (l.length : Int) - kR (a 74) l.length := by
        show ((l1 (aP a) l).length : Int) = _
        rw [l1_len, aP_k h]; omega
      rw [e1, e2, wrF_ew f _ _ (by omega) (step_held h), st_held h, el]
theorem wrA_ew {a : Nat → Int} {l : List Int} (h : 0 ≤ a 74 ∧ a 74 ≤ 64) : wrA a l 74 = ewH l.length (a 74) (l.length : Int) := wrF_ew _ _ _ (Nat.le_refl _) h
theorem i3 : ∀ j : Nat, j < 3 → ([0, 1, 2] : List Nat)[j]? = some j := fun j hj => by
  match j, hj with
  | 0, _ => rfl
  | 1, _ => rfl
  | 2, _ => rfl
theorem wl_step {w0 : World} {O : Go.Vx.Own} (hgl : GlobOk g4 w0 O) (a : Nat → Int) (W : List Int) (o n : Nat) (w : List (List Int)) (h0 : 0 < n) (h1 : o + n ≤ W.length) (ha : 0 ≤ a 74 ∧ a 74 ≤ 64) (hn : n ≤ 140737488355328) (hw : w.length ≤ 1000000000) :
    SimC g4.P w0 O 78 wrBody (wrKeep.zip (wlS o n)) (wlB a W w) .normal (wrKeep.zip (wlS (o + (kR (a 74) n).toNat) (n - (kR (a 74) n).toNat))) (wlB (stepA a (subI W o n)) W (w ++ evR (a 74) n)) 3 := by
  have hl := subI_length h1
  have F : Fits .i64 (n : Int) := Go.Vx.fits_small (by omega)
  have z1 : decide (0 < (n : Int)) = true := decide_eq_true (by omega)
  have hk := aP_k (l := subI W o n) ha
  have e0 := aP_b0 a
  have bb := b0_bd ha
  have kb := kR_bd ha (show (0 : Int) < (n : Int) by omega)
  rw [hl] at hk
  have hlen : ((subI W o n).take (64 - (b0 (a 74)).toNat)).length ≤ 64 - (b0 (a 74)).toNat := by rw [List.length_take]; exact Nat.min_le_left _ _
  by_cases c : a 74 = 64
  · have ep : aP a = flA a := if_pos c
    have z2 : decide (a 74 = 64) = true := decide_eq_true c
    have hr := wl_1 o n a W w
    have hk2 : kW (flA a) W o n = kR (a 74) n := by rw [← hk, ep]
    rw [ep] at e0
    have eb : b0 (a 74) = 0 := if_pos c
    have ee : ((wE a n w ++ [[3, 31]]) ++ [[2, flA a 74]]) ++ [[2, kW (flA a) W o n]] = w ++ evR (a 74) n := by
      simp only [wE, evR, if_pos c, z1, e0, hk2, List.append_assoc]; rfl
    have es : ovA (flA a) (subI W o n) = stepA a (subI W o n) := by unfold stepA; rw [if_pos c]
    rw [es, ee, hk2] at hr
    rw [← e0] at hlen bb
    refine SimC.run (B' := wlB (stepA a (subI W o n)) W (w ++ evR (a 74) n)) g4_ok (by decide) hr ?_ (by decide) i3 (by decide) (by simp) hgl
    simp only [allC_cons, allC_nil, and_true, List.length_append, List.length_cons, List.length_nil]
    exact ⟨by omega, F, z1, by omega, z2, by omega, fits_of (by omega) (by omega), by omega, by omega, ⟨by omega, by omega, by omega⟩, by omega, ⟨by omega, by omega, by omega⟩, by omega, fits_of (by omega) (by omega)⟩
  · have ep : aP a = a := if_neg c
    have z2 : decide (a 74 = 64) = false := decide_eq_false c
    have hr := wl_0 o n a W w
    have hk2 : kW a W o n = kR (a 74) n := by rw [← hk, ep]
    rw [ep] at e0
    have ee : (wE a n w ++ [[2, a 74]]) ++ [[2, kW a W o n]] = w ++ evR (a 74) n := by
      have e3 : b0 (a 74) = a 74 := e0.symm
      simp only [wE, evR, if_neg c, z1, e3, hk2, List.append_assoc]; rfl
    have es : ovA a (subI W o n) = stepA a (subI W o n) := by unfold stepA; rw [if_neg c]
    rw [es, ee, hk2] at hr
    rw [← e0] at hlen bb
    refine SimC.run (B' := wlB (stepA a (subI W o n)) W (w ++ evR (a 74) n)) g4_ok (by decide) hr ?_ (by decide) i3 (by decide) (by simp) hgl
    simp only [allC_cons, allC_nil, and_true, List.length_append, List.length_cons, List.length_nil]
    exact ⟨by omega, F, z1, by omega, z2, fits_of (by omega) (by omega), by omega, by omega, ⟨by omega, by omega, by omega⟩, by omega, ⟨by omega, by omega, by omega⟩, by omega, fits_of (by omega) (by omega)⟩
theorem wl_sim {w0 : World} {O : Go.Vx.Own} (hgl : GlobOk g4 w0 O) : ∀ (f : Nat) (a : Nat → Int) (W : List Int) (o n : Nat) (w : List (List Int)), n ≤ f → o + n ≤ W.length → 0 ≤ a 74 ∧ a 74 ≤ 64 → n ≤ 140737488355328 → w.length + 5 * n ≤ 1000000000 →
    SimC g4.P w0 O 78 (.loop wrBody) (wrKeep.zip (wlS o n)) (wlB a W w) (.exit 0) [(0, .ptr 0 0)] (wlB (wrF f a (subI W o n)) W ((w ++ evW f (a 74) n) ++ [[1, 0]])) 3
  | f, a, W, o, n, w, hf, h1, ha, hn, hw => by
    have hl := subI_length h1
    by_cases c : n = 0
    · subst c
      have e0 : subI W o 0 = [] := List.length_eq_zero_iff.1 hl
      have e : wrF f a [] = a := by cases f <;> simp [wrF]
      have hr := wl_e o 0 a W w
      have e2 : bI (decide (0 < ((0 : Nat) : Int))) = 0 := rfl
      rw [e2] at hr
      have e3 : evW f (a 74) ((0 : Nat) : Int) = [] := (ew_n f (a 74)).1
      rw [e0, e, e3, List.append_nil]
      exact SimC.done (SimC.weaken (SimC.run (B' := wlB a W (w ++ [[1, 0]])) g4_ok (by decide) hr (by simp only [allC_cons, allC_nil, and_true]; exact ⟨by omega, fits_of (by omega) (by omega), by decide⟩) (by decide) i3 (by decide) (by simp) hgl) (sub_mkT (by simp; exact rfl))) (by simp)
    · obtain ⟨f, rfl⟩ : ∃ k, f = k + 1 := ⟨f - 1, by omega⟩
      have kb := kR_bd ha (show (0 : Int) < (n : Int) by omega)
      have hne : subI W o n ≠ [] := fun e => by rw [e] at hl; simp at hl; omega
      have hr := evR_len (a 74) n
      have s := wl_step hgl a W o n w (by omega) h1 ha hn (by omega)
      have r := wl_sim hgl f (stepA a (subI W o n)) W (o + (kR (a 74) n).toNat) (n - (kR (a 74) n).toNat) (w ++ evR (a 74) n) (by omega) (by omega) (step_held ha) (by omega) (by rw [List.length_append]; omega)
      have e1 : wrF (f + 1) a (subI W o n) = wrF f (stepA a (subI W o n)) (stepL a (subI W o n)) := by simp only [wrF]; rw [if_neg hne]
      have hk := aP_k (l := subI W o n) ha
      rw [hl] at hk
      have e2 : stepL a (subI W o n) = subI W (o + (kR (a 74) n).toNat) (n - (kR (a 74) n).toNat) := by
        show l1 (aP a) (subI W o n) = _
        rw [l1, hk, hl, subI_drop, List.take_of_length_le]
        rw [List.length_drop, hl]; exact Nat.le_refl _
      have e3 : evW (f + 1) (a 74) n = evR (a 74) n ++ evW f (hN (a 74) n) (n - kR (a 74) n) := by simp only [evW]; exact if_pos (by omega)
      have e4 : ((n - (kR (a 74) n).toNat : Nat) : Int) = (n : Int) - kR (a 74) n := by omega
      have e5 := st_held (l := subI W o n) ha
      rw [hl] at e5
      rw [e4, e5, List.append_assoc w] at r
      rw [e1, e2, e3]
      exact SimC.next (Nat.le_refl _) s r
noncomputable def wlG : LoopF := fun vals B => match vals, B with
  | [.ptr 0 0, .sl 1 0 o 1 0 n false], [.cells ms, .ints K W, .log w] => match dgAs ms, headK (ms.take 1), sameK K .u8 with
    | some la, .log2, true => some ([(0, .ptr 0 0)], wlB (wrF n (atL la) (subI W o n)) W ((w ++ evW n (atL la 74) n) ++ [[1, 0]]), [0 ≤ atL la 74 ∧ atL la 74 ≤ 64, o + n ≤ W.length, n ≤ 131072, w.length < 900000000])
    | _, _, _ => none
  | _, _ => none
theorem wl_loop : LoopGood g4 78 (.loop wrBody) wrKeep 3 (.exit 0) (mkLoopN wlG) := by
  refine LoopGood.mkN (by decide) fun vals B S' B' C hG hC hlen w0 O hgl => ?_
  clear hlen
  unfold wlG at hG
  split at hG
  · rename_i o n ms K W w
    split at hG
    · rename_i la ha hr hK
      obtain rfl := kidx_inj hK
      have hr := head_log2 hr
      simp only [Option.some.injEq, Prod.mk.injEq] at hG
      obtain ⟨rfl, rfl, rfl⟩ := hG
      simp only [allC_cons, allC_nil, and_true] at hC
      obtain ⟨h0, h1, h2, h3⟩ := hC
      refine SimC.preI (B1 := wlB (atL la) W w) ?_ ⟨cells_dg ha hr rfl, ⟨BImp.refl _, fun _ h => by simp at h⟩, ⟨BImp.refl _, fun _ h => by simp at h⟩, trivial⟩
      exact wl_sim hgl n (atL la) W o n w (Nat.le_refl _) h1 h0 (by omega) (by omega)
    · simp at hG
  · simp at hG
theorem wl_run (o n : Nat) (a : Nat → Int) (W : List Int) (w : List (List Int)) : runF g4 400 [.loop 1 wrKeep 3 (.exit 0) (mkLoopN wlG)] 14 (wlS o n) (wlB a W w) [] =
    some (.tuple [], (wlB (wrF n (n75 a) (subI W o n)) W ((w ++ evW n (n75 a 74) n) ++ [[1, 0]])).map some, [LoopGood g4 78 (.loop wrBody) wrKeep 3 (.exit 0) (mkLoopN wlG), 0 ≤ n75 a 74 ∧ n75 a 74 ≤ 64, o + n ≤ W.length, n ≤ 131072, w.length < 900000000]) :=
  run_parts (by kernel_rfl) (by kernel_rfl) (by kernel_rfl)
noncomputable def F14l : SumF := fun args B => match args, B with
  | [.ptr 0 0, x], [.cells ms, .ints K W, .log w] => match dgAs ms, headK (ms.take 1), sameK K .u8, vwI 1 W x with
    | some la, .log2, true, some (o, n) => some { val := .tuple [], upd := [(0, some (dgV (.ptr 2 0) (wrA (atL la) (subI W o n)))), (2, some (.log (w ++ evX (atL la 74) (n : Int))))], C := [0 ≤ atL la 74 ∧ atL la 74 ≤ 64, o + n ≤ W.length, n ≤ 131072, w.length < 900000000] }
    | _, _, _, _ => none
  | _, _ => none
theorem acc14l : Acc g4 14 F14l := by
  intro args B out h hC
  unfold F14l at h
  split at h
  · rename_i x ms K W w
    split at h
    · rename_i la o n ha hr hK hx
      obtain rfl := kidx_inj hK
      have hr := head_log2 hr
      simp only [Option.some.injEq] at h; subst h
      simp only [allC_cons, allC_nil, and_true] at hC
      obtain ⟨h1, h2, h3, h4⟩ := hC
      refine FnOk.argsH (args' := wlS o n) ?_ (fun w0 O ρ Φ w vs x d => by
        simp only [DenT] at d ⊢
        obtain ⟨v1, r1, rfl, d1, v2, r2, rfl, d2, rfl⟩ := d
        exact ⟨_, _, rfl, d1, _, _, rfl, vwI_den hx x rfl d2, rfl⟩)
      refine FnOk.preB (B' := wlB (atL la) W w) ?_ ⟨cells_dg ha hr rfl, ⟨BImp.refl _, fun _ h => by simp at h⟩, ⟨BImp.refl _, fun _ h => by simp at h⟩, trivial⟩ (fun j => by
        match j with
        | 0 => rfl
        | 1 => rfl
        | 2 => rfl
        | j + 3 => rfl)
      have hrun := wl_run o n (atL la) W w
      rw [n75_la ha] at hrun
      have hL := wl_loop
      have hl := subI_length h2
      have e1 : wrF n (atL la) (subI W o n) = wrA (atL la) (subI W o n) := by unfold wrA; rw [hl]
      have e2 : (w ++ evW n (atL la 74) n) ++ [[1, 0]] = w ++ evX (atL la 74) (n : Int) := by
        simp only [evX, Int.toNat_natCast, List.append_assoc]
      rw [e1, e2] at hrun
      refine FnOk.val (C := []) (rd := []) ?_ (fun _ _ _ _ h => h)
      exact FnOk.run (new := []) g4_ok hrun (by simp only [allC_cons, allC_nil, and_true]; exact ⟨hL, h1, h2, h3, h4⟩) (by simp [upto]) rfl (by simp) (by simp) (fun j hj => by
        match j, hj with
        | 0, _ => rfl
        | 1, _ => rfl
        | 2, _ => rfl)
    · simp at h
  · simp at h
end Go.Proofs.Tryd

namespace Go.Proofs.Tryd
open Go Go.Vx
/-! ### DigestPlays: all accounts -/
noncomputable abbrev gP (p : Addr) (b : Bool) : Ctx := (g3.gl (eV p)).add [(11, F11 fun _ => b), (13, F13), (14, F14l), (15, F15), (16, F16), (19, F19), (20, F20), (21, seF), (22, eventsF), (25, F25), (26, F26), (40, F40)]
theorem gP_ok (p : Addr) (b : Bool) : CtxU (gP p b) := (gl_ok g3_ok fun _ => rfl).add mixed noGo (by
  intro x hx
  simp only [List.mem_cons, List.not_mem_nil, or_false] at hx
  rcases hx with rfl | rfl | rfl | rfl | rfl | rfl | rfl | rfl | rfl | rfl | rfl | rfl
  · exact Acc.of (g := gd3.gl (eV p)) rfl rfl (Acc.gl (fun _ => rfl) (acc11 fun _ => b))
  · exact Acc.of (g := gK p) rfl rfl (acc13 p)
  · exact Acc.of (g := g4.gl (eV p)) rfl rfl (Acc.gl (fun _ => rfl) acc14l)
  · exact Acc.of (g := g4.gl (eV p)) rfl rfl (Acc.gl (fun _ => rfl) acc15)
  · exact Acc.of (g := g1.gl (eV p)) rfl rfl (Acc.gl (fun _ => rfl) acc16)
  · exact Acc.of (g := g1.gl (eV p)) rfl rfl (Acc.gl (fun _ => rfl) acc19)
  · exact Acc.of (g := g1.gl (eV p)) rfl rfl (Acc.gl (fun _ => rfl) acc20)
  · exact Acc.of (g := g1.gl (eV p)) rfl rfl (Acc.gl (fun _ => rfl) se_acc)
  · exact Acc.of (g := gx.gl (eV p)) rfl rfl (Acc.gl (fun _ => rfl) acc22)
  · exact Acc.of (g := ge.gl (eV p)) rfl rfl (Acc.gl (fun _ => rfl) acc25)
  · exact Acc.of (g := ge.gl (eV p)) rfl rfl (Acc.gl (fun _ => rfl) acc26)
  · exact Acc.of (g := g1.gl (eV p)) rfl rfl (Acc.gl (fun _ => rfl) acc40))
noncomputable abbrev gy (p : Addr) : Ctx := gP p true
theorem gy_ok (p : Addr) : CtxU (gy p) := gP_ok p true
def head0 (l : List SV) : Bool := match l with
  | [.ptr 0 0] => true
  | _ => false
theorem head0_eq {l : List SV} (h : head0 l = true) : l = [.ptr 0 0] := by
  unfold head0 at h; split at h <;> first | rfl | simp at h
def flD (D : List Int) : Nat → List Int
  | 0 => D
  | k + 1 => (flD D k).set (0 + k + 0) 153
theorem flD_len (D : List Int) : ∀ k, (flD D k).length = D.length
  | 0 => rfl
  | k + 1 => by simp only [flD, List.length_set, flD_len D k]
def flT (T : List Int) : Nat → List Int
  | 0 => T
  | k + 1 => (flT T k).set k 153
theorem flT_len (T : List Int) : ∀ k, (flT T k).length = T.length
  | 0 => rfl
  | k + 1 => by simp only [flT, List.length_set, flT_len T k]
/-! ### the key is written over -/
abbrev twnKeep : List Nat := [0, 1, 2, 7, 8, 9, 13]
noncomputable abbrev twnBody : Code := bodyAt Tryd.prog 8 12
noncomputable abbrev twnO (n : Int) (ky : List Int) (m : Nat) (f : Nat → SV) (k : Int) : List SV := [.int .i64 n, .roi .u8 ky, .ro 2 m f, .ptr 0 0, .own 1, .ptr 2 0, .int .i64 k]
noncomputable abbrev twnS (n : Int) (ky : List Int) (m : Nat) (f : Nat → SV) (k : Nat) : List (Nat × SV) := twnKeep.zip (twnO n ky m f (k : Int))
noncomputable abbrev twnB (a : Nat → Int) (w : List (List Int)) (T : List Int) : List Body := [.log w, .ints .u8 T, dgV (.ptr 0 0) a]
/-! ### the desk is written over -/
abbrev flKeep : List Nat := [0, 1, 2, 7, 9, 14, 15, 16, 17, 18, 19, 23]
noncomputable abbrev flBody : Code := bodyAt Tryd.prog 8 38
noncomputable abbrev flO (n : Int) (ky : List Int) (m L : Nat) (f : Nat → SV) (h i k : Int) : List SV := [.int .i64 n, .roi .u8 ky, .ro 2 m f, .ptr 0 0, .ptr 1 0, .own 2, .own 3, .int .i64 h, .sl 4 L 0 1 0 L false, .int .i64 i, .ptr 5 0, .int .i64 k]
noncomputable abbrev flS (n : Int) (ky : List Int) (m L : Nat) (f : Nat → SV) (h i : Int) (k : Nat) : List (Nat × SV) := flKeep.zip (flO n ky m L f h i (k : Int))
noncomputable abbrev flB (a : Nat → Int) (b : Bool) (e : List Int) (w l : List (List Int)) (x D : List Int) : List Body := [.log w, dgV (.ptr 0 0) a, .ints .u8 x, .rows evK l, .ints .u8 D, .cells [.sbool b, .roi .u8 e]]
/-! ### a round of the script -/
abbrev pyKeep : List Nat := [0, 1, 2, 7, 9, 14, 15, 16, 17, 18]
noncomputable abbrev pyBody : Code := bodyAt Tryd.prog 8 20
noncomputable abbrev pyO (n : Int) (ky : List Int) (p : Nat → Bool) (d : Nat → List Int) (m L : Nat) (h i : Int) : List SV := [.int .i64 n, .roi .u8 ky, .ro 2 m (rowY p d), .ptr 0 0, .ptr 1 0, .own 4, .own 2, .int .i64 h, .sl 3 L 0 1 0 L false, .int .i64 i]
noncomputable abbrev pyS (n : Int) (ky : List Int) (p : Nat → Bool) (d : Nat → List Int) (m L : Nat) (h : Int) (i : Nat) : List (Nat × SV) := pyKeep.zip (pyO n ky p d m L h (i : Int))
noncomputable abbrev pyB (a : Nat → Int) (w l : List (List Int)) (x D : List Int) : List Body := [.log w, dgV (.ptr 0 0) a, .rows evK l, .ints .u8 D, .ints .u8 x]
noncomputable def flG : LoopF := fun vals B => match vals, B with
  | [.int .i64 n, .roi K5 ky, .ro 2 m f, .ptr 0 0, .ptr 1 0, .own 2, .own 3, .int .i64 h, .sl 4 M 0 1 0 L false, .int .i64 i, .ptr 5 0, .int .i64 0], [.log w, .cells ms, .ints K x, .rows K2 l, .ints K3 D, .cells [.sbool b, .roi K4 e]] =>
    match dgAs ms, head0 (ms.take 1), sameK K .u8, sameKs K2 evK, sameK K3 .u8, sameK K4 .u8, sameK K5 .u8 with
    | some la, true, true, true, true, true, true => some (flKeep.zip (flO n ky m L f h i (L : Int)), flB (atL la) b e w l x (flD D L), [M = L, D.length = L, L ≤ 140737488355328])
    | _, _, _, _, _, _, _ => none
  | _, _ => none
abbrev spS (e : List Int) : List Int := ((roomL e).drop (0 + 0)).take (e.length + 70)
abbrev spD (D e : List Int) (L : Nat) : List Int := splice D (0 + 0) ((spS e).take L)
abbrev gL (e : List Int) : Nat := (2 * (e.length : Int) + 70).toNat
abbrev gD (e : List Int) : List Int := List.replicate (gL e) 0
noncomputable abbrev wPl0 : List Plan := [.br true, .br false, .br false, .br false, .br false, .loop 38 flKeep 6 (.exit 6) (mkLoopN flG)]
noncomputable abbrev wPl1 : List Plan := [.br true, .br false, .br false, .br true, .br false, .br false, .loop 38 flKeep 6 (.exit 6) (mkLoopN flG)]
theorem twn_go (p' : Addr) (n : Int) (ky : List Int) (m : Nat) (f : Nat → SV) (k : Nat) (a : Nat → Int) (w : List (List Int)) (T : List Int) : runC (gy p') 300 202 [.br true] twnBody (twnS n ky m f k) (twnB a w T) twnKeep [0, 1, 2] = some (.normal, twnO n ky m f ((k : Int) + 1), (twnB a w (T.set k 153)).map some, [Fits .i64 (T.length : Int), decide ((k : Int) < (T.length : Int)) = true, k < T.length, (0 : Int) ≤ (k : Int) ∧ (k : Int) < (T.length : Int), Fits .i64 ((k : Int) + 1)]) := r3_parts4 (by kernel_rfl) (by kernel_rfl) (by kernel_rfl) (by kernel_rfl)
theorem twn_end (p' : Addr) (n : Int) (ky : List Int) (m : Nat) (f : Nat → SV) (k : Nat) (a : Nat → Int) (w : List (List Int)) (T : List Int) : runC (gy p') 300 202 [.br false] twnBody (twnS n ky m f k) (twnB a w T) twnKeep [0, 1, 2] = some (.exit 0, twnO n ky m f (k : Int), (twnB a w T).map some, [Fits .i64 (T.length : Int), decide ((k : Int) < (T.length : Int)) = false]) := r3_parts4 (by kernel_rfl) (by kernel_rfl) (by kernel_rfl) (by kernel_rfl)
theorem fl_go (p' : Addr) (n : Int) (ky : List Int) (m L : Nat) (f : Nat → SV) (h i : Int) (k : Nat) (a : Nat → Int) (b : Bool) (e : List Int) (w l : List (List Int)) (x D : List Int) : runC (gy p') 300 202 [.br true] flBody (flS n ky m L f h i k) (flB a b e w l x D) flKeep [0, 1, 2, 3, 4, 5] = some (.normal, flO n ky m L f h i ((k : Int) + 1), (flB a b e w l x (D.set (0 + k + 0) 153)).map some, [Fits .i64 (L : Int), decide ((k : Int) < (L : Int)) = true, 0 + k + 0 < D.length, (0 : Int) ≤ (k : Int) ∧ (k : Int) < (L : Int), Fits .i64 ((k : Int) + 1)]) := r3_parts4 (by kernel_rfl) (by kernel_rfl) (by kernel_rfl) (by kernel_rfl)
theorem fl_end (p' : Addr) (n : Int) (ky : List Int) (m L : Nat) (f : Nat → SV) (h i : Int) (k : Nat) (a : Nat → Int) (b : Bool) (e : List Int) (w l : List (List Int)) (x D : List Int) : runC (gy p') 300 202 [.br false] flBody (flS n ky m L f h i k) (flB a b e w l x D) flKeep [0, 1, 2, 3, 4, 5] = some (.exit 6, flO n ky m L f h i (k : Int), (flB a b e w l x D).map some, [Fits .i64 (L : Int), decide ((k : Int) < (L : Int)) = false]) := r3_parts4 (by kernel_rfl) (by kernel_rfl) (by kernel_rfl) (by kernel_rfl)
theorem py_ask (p' : Addr) (n : Int) (ky : List Int) (p : Nat → Bool) (d : Nat → List Int) (m L i : Nat) (h : Int) (a : Nat → Int) (w l : List (List Int)) (x D : List Int) : runC (gy p') 600 202 [.br true, .br false, .br true, .br false] pyBody (pyS n ky p d m L h i) (pyB a w l x D) pyKeep [0, 1, 7, 3, 4] = some (.normal, pyO n ky p d m L h ((i : Int) + 1), (pyB (n75 a) (suW w (n75 a)) (l ++ [[2, h], [3, 31]]) x D).map some, [Fits .i64 (m : Int), decide ((i : Int) < (m : Int)) = true, (0 : Int) ≤ (i : Int) ∧ (i : Int) < (m : Int), Fits .i64 (131072 - (x.length : Int)), Fits .i64 (x.length : Int), Fits .i64 ((d i).length : Int), decide (131072 - (x.length : Int) < ((d i).length : Int)) = false, p i = true, (l ++ [[2, h], [3, 31]]).length * 16 ≤ 2 ^ 47, 1 ≤ n, n ≤ 32, (ky).length ≤ 32, Bytes ky, Bytes x, (x).length ≤ 70368744177664, 0 + (n75 a 0).toNat ≤ (dgL (n75 a)).length, 0 + (dSum n ky (allL ky x)).length ≤ (dSum n ky (allL ky x)).length, (n75 a 0).toNat ≤ 140737488355328, subI (dgL (n75 a)) 0 (n75 a 0).toNat = subI (dSum n ky (allL ky x)) 0 (dSum n ky (allL ky x)).length, 0 ≤ n75 a 74 ∧ n75 a 74 ≤ 64, 0 ≤ n75 a 0 ∧ n75 a 0 ≤ 32, w.length < 1099511627770, (!true) = false, Fits .i64 ((i : Int) + 1)]) := r3_parts4 (by kernel_rfl) (by kernel_rfl) (by kernel_rfl) (by kernel_rfl)
theorem py_long (p' : Addr) (n : Int) (ky : List Int) (p : Nat → Bool) (d : Nat → List Int) (m L i : Nat) (h : Int) (a : Nat → Int) (w l : List (List Int)) (x D : List Int) : runC (gy p') 600 202 [.br true, .br true] pyBody (pyS n ky p d m L h i) (pyB a w l x D) [6] [0, 1, 2, 3, 4] = some (.ret, [.bool true], (pyB a w l x D).map some, [Fits .i64 (m : Int), decide ((i : Int) < (m : Int)) = true, (0 : Int) ≤ (i : Int) ∧ (i : Int) < (m : Int), Fits .i64 (131072 - (x.length : Int)), Fits .i64 (x.length : Int), Fits .i64 ((d i).length : Int), decide (131072 - (x.length : Int) < ((d i).length : Int)) = true]) := r3_parts4 (by kernel_rfl) (by kernel_rfl) (by kernel_rfl) (by kernel_rfl)
theorem py_end (p' : Addr) (n : Int) (ky : List Int) (p : Nat → Bool) (d : Nat → List Int) (m L i : Nat) (h : Int) (a : Nat → Int) (w l : List (List Int)) (x D : List Int) : runC (gy p') 600 202 [.br false] pyBody (pyS n ky p d m L h i) (pyB a w l x D) pyKeep [0, 1, 2, 3, 4] = some (.exit 2, pyO n ky p d m L h (i : Int), (pyB a w l x D).map some, [Fits .i64 (m : Int), decide ((i : Int) < (m : Int)) = false]) := r3_parts4 (by kernel_rfl) (by kernel_rfl) (by kernel_rfl) (by kernel_rfl)
noncomputable abbrev pyC1 (a : Nat → Int) (L : Nat) (D e : List Int) (w : List (List Int)) : List Prop := [e.length ≤ 1000000000, Fits .i64 ((min (spS e).length L : Nat) : Int), 0 + 0 + ((spS e).take L).length ≤ D.length, 0 + 0 + (e.length + 70) ≤ (roomL e).length, 0 ≤ n75 a 74 ∧ n75 a 74 ≤ 64, 0 + 0 + e.length ≤ (spD D e L).length, e.length ≤ 131072, w.length < 900000000, (0 : Int) ≤ 0 ∧ (0 : Int) ≤ (e.length : Int) ∧ (e.length : Int) ≤ (L : Int), Fits .i64 (e.length : Int)]
abbrev pyC2 (L : Nat) (D e : List Int) : List Prop := [0 + 0 + (e.length + 70) ≤ (spD D e L).length, e.length + 70 ≤ 140737488355328, e.length ≤ 140737488355328, e.length + 70 = e.length + 70, subI (spD D e L) 0 (e.length + 70) = roomL e, (0 : Int) ≤ 0 ∧ (0 : Int) ≤ ((e.length + 70 : Nat) : Int) ∧ ((e.length + 70 : Nat) : Int) ≤ (L : Int), Fits .i64 ((e.length + 70 : Nat) : Int), (!true) = false]
noncomputable abbrev pyC3 (p' : Addr) (i L : Nat) (h : Int) (D e x : List Int) (l : List (List Int)) : List Prop := [LoopGood (gy p') 202 (.loop flBody) flKeep 6 (.exit 6) (mkLoopN flG), L = L, (spD D e L).length = L, L ≤ 140737488355328, 0 ≤ h ∧ h ≤ 64, 0 ≤ (e.length : Int) ∧ (e.length : Int) ≤ 131072, Fits .i64 (e.length : Int), (l ++ evX h (e.length : Int)).length * 16 ≤ 2 ^ 47, (x ++ e).length * 1 ≤ 2 ^ 47, Fits .i64 ((i : Int) + 1)]
abbrev eH (h : Int) (e : List Int) : Int := ewH (e.length : Int).toNat h (e.length : Int)
theorem py_w0 (p' : Addr) (n : Int) (ky : List Int) (p : Nat → Bool) (d : Nat → List Int) (m L i : Nat) (h : Int) (a : Nat → Int) (w l : List (List Int)) (x D : List Int) : runC (gy p') 600 202 wPl0 pyBody (pyS n ky p d m L h i) (pyB a w l x D) pyKeep [0, 1, 8, 3, 9] = some (.normal, pyO n ky p d m L (eH h (d i)) ((i : Int) + 1), (pyB (wrA (n75 a) (subI (spD D (d i) L) 0 (d i).length)) (w ++ evX (n75 a 74) ((d i).length : Int)) (l ++ evX h ((d i).length : Int)) (x ++ d i) (flD (spD D (d i) L) L)).map some, [Fits .i64 (m : Int), decide ((i : Int) < (m : Int)) = true, (0 : Int) ≤ (i : Int) ∧ (i : Int) < (m : Int), Fits .i64 (131072 - (x.length : Int)), Fits .i64 (x.length : Int), Fits .i64 ((d i).length : Int), decide (131072 - (x.length : Int) < ((d i).length : Int)) = false, p i = false, Fits .i64 (((d i).length : Int) + 70), Fits .i64 ((d i).length : Int), Fits .i64 (L : Int), decide ((L : Int) < ((d i).length : Int) + 70) = false] ++ (pyC1 a L D (d i) w ++ (pyC2 L D (d i) ++ pyC3 p' i L h D (d i) x l))) := r3_parts4 (by kernel_rfl) (by kernel_rfl) (by kernel_rfl) (by kernel_rfl)
theorem py_w1 (p' : Addr) (n : Int) (ky : List Int) (p : Nat → Bool) (d : Nat → List Int) (m L i : Nat) (h : Int) (a : Nat → Int) (w l : List (List Int)) (x D : List Int) : runC (gy p') 600 202 wPl1 pyBody (pyS n ky p d m L h i) (pyB a w l x D) pyKeep [0, 1, 9, 6, 10] = some (.normal, pyO n ky p d m (gL (d i)) (eH h (d i)) ((i : Int) + 1), (pyB (wrA (n75 a) (subI (spD (gD (d i)) (d i) (gL (d i))) 0 (d i).length)) (w ++ evX (n75 a 74) ((d i).length : Int)) (l ++ evX h ((d i).length : Int)) (x ++ d i) (flD (spD (gD (d i)) (d i) (gL (d i))) (gL (d i)))).map some, [Fits .i64 (m : Int), decide ((i : Int) < (m : Int)) = true, (0 : Int) ≤ (i : Int) ∧ (i : Int) < (m : Int), Fits .i64 (131072 - (x.length : Int)), Fits .i64 (x.length : Int), Fits .i64 ((d i).length : Int), decide (131072 - (x.length : Int) < ((d i).length : Int)) = false, p i = false, Fits .i64 (((d i).length : Int) + 70), Fits .i64 ((d i).length : Int), Fits .i64 (L : Int), decide ((L : Int) < ((d i).length : Int) + 70) = true, (0 : Int) ≤ 2 * ((d i).length : Int) + 70 ∧ 2 * ((d i).length : Int) + 70 = 2 * ((d i).length : Int) + 70 ∧ gL (d i) * 1 ≤ 140737488355328, Fits .i64 (2 * ((d i).length : Int) + 70), Fits .i64 (2 * ((d i).length : Int)), Fits .i64 ((d i).length : Int), Fits .i64 (((d i).length : Int) + 70), Fits .i64 ((d i).length : Int), Fits .i64 ((gL (d i) : Nat) : Int), decide (((gL (d i) : Nat) : Int) < ((d i).length : Int) + 70) = false] ++ (pyC1 a (gL (d i)) (gD (d i)) (d i) w ++ (pyC2 (gL (d i)) (gD (d i)) (d i) ++ pyC3 p' i (gL (d i)) h (gD (d i)) (d i) x l))) := r3_parts4 (by kernel_rfl) (by kernel_rfl) (by kernel_rfl) (by kernel_rfl)
end Go.Proofs.Tryd

namespace Go.Proofs.Tryd
open Go Go.Vx
/-! ### DigestPlays: the lists are written over -/
theorem i6 : ∀ j : Nat, j < 6 → ([0, 1, 2, 3, 4, 5] : List Nat)[j]? = some j := fun j hj => by
  match j, hj with
  | 0, _ => rfl
  | 1, _ => rfl
  | 2, _ => rfl
  | 3, _ => rfl
  | 4, _ => rfl
  | 5, _ => rfl
theorem fl_loop (p' : Addr) : LoopGood (gy p') 202 (.loop flBody) flKeep 6 (.exit 6) (mkLoopN flG) := by
  refine LoopGood.mkN (by decide) fun vals B S' B' C hG hC hlen w0 O hgl => ?_
  clear hlen
  unfold flG at hG
  split at hG
  · rename_i n K5 ky m f h M L i w ms K x K2 l K3 D b K4 e
    split at hG
    · rename_i la ha hr hK hK2 hK3 hK4 hK5
      obtain rfl := kidx_inj hK
      obtain rfl := sameKs_eq hK2
      obtain rfl := kidx_inj hK3
      obtain rfl := kidx_inj hK4
      obtain rfl := kidx_inj hK5
      have hr := head0_eq hr
      simp only [Option.some.injEq, Prod.mk.injEq] at hG
      obtain ⟨rfl, rfl, rfl⟩ := hG
      simp only [allC_cons, allC_nil, and_true] at hC
      obtain ⟨rfl, hD, hL⟩ := hC
      have F1 : Fits .i64 (M : Int) := Go.Vx.fits_small hL
      have fl : ∀ l : List SV, Body.cells [.sbool b, .roi .u8 e] = .cells l → flatL l := fun l hl => by
        injection hl with hl
        subst hl
        intro d hd
        simp at hd
        rcases hd with rfl | rfl <;> rfl
      refine SimC.preI (B1 := flB (atL la) b e w l x D) ?_ ⟨⟨BImp.refl _, fun _ h => by simp at h⟩, cells_dg ha hr rfl, ⟨BImp.refl _, fun _ h => by simp at h⟩, ⟨BImp.refl _, fun _ h => by simp at h⟩, ⟨BImp.refl _, fun _ h => by simp at h⟩, ⟨BImp.refl _, fl⟩, trivial⟩
      show SimC _ _ _ _ _ (flS n ky m M f h i 0) (flB (atL la) b e w l x (flD D 0)) _ _ _ _
      refine SimC.iter (g := gy p') (e := .exit 6) (S := fun k => flS n ky m M f h i k) (B := fun k => flB (atL la) b e w l x (flD D k)) (N := M) (fun k hk => ?_) ?_ (by simp) 0 (by omega)
      · have hdl := flD_len D k
        refine SimC.run (B' := flB (atL la) b e w l x (flD D (k + 1))) (gy_ok p') (by decide) (fl_go p' n ky m M f h i k _ b e w l x _) ?_ (by decide) i6 (by decide) (by simp) hgl
        simp only [allC_cons, allC_nil, and_true]
        exact ⟨F1, decide_eq_true (by omega), by omega, ⟨by omega, by omega⟩, fits_of (by omega) (by omega)⟩
      · exact SimC.run (B' := flB (atL la) b e w l x (flD D M)) (gy_ok p') (by decide) (fl_end p' n ky m M f h i M _ b e w l x _) (by simp only [allC_cons, allC_nil, and_true]; exact ⟨F1, decide_eq_false (by omega)⟩) (by decide) i6 (by decide) (by simp) hgl
    · simp at hG
  · simp at hG
noncomputable def twnG : LoopF := fun vals B => match vals, B with
  | [.int .i64 n, .roi K5 ky, .ro 2 m f, .ptr 0 0, .own 1, .ptr 2 0, .int .i64 0], [.log w, .ints K T, .cells ms] =>
    match dgAs ms, head0 (ms.take 1), sameK K .u8, sameK K5 .u8 with
    | some la, true, true, true => some ([(0, .int .i64 n), (1, .roi .u8 ky), (2, .ro 2 m f), (7, .ptr 0 0), (9, .ptr 2 0)], twnB (atL la) w (flT T T.length), [T.length ≤ 140737488355328])
    | _, _, _, _ => none
  | _, _ => none
theorem twn_loop (p' : Addr) : LoopGood (gy p') 202 (.loop twnBody) twnKeep 3 (.exit 0) (mkLoopN twnG) := by
  refine LoopGood.mkN (by decide) fun vals B S' B' C hG hC hlen w0 O hgl => ?_
  clear hlen
  unfold twnG at hG
  split at hG
  · rename_i n K5 ky m f w K T ms
    split at hG
    · rename_i la ha hr hK hK5
      obtain rfl := kidx_inj hK
      obtain rfl := kidx_inj hK5
      have hr := head0_eq hr
      simp only [Option.some.injEq, Prod.mk.injEq] at hG
      obtain ⟨rfl, rfl, rfl⟩ := hG
      simp only [allC_cons, allC_nil, and_true] at hC
      have F1 : Fits .i64 (T.length : Int) := Go.Vx.fits_small hC
      refine SimC.preI (B1 := twnB (atL la) w T) ?_ ⟨⟨BImp.refl _, fun _ h => by simp at h⟩, ⟨BImp.refl _, fun _ h => by simp at h⟩, cells_dg ha hr rfl, trivial⟩
      show SimC _ _ _ _ _ (twnS n ky m f 0) (twnB (atL la) w (flT T 0)) _ _ _ _
      refine SimC.iter (g := gy p') (e := .exit 0) (S := fun k => twnS n ky m f k) (B := fun k => twnB (atL la) w (flT T k)) (N := T.length) (fun k hk => ?_) ?_ (by simp) 0 (by omega)
      · have hdl := flT_len T k
        refine SimC.run (B' := twnB (atL la) w (flT T (k + 1))) (gy_ok p') (by decide) (twn_go p' n ky m f k _ w _) ?_ (by decide) i3 (by decide) (by simp) hgl
        simp only [allC_cons, allC_nil, and_true]
        rw [hdl]
        exact ⟨F1, decide_eq_true (by omega), by omega, ⟨by omega, by omega⟩, fits_of (by omega) (by omega)⟩
      · refine SimC.weaken (SimC.run (B' := twnB (atL la) w (flT T T.length)) (gy_ok p') (by decide) (twn_end p' n ky m f T.length _ w _) ?_ (by decide) i3 (by decide) (by simp) hgl) (sub_mkT (by simp; exact ⟨rfl, rfl, rfl, rfl, rfl⟩))
        simp only [allC_cons, allC_nil, and_true]
        rw [flT_len]
        exact ⟨F1, decide_eq_false (by omega)⟩
    · simp at hG
  · simp at hG
/-! ### DigestPlays: plain facts of a round -/
theorem spS_eq (e : List Int) : spS e = roomL e := by
  show ((roomL e).drop (0 + 0)).take (e.length + 70) = roomL e
  rw [Nat.add_zero, List.drop_zero, List.take_of_length_le (by rw [roomL_len]; exact Nat.le_refl _)]
theorem spD_eq {D e : List Int} {L : Nat} (h : e.length + 70 ≤ L) : spD D e L = roomL e ++ D.drop (e.length + 70) := by
  show splice D (0 + 0) ((spS e).take L) = _
  rw [spS_eq, List.take_of_length_le (by rw [roomL_len]; exact h)]
  simp [splice, roomL_len]
theorem spD_len {D e : List Int} {L : Nat} (h : e.length + 70 ≤ L) (hD : D.length = L) : (spD D e L).length = L := by
  rw [spD_eq h, List.length_append, roomL_len, List.length_drop]; omega
theorem spD_room {D e : List Int} {L : Nat} (h : e.length + 70 ≤ L) : subI (spD D e L) 0 (e.length + 70) = roomL e := by
  rw [spD_eq h, subI, List.drop_zero, List.take_append_of_le_length (by rw [roomL_len]; exact Nat.le_refl _), List.take_of_length_le (by rw [roomL_len]; exact Nat.le_refl _)]
theorem spD_piece {D e : List Int} {L : Nat} (h : e.length + 70 ≤ L) : subI (spD D e L) 0 e.length = e := by
  rw [spD_eq h, subI, List.drop_zero, List.take_append_of_le_length (by rw [roomL_len]; omega)]
  refine extI (by rw [List.length_take, roomL_len]; omega) fun j hj => ?_
  rw [List.length_take, roomL_len] at hj
  have hj2 : j < e.length := by omega
  rw [List.getD_eq_getElem?_getD, List.getElem?_take, if_pos hj2, ← List.getD_eq_getElem?_getD, roomL_get e (by omega), if_pos hj2]
/-! ### DigestPlays: what holds between the rounds -/
theorem sm_ok {n : Int} {k x : List Int} {a : Nat → Int} (h : HS n k x a) (hk : k.length ≤ 32) (h1 : 1 ≤ n) (h2 : n ≤ 32) (hb : x.length ≤ 1000000000000) :
    0 + (n75 a 0).toNat ≤ (dgL (n75 a)).length ∧ 0 + (dSum n k (allL k x)).length ≤ (dSum n k (allL k x)).length ∧ (n75 a 0).toNat ≤ 140737488355328 ∧ subI (dgL (n75 a)) 0 (n75 a 0).toNat = subI (dSum n k (allL k x)) 0 (dSum n k (allL k x)).length ∧ (0 ≤ n75 a 74 ∧ n75 a 74 ≤ 64) ∧ (0 ≤ n75 a 0 ∧ n75 a 0 ≤ 32) := by
  have M := HT_75 h
  have o := HT_ok M h1 h2
  have e := HS_dg M hk (by omega) h2 hb
  have hl := dgL_len o.2
  refine ⟨by omega, by omega, by have := o.2; omega, ?_, o.1, o.2⟩
  rw [Go.Vx.subI_all, ← e, ← hl, Go.Vx.subI_all]
def xA (p : Nat → Bool) (d : Nat → List Int) : Nat → List Int
  | 0 => []
  | i + 1 => if p i = true then xA p d i else xA p d i ++ d i
noncomputable def aA (p : Nat → Bool) (a : Nat → Int) (d : Nat → List Int) : Nat → (Nat → Int)
  | 0 => a
  | i + 1 => if p i = true then n75 (aA p a d i) else wrA (n75 (aA p a d i)) (d i)
noncomputable def wA (p : Nat → Bool) (a : Nat → Int) (d : Nat → List Int) (v : List (List Int)) : Nat → List (List Int)
  | 0 => v
  | i + 1 => if p i = true then suW (wA p a d v i) (n75 (aA p a d i)) else wA p a d v i ++ evX (n75 (aA p a d i) 74) ((d i).length : Int)
/-- the desk -/
def DA (p : Nat → Bool) (d : Nat → List Int) (D : List Int) : Nat → List Int
  | 0 => D
  | i + 1 => if p i = true then DA p d D i else if (DA p d D i).length < (d i).length + 70 then flD (spD (gD (d i)) (d i) (gL (d i))) (gL (d i)) else flD (spD (DA p d D i) (d i) (DA p d D i).length) (DA p d D i).length
def sp7 (p : Nat → Bool) (d : Nat → List Int) (m : Nat) : Nat := firstI (fun i => decide (131072 < (xA p d i).length + (d i).length)) m
theorem sp7_le (p : Nat → Bool) (d : Nat → List Int) (m : Nat) : sp7 p d m ≤ m := (firstI_spec _ m).1
theorem sp7_lt {p : Nat → Bool} {d : Nat → List Int} {m i : Nat} (h : i < sp7 p d m) : (xA p d i).length + (d i).length ≤ 131072 := by
  have := (firstI_spec _ m).2.1 i h
  have := of_decide_eq_false this
  omega
theorem sp7_at {p : Nat → Bool} {d : Nat → List Int} {m : Nat} (h : sp7 p d m < m) : 131072 < (xA p d (sp7 p d m)).length + (d (sp7 p d m)).length := of_decide_eq_true ((firstI_spec _ m).2.2 h)
theorem xA_len {p : Nat → Bool} {d : Nat → List Int} {m : Nat} : ∀ i, i ≤ sp7 p d m → (xA p d i).length ≤ 131072
  | 0, _ => by simp [xA]
  | i + 1, h => by
    have := sp7_lt (show i < sp7 p d m by omega)
    simp only [xA]
    split
    · exact xA_len (m := m) i (by omega)
    · rw [List.length_append]; omega
theorem xA_bytes {p : Nat → Bool} {d : Nat → List Int} {m : Nat} (hd : YB d m) : ∀ i, i ≤ m → Bytes (xA p d i)
  | 0, _ => bytes_rep 0
  | i + 1, h => by
    simp only [xA]; split
    · exact xA_bytes hd i (by omega)
    · exact bytes_app (xA_bytes hd i (by omega)) (hd i (by omega))
theorem HS_A {n : Int} {k : List Int} {p : Nat → Bool} {d : Nat → List Int} {m : Nat} {a : Nat → Int} (h0 : HS n k [] a) (hk : k.length ≤ 32) : ∀ i, i ≤ sp7 p d m → HS n k (xA p d i) (aA p a d i)
  | 0, _ => h0
  | i + 1, h => by
    have ih := HS_A (p := p) (d := d) (m := m) h0 hk i (by omega)
    have hs := sp7_lt (p := p) (d := d) (m := m) (i := i) (by omega)
    simp only [xA, aA]
    split
    · exact HT_75 ih
    · exact HS_write (HT_75 ih) hk (by omega)
theorem wA_len {n : Int} {k : List Int} {p : Nat → Bool} {d : Nat → List Int} {a : Nat → Int} {v : List (List Int)} : ∀ i, (wA p a d v i).length ≤ v.length + 3 * i + 5 * (xA p d i).length
  | 0 => by simp [wA]
  | i + 1 => by
    have ih := wA_len (n := n) (k := k) (p := p) (d := d) (a := a) (v := v) i
    simp only [wA, xA]
    split
    · rw [suW, List.length_append]; simp; omega
    · have := evX_len (n75 (aA p a d i) 74) ((d i).length : Int)
      rw [Int.toNat_natCast] at this
      have e1 : (wA p a d v i ++ evX (n75 (aA p a d i) 74) ((d i).length : Int)).length = (wA p a d v i).length + (evX (n75 (aA p a d i) 74) ((d i).length : Int)).length := List.length_append
      have e2 : (xA p d i ++ d i).length = (xA p d i).length + (d i).length := List.length_append
      omega
theorem gL_eq (e : List Int) : gL e = 2 * e.length + 70 := by show (2 * (e.length : Int) + 70).toNat = _; omega
theorem DA_len {p : Nat → Bool} {d : Nat → List Int} {D : List Int} {m : Nat} (h0 : D.length = 64) : ∀ i, i ≤ sp7 p d m → (DA p d D i).length ≤ 300000
  | 0, _ => by simp only [DA]; omega
  | i + 1, h => by
    have ih := DA_len (p := p) (d := d) (m := m) h0 i (by omega)
    have hs := sp7_lt (show i < sp7 p d m by omega)
    have g := gL_eq (d i)
    simp only [DA]
    split
    · exact ih
    · split
      · rw [flD_len, spD_len (by omega) (by rw [List.length_replicate])]; omega
      · rw [flD_len, spD_len (by omega) rfl]; exact ih
/-- what is held -/
theorem held_next {a : Nat → Int} {e : List Int} (h : 0 ≤ n75 a 74 ∧ n75 a 74 ≤ 64) : eH (n75 a 74) e = n75 (wrA (n75 a) e) 74 := by
  rw [n75_at (a := wrA (n75 a) e) (j := 74) (by omega), wrA_ew h]
  show ewH (e.length : Int).toNat _ _ = _
  rw [Int.toNat_natCast]
theorem n75_n75 {a : Nat → Int} : n75 (n75 a) 74 = n75 a 74 := n75_at (a := n75 a) (by omega)
end Go.Proofs.Tryd
