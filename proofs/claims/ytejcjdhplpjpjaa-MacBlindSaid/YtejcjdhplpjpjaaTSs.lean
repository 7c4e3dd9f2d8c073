/- Accounts of this seat's functions: lemmas, no statement of their own. No conditions. -/
import Derived.Test.YtejcjdhplpjpjaaTSk
import Derived.Test.YtejcjdhplpjpjaaTSe
import Derived.Test.YtejcjdhplpjpjaaTC
import Derived.Test.YtejcjdhplpjpjaaV5
namespace Go.Proofs.Ytejcjdhplpjpjaa
open Go Go.Vx
/-! ### take with a Recorder, of a constant block -/
theorem take_r1 (a : Nat → Int) (vs : List Int) (w : List (List Int)) : runF gp 300 [] 38 [.ptr 0 0, .rop (.agg (roiL .u8 vs 16 0))] [macV (.ptr 1 0) a, .log w] [] =
    some (.tuple [], [some (macV (.ptr 1 0) (setS (plusN (byL a) (smL a) (tkS ((((listF 16 (atL vs) 0).drop 0).take 16).take 16))) a)), some (.log ((w ++ [[3, 11]]) ++ [[3, 12]]))], [Fits .i64 ((min ((((listF 16 (atL vs) 0).drop 0).take 16)).length 16 : Nat) : Int), 0 + ((((listF 16 (atL vs) 0).drop 0).take 16).take 16).length ≤ 17, (w ++ [[3, 11]]).length < 1099511627776, w.length < 1099511627776]) :=
  run_parts (by kernel_rfl) (by kernel_rfl) (by kernel_rfl)
noncomputable def F38r : SumF := fun args B => match args, B with
  | [.ptr 0 0, .rop (.agg cs)], [.cells ms, .log w] => match macAs ms, headK (ms.take 1), numsAs (List.replicate 16 .u8) cs with
    | some la, .log1, some lb => some { val := .tuple [], upd := [(0, some (macV (.ptr 1 0) (setS (plusN (byL (atL la)) (smL (atL la)) (lb ++ [1])) (atL la)))), (1, some (.log (w ++ [[3, 11], [3, 12]])))], C := [w.length < 1099511627770] }
    | _, _, _ => none
  | _, _ => none
theorem acc38r : Acc gp 38 F38r := by
  intro args B out h hC
  unfold F38r at h
  split at h
  · rename_i cs ms w
    split at h
    · rename_i la lb ha hr hb
      have hr := head_log1 hr
      simp only [Option.some.injEq] at h; subst h
      have hw : w.length < 1099511627770 := hC _ (by simp)
      have hl : lb.length = 16 := by have := (numsAs_len hb).1; simpa using this
      refine FnOk.imp (args' := [.ptr 0 0, .rop (.agg (roiL .u8 lb 16 0))]) ?_ ⟨DenImp.refl _, rop_imp hb, trivial⟩
      refine FnOk.preB (B' := [macV (.ptr 1 0) (atL la), .log w]) ?_ ⟨cells_mac ha hr rfl, ⟨BImp.refl _, fun _ h => by simp at h⟩, trivial⟩ (fun j => by
        match j with
        | 0 => rfl
        | 1 => rfl
        | j + 2 => rfl)
      have hr := take_r1 (atL la) lb w
      have e : (((listF 16 (atL lb) 0).drop 0).take 16).take 16 = lb := by
        rw [List.drop_zero, List.take_take, List.take_of_length_le (by rw [listF_length]; decide), ← hl, listF_atL]
      have e2 : ((listF 16 (atL lb) 0).drop 0).take 16 = lb := by
        rw [List.drop_zero, List.take_of_length_le (by rw [listF_length]; decide), ← hl, listF_atL]
      rw [e, e2, tkS_eq hl, List.append_assoc] at hr
      exact FnOk.val (FnOk.run (out := { val := .tuple [], upd := [(0, some (macV (.ptr 1 0) (setS (plusN (byL (atL la)) (smL (atL la)) (lb ++ [1])) (atL la)))), (1, some (.log (w ++ [[3, 11], [3, 12]])))] }) (new := []) gp_ok hr (by
        simp only [allC_cons, allC_nil, and_true, List.length_append, List.length_cons, List.length_nil]
        rw [hl]
        exact ⟨fits_of (by decide) (by decide), by decide, by omega, by omega⟩) (by simp [upto]) rfl (by simp) (by simp) (fun j hj => by
        match j, hj with
        | 0, _ => rfl
        | 1, _ => rfl)) (fun _ _ _ _ h => h)
    · simp at h
  · simp at h
noncomputable abbrev gwr : Ctx := gw.add [(38, oneOf F38 F38r)]
theorem gwr_ok : CtxU gwr := gw_ok.add mixed noGo (by
  intro x hx
  simp only [List.mem_cons, List.not_mem_nil, or_false] at hx
  rcases hx with rfl
  exact Acc.of (g := gp) rfl rfl (acc_one acc38 acc38r))
/-! ### Write with a Recorder, of a constant piece: whole blocks -/
noncomputable abbrev rlB (a : Nat → Int) (w : List (List Int)) : List Body := [macV (.ptr 1 0) a, .log w]
theorem rl_go (l : List Int) (a : Nat → Int) (w : List (List Int)) : runC gwr 300 102 [.br true] wrBody (wrKeep.zip [.ptr 0 0, .roi .u8 l]) (rlB a w) wrKeep [0, 1] =
    some (.normal, [.ptr 0 0, .roi .u8 ((l.drop 16).take (l.length - 16))], (rlB (tkA a (lbR l)) ((w ++ [[1, bI (decide ((16 : Int) ≤ (l.length : Int)))]]) ++ [[3, 11], [3, 12]])).map some,
      [w.length < 1099511627776, Fits .i64 (l.length : Int), decide ((16 : Int) ≤ (l.length : Int)) = true, (w ++ [[1, bI (decide ((16 : Int) ≤ (l.length : Int)))]]).length < 1099511627770, 16 ≤ ((l.drop 0).take 16).length, (0 : Int) ≤ 0 ∧ (0 : Int) ≤ 16 ∧ (16 : Int) ≤ (l.length : Int), (0 : Int) ≤ 16 ∧ (16 : Int) ≤ (l.length : Int) ∧ (l.length : Int) ≤ (l.length : Int)]) :=
  r3_parts4 (by kernel_rfl) (by kernel_rfl) (by kernel_rfl) (by kernel_rfl)
theorem rl_end (l : List Int) (a : Nat → Int) (w : List (List Int)) : runC gwr 300 102 [.br false] wrBody (wrKeep.zip [.ptr 0 0, .roi .u8 l]) (rlB a w) wrKeep [0, 1] =
    some (.exit 0, [.ptr 0 0, .roi .u8 l], (rlB a (w ++ [[1, bI (decide ((16 : Int) ≤ (l.length : Int)))]])).map some, [w.length < 1099511627776, Fits .i64 (l.length : Int), decide ((16 : Int) ≤ (l.length : Int)) = false]) :=
  r3_parts4 (by kernel_rfl) (by kernel_rfl) (by kernel_rfl) (by kernel_rfl)
noncomputable def rlG : LoopF := fun vals B => match vals, B with
  | [.ptr 0 0, .roi K l], [.cells ms, .log w] => match macAs ms, headK (ms.take 1), sameK K .u8 with
    | some la, .log1, true => some ([(0, .ptr 0 0), (1, .roi .u8 (l.drop (16 * (l.length / 16))))], rlB (lpA (atL la) l (l.length / 16)) (evB w (l.length / 16) ++ [[1, 0]]), [l.length ≤ 131072, w.length < 1000000000])
    | _, _, _ => none
  | _, _ => none
theorem idR : ∀ j : Nat, j < 2 → ([0, 1] : List Nat)[j]? = some j := fun j hj => by
  match j, hj with
  | 0, _ => rfl
  | 1, _ => rfl
theorem rl_loop : LoopGood gwr 102 (.loop wrBody) wrKeep 2 (.exit 0) (mkLoopN rlG) := by
  refine LoopGood.mkN (by decide) fun vals B S' B' C hG hC hlen w0 O hgl => ?_
  clear hlen
  unfold rlG at hG
  split at hG
  · rename_i K l ms w
    split at hG
    · rename_i la ha hr hK
      obtain rfl := kidx_inj hK
      have hr := head_log1 hr
      simp only [Option.some.injEq, Prod.mk.injEq] at hG
      obtain ⟨rfl, rfl, rfl⟩ := hG
      simp only [allC_cons, allC_nil, and_true] at hC
      obtain ⟨h2, h3⟩ := hC
      refine SimC.preI (B1 := rlB (atL la) w) ?_ ⟨cells_mac ha hr rfl, ⟨BImp.refl _, fun _ h => by simp at h⟩, trivial⟩
      show SimC _ _ _ _ _ (lpS0 l 0) (rlB (lpA (atL la) l 0) (evB w 0)) _ _ _ _
      refine SimC.iter (g := gwr) (e := .exit 0) (S := fun i => lpS0 l i) (B := fun i => rlB (lpA (atL la) l i) (evB w i)) (N := l.length / 16) (fun i hi => ?_) ?_ (by simp) 0 (by omega)
      · have hd : (l.drop (16 * i)).length = l.length - 16 * i := by rw [List.length_drop]
        have h16 : 16 ≤ (l.drop (16 * i)).length := by omega
        have hr := rl_go (l.drop (16 * i)) (lpA (atL la) l i) (evB w i)
        have hb := evB_len w i
        have e1 : bI (decide ((16 : Int) ≤ ((l.drop (16 * i)).length : Int))) = 1 := bI_t (by omega)
        have e : (((l.drop (16 * i)).drop 16).take ((l.drop (16 * i)).length - 16)) = l.drop (16 * (i + 1)) := by
          rw [List.drop_drop, hd, List.take_of_length_le (by rw [List.length_drop]; omega), show 16 * i + 16 = 16 * (i + 1) by omega]
        rw [e1, e, lbR_eq h16] at hr
        refine SimC.run (B' := rlB (lpA (atL la) l (i + 1)) (evB w (i + 1))) gwr_ok (by decide) hr ?_ (by decide) idR (by decide) (by simp) hgl
        simp only [allC_cons, allC_nil, and_true, List.length_append, List.length_cons, List.length_nil]
        exact ⟨by omega, fits_of (by omega) (by omega), decide_eq_true (by omega), by omega, by rw [List.drop_zero, List.length_take]; omega, ⟨by omega, by omega, by omega⟩, ⟨by omega, by omega, by omega⟩⟩
      · have hd : (l.drop (16 * (l.length / 16))).length = l.length - 16 * (l.length / 16) := by rw [List.length_drop]
        have hr := rl_end (l.drop (16 * (l.length / 16))) (lpA (atL la) l (l.length / 16)) (evB w (l.length / 16))
        have hb := evB_len w (l.length / 16)
        have e1 : bI (decide ((16 : Int) ≤ ((l.drop (16 * (l.length / 16))).length : Int))) = 0 := bI_f (by omega)
        rw [e1] at hr
        exact SimC.weaken (SimC.run (B' := rlB (lpA (atL la) l (l.length / 16)) (evB w (l.length / 16) ++ [[1, 0]])) gwr_ok (by decide) hr (by simp only [allC_cons, allC_nil, and_true]; exact ⟨by omega, fits_of (by omega) (by omega), decide_eq_false (by omega)⟩) (by decide) idR (by decide) (by simp) hgl) (sub_mkT (by simp; exact ⟨rfl, rfl⟩))
    · simp at hG
  · simp at hG
/-! ### the runs -/
noncomputable abbrev rlPl : Plan := .loop 8 wrKeep 2 (.exit 0) (mkLoopN rlG)
noncomputable abbrev LGr : Prop := LoopGood gwr 102 (.loop wrBody) wrKeep 2 (.exit 0) (mkLoopN rlG)
abbrev evR (w : List (List Int)) (l : List Int) : List (List Int) := (evB w (l.length / 16) ++ [[1, 0]]) ++ [[1, bI (decide (0 < ((rsL l).length : Int)))]]
noncomputable abbrev CrL (l : List Int) (w : List (List Int)) (b : Bool) : List Prop := [LGr, l.length ≤ 131072, w.length < 1000000000, (evB w (l.length / 16) ++ [[1, 0]]).length < 1099511627776, Fits .i64 ((rsL l).length : Int), decide (0 < ((rsL l).length : Int)) = b]
abbrev rl3 (a : Nat → Int) (l : List Int) (w : List (List Int)) : List (List Int) := (w1L a w ++ [[2, a 42]]) ++ [[2, kN a l]]
abbrev rl4 (a : Nat → Int) (l : List Int) (w : List (List Int)) : List (List Int) := rl3 a l w ++ [[1, bI (decide (a 42 + kN a l = 16))]]
abbrev CrH (a : Nat → Int) (l : List Int) (w : List (List Int)) (b : Bool) : List Prop := [w.length < 1099511627776, C0 a true, Fits .i64 (kN a l), (a 42).toNat + (l.take (16 - (a 42).toNat)).length ≤ 16, 0 ≤ a 42 ∧ a 42 ≤ ((16 : Nat) : Int) ∧ ((16 : Nat) : Int) ≤ ((16 : Nat) : Int), (w1L a w).length < 1099511627776, 0 ≤ kN a l ∧ kN a l ≤ (l.length : Int) ∧ (l.length : Int) ≤ (l.length : Int), (w1L a w ++ [[2, a 42]]).length < 1099511627776, Fits .i64 (a 42 + kN a l), (rl3 a l w).length < 1099511627776, decide (a 42 + kN a l = 16) = b]
theorem rl00 (a : Nat → Int) (l : List Int) (w : List (List Int)) : runF gwr 400 [.br false, rlPl, .br false] 12 [.ptr 0 0, .roi .u8 l] (rlB a w) [] =
    some (.tuple [], (rlB (lpE a l) (evR (w1L a w) l)).map some, [w.length < 1099511627776, C0 a false] ++ CrL l (w1L a w) false) :=
  run_parts (by kernel_rfl) (by kernel_rfl) (by kernel_rfl)
theorem rl01 (a : Nat → Int) (l : List Int) (w : List (List Int)) : runF gwr 400 [.br false, rlPl, .br true] 12 [.ptr 0 0, .roi .u8 l] (rlB a w) [] =
    some (.tuple [], (rlB (tlE a l) (evR (w1L a w) l)).map some, [w.length < 1099511627776, C0 a false] ++ (CrL l (w1L a w) true ++ Ctl l)) :=
  run_parts (by kernel_rfl) (by kernel_rfl) (by kernel_rfl)
theorem rln0 (a : Nat → Int) (l : List Int) (w : List (List Int)) : runF gwr 400 [.br true, .br false, rlPl, .br false] 12 [.ptr 0 0, .roi .u8 l] (rlB a w) [] =
    some (.tuple [], (rlB (lpE (ovA a l) (l1 a l)) (evR (rl4 a l w) (l1 a l))).map some, CrH a l w false ++ CrL (l1 a l) (rl4 a l w) false) :=
  run_parts (by kernel_rfl) (by kernel_rfl) (by kernel_rfl)
theorem rle0 (a : Nat → Int) (l : List Int) (w : List (List Int)) : runF gwr 400 [.br true, .br true, rlPl, .br false] 12 [.ptr 0 0, .roi .u8 l] (rlB a w) [] =
    some (.tuple [], (rlB (lpE (eqA a l) (l1 a l)) (evR (rl4 a l w ++ [[3, 11], [3, 12]]) (l1 a l))).map some, CrH a l w true ++ (((rl4 a l w).length < 1099511627770) :: CrL (l1 a l) (rl4 a l w ++ [[3, 11], [3, 12]]) false)) :=
  run_parts (by kernel_rfl) (by kernel_rfl) (by kernel_rfl)
theorem rle1 (a : Nat → Int) (l : List Int) (w : List (List Int)) : runF gwr 400 [.br true, .br true, rlPl, .br true] 12 [.ptr 0 0, .roi .u8 l] (rlB a w) [] =
    some (.tuple [], (rlB (tlE (eqA a l) (l1 a l)) (evR (rl4 a l w ++ [[3, 11], [3, 12]]) (l1 a l))).map some, CrH a l w true ++ (((rl4 a l w).length < 1099511627770) :: (CrL (l1 a l) (rl4 a l w ++ [[3, 11], [3, 12]]) true ++ Ctl (l1 a l)))) :=
  run_parts (by kernel_rfl) (by kernel_rfl) (by kernel_rfl)
/-! ### the account -/
theorem evR_eq (w l0 : List (List Int)) (l : List Int) : evR (w ++ l0) l = w ++ evE l0 (l.length : Int) := by
  show (evB (w ++ l0) (l.length / 16) ++ [[1, 0]]) ++ [[1, bI (decide (0 < ((rsL l).length : Int)))]] = w ++ (evB l0 ((l.length : Int).toNat / 16) ++ [[1, bI false], [1, bI (decide (0 < rI (l.length : Int)))]])
  have e : ((rsL l).length : Int) = rI (l.length : Int) := by
    rw [rI_nat, rs_len]
    show ((l.length % 16 : Nat) : Int) = ((l.length - 16 * (l.length / 16) : Nat) : Int)
    omega
  rw [evB_app, Int.toNat_natCast, e]
  simp only [List.append_assoc]
  rfl
theorem rl_acc (a : Nat → Int) (l : List Int) (w : List (List Int)) (h1 : 0 ≤ a 42 ∧ a 42 < 16) (h3 : l.length ≤ 131072) (h4 : w.length < 900000000) :
    FnOk gwr 12 [.ptr 0 0, .roi .u8 l] (rlB a w) { val := .tuple [], upd := [(0, some (macV (.ptr 1 0) (wrA a l))), (1, some (.log (w ++ evW (a 42) (l.length : Int))))] } := by
  have hL : LGr := rl_loop
  have fin : ∀ {pl C} {v : Nat → Int} {w' : List (List Int)}, runF gwr 400 pl 12 [.ptr 0 0, .roi .u8 l] (rlB a w) [] = some (.tuple [], (rlB v w').map some, C) → AllC C → FnOk gwr 12 [.ptr 0 0, .roi .u8 l] (rlB a w) { val := .tuple [], upd := [(0, some (macV (.ptr 1 0) v)), (1, some (.log w'))] } := fun hr hC =>
    FnOk.run (new := []) gwr_ok hr hC (by simp [upto]) rfl (by simp) (by simp) (fun j hj => by
      match j, hj with
      | 0, _ => rfl
      | 1, _ => rfl)
  have rest : ∀ (w' : List (List Int)) (l : List Int), l.length ≤ 131072 → w'.length < 900000010 → ∀ b, decide (0 < ((rsL l).length : Int)) = b → AllC (CrL l w' b) := fun w' l q2 q3 b hb => by
    have := evB_len w' (l.length / 16)
    have hz := rs_len l
    simp only [CrL, allC_cons, allC_nil, and_true, List.length_append, List.length_cons, List.length_nil]
    exact ⟨hL, q2, by omega, by omega, fits_of (by omega) (by omega), hb⟩
  have tl : ∀ l : List Int, AllC (Ctl l) := fun l => by
    have h5 := Nat.min_le_right (rsL l).length 16
    have h6 : ((rsL l).take 16).length ≤ 16 := by rw [List.length_take]; exact Nat.min_le_left _ _
    simp only [Ctl, allC_cons, allC_nil, and_true]
    exact ⟨fits_of (by omega) (by omega), by omega⟩
  have kk' := kN_le a l
  have kl : (l1 a l).length = l.length - (kN a l).toNat := by rw [l1, List.length_take, List.length_drop]; omega
  have w1l : (w1L a w).length = w.length + 1 := by simp
  have w4l : (rl4 a l w).length = w.length + 4 := by simp
  have hh : ∀ b, decide (a 42 + kN a l = 16) = b → 0 < a 42 → AllC (CrH a l w b) := fun b hb h0 => by
    have h5 : (l.take (16 - (a 42).toNat)).length ≤ 16 - (a 42).toNat := by rw [List.length_take]; exact Nat.min_le_left _ _
    simp only [CrH, allC_cons, allC_nil, and_true]
    refine ⟨by omega, decide_eq_true h0, fits_of (by omega) (by omega), by omega, ⟨by omega, by omega, by omega⟩, by omega, ⟨by omega, by omega, by omega⟩, ?_, fits_of (by omega) (by omega), ?_, hb⟩
    · simp; omega
    · simp; omega
  unfold wrA evW
  by_cases h0 : 0 < a 42
  · rw [if_pos h0, if_pos h0]
    have q2 : (l1 a l).length ≤ 131072 := by omega
    have e4 : ∀ c, bI (decide (a 42 + kN a l = 16)) = c → rl4 a l w = w ++ [[1, 1], [2, a 42], [2, kN a l], [1, c]] := fun c hc => by
      show (((w ++ [[1, bI (decide (0 < a 42))]]) ++ [[2, a 42]]) ++ [[2, kN a l]]) ++ [[1, bI (decide (a 42 + kN a l = 16))]] = _
      rw [bI_t h0, hc]
      simp only [List.append_assoc]; rfl
    by_cases h16 : a 42 + kN a l = 16
    · rw [if_pos h16]
      have hk : kN a l = 16 - a 42 := by omega
      have hn : ¬ (l.length : Int) < 16 - a 42 := by omega
      rw [if_neg hn]
      have en : ((l1 a l).length : Int) = (l.length : Int) - (16 - a 42) := by omega
      have eL : evR (rl4 a l w ++ [[3, 11], [3, 12]]) (l1 a l) = w ++ evE [[1, 1], [2, a 42], [2, 16 - a 42], [1, 1], [3, 11], [3, 12]] ((l.length : Int) - (16 - a 42)) := by
        rw [e4 1 (bI_t h16), List.append_assoc, evR_eq, en, hk]
        rfl
      have w5l : (rl4 a l w ++ [[3, 11], [3, 12]]).length = w.length + 6 := by simp
      by_cases hr : 0 < (rsL (l1 a l)).length
      · rw [if_pos hr]
        have hx := rle1 a l w
        rw [eL] at hx
        exact fin hx (allC_append.2 ⟨hh _ (decide_eq_true h16) h0, allC_cons.2 ⟨by omega, allC_append.2 ⟨rest _ _ q2 (by omega) _ (decide_eq_true (by omega)), tl _⟩⟩⟩)
      · rw [if_neg hr]
        have hx := rle0 a l w
        rw [eL] at hx
        exact fin hx (allC_append.2 ⟨hh _ (decide_eq_true h16) h0, allC_cons.2 ⟨by omega, rest _ _ q2 (by omega) _ (decide_eq_false (by omega))⟩⟩)
    · rw [if_neg h16]
      have e16 : kN a l = (l.length : Int) ∨ kN a l = ((16 - (a 42).toNat : Nat) : Int) := by
        have : min l.length (16 - (a 42).toNat) = l.length ∨ min l.length (16 - (a 42).toNat) = 16 - (a 42).toNat := by omega
        rcases this with h | h
        · left; show ((min l.length (16 - (a 42).toNat) : Nat) : Int) = _; rw [h]
        · right; show ((min l.length (16 - (a 42).toNat) : Nat) : Int) = _; rw [h]
      have hk : kN a l = (l.length : Int) := by omega
      have hn : (l.length : Int) < 16 - a 42 := by omega
      rw [if_pos hn]
      have en : (l1 a l).length = 0 := by omega
      have eL : evR (rl4 a l w) (l1 a l) = w ++ evE [[1, 1], [2, a 42], [2, (l.length : Int)], [1, 0]] 0 := by
        rw [e4 0 (bI_f h16), evR_eq, en, hk]
        rfl
      have hx := rln0 a l w
      rw [eL] at hx
      have hz := rs_len (l1 a l)
      exact fin hx (allC_append.2 ⟨hh _ (decide_eq_false h16) h0, rest _ _ q2 (by omega) _ (decide_eq_false (by omega))⟩)
  · rw [if_neg h0, if_neg h0]
    have eL : evR (w1L a w) l = w ++ evE [[1, 0]] (l.length : Int) := by
      show evR (w ++ [[1, bI (decide (0 < a 42))]]) l = _
      rw [bI_f h0, evR_eq]
    by_cases hr : 0 < (rsL l).length
    · rw [if_pos hr]
      have hx := rl01 a l w
      rw [eL] at hx
      exact fin hx (allC_append.2 ⟨allC_cons.2 ⟨by omega, allC_cons.2 ⟨decide_eq_false h0, by simp [AllC]⟩⟩, allC_append.2 ⟨rest _ _ h3 (by omega) _ (decide_eq_true (by omega)), tl _⟩⟩)
    · rw [if_neg hr]
      have hx := rl00 a l w
      rw [eL] at hx
      exact fin hx (allC_append.2 ⟨allC_cons.2 ⟨by omega, allC_cons.2 ⟨decide_eq_false h0, by simp [AllC]⟩⟩, rest _ _ h3 (by omega) _ (decide_eq_false (by omega))⟩)
noncomputable def F12r : SumF := fun args B => match args, B with
  | [.ptr 0 0, .roi K l], [.cells ms, .log w] => match macAs ms, headK (ms.take 1), sameK K .u8 with
    | some la, .log1, true => some { val := .tuple [], upd := [(0, some (macV (.ptr 1 0) (wrA (atL la) l))), (1, some (.log (w ++ evW (atL la 42) (l.length : Int))))], C := [0 ≤ atL la 42 ∧ atL la 42 < 16, l.length ≤ 131072, w.length < 900000000] }
    | _, _, _ => none
  | _, _ => none
theorem acc12r : Acc gwr 12 F12r := by
  intro args B out h hC
  unfold F12r at h
  split at h
  · rename_i K l ms w
    split at h
    · rename_i la ha hr hK
      obtain rfl := kidx_inj hK
      have hr := head_log1 hr
      simp only [Option.some.injEq] at h; subst h
      simp only [allC_cons, allC_nil, and_true] at hC
      obtain ⟨h1, h3, h4⟩ := hC
      refine FnOk.preB (B' := rlB (atL la) w) ?_ ⟨cells_mac ha hr rfl, ⟨BImp.refl _, fun _ h => by simp at h⟩, trivial⟩ (fun j => by
        match j with
        | 0 => rfl
        | 1 => rfl
        | j + 2 => rfl)
      exact FnOk.val (C := []) (rd := []) (rl_acc (atL la) l w h1 h3 h4) (fun _ _ _ _ h => h)
    · simp at h
  · simp at h
end Go.Proofs.Ytejcjdhplpjpjaa

namespace Go.Proofs.Ytejcjdhplpjpjaa
open Go Go.Vx
/-! ### two lists of events that are one -/
abbrev leKeep : List Nat := [0, 1, 5]
noncomputable abbrev leBody : Code := bodyAt Try.prog 25 4
abbrev leS (i : Nat) : List (Nat × SV) := leKeep.zip [.own 0, .own 1, .int .i64 (i : Int)]
noncomputable abbrev leB (l : List (List Int)) : List Body := [.rows [.i64, .i64] l, .rows [.i64, .i64] l]
theorem le_go (i : Nat) (l : List (List Int)) : runC ge 200 41 [.br true, .br false, .br false] leBody (leS i) (leB l) leKeep [0, 1] =
    some (Ex.normal, [SV.own (0 : Nat), SV.own (1 : Nat), SV.int IntKind.i64 ((↑i : Int) + (1 : Int))], [some (Body.rows [IntKind.i64, IntKind.i64] l), some (Body.rows [IntKind.i64, IntKind.i64] l)], [Fits IntKind.i64 (↑l.length : Int), decide ((↑i : Int) < (↑l.length : Int)) = true, i < l.length, (0 : Int) ≤ (↑i : Int) ∧ (↑i : Int) < (↑(List.length l) : Int), i < l.length, (0 : Int) ≤ (↑i : Int) ∧ (↑i : Int) < (↑(List.length l) : Int), (!decide ((l.getD (↑i : Int).toNat []).getD ((0 : Nat) + (0 : Nat) + (0 : Nat)) (0 : Int) = (l.getD (↑i : Int).toNat []).getD ((0 : Nat) + (0 : Nat) + (0 : Nat)) (0 : Int))) = false, i < l.length, (0 : Int) ≤ (↑i : Int) ∧ (↑i : Int) < (↑(List.length l) : Int), i < l.length, (0 : Int) ≤ (↑i : Int) ∧ (↑i : Int) < (↑(List.length l) : Int), (!decide ((l.getD (↑i : Int).toNat []).getD ((0 : Nat) + (1 : Nat) + (0 : Nat)) (0 : Int) = (l.getD (↑i : Int).toNat []).getD ((0 : Nat) + (1 : Nat) + (0 : Nat)) (0 : Int))) = false, Fits IntKind.i64 ((↑i : Int) + (1 : Int))]) := by kernel_rfl
theorem le_end (i : Nat) (l : List (List Int)) : runC ge 200 41 [.br false] leBody (leS i) (leB l) leKeep [0, 1] =
    some (Ex.exit (0 : Nat), [SV.own (0 : Nat), SV.own (1 : Nat), SV.int IntKind.i64 (↑i : Int)], [some (Body.rows [IntKind.i64, IntKind.i64] l), some (Body.rows [IntKind.i64, IntKind.i64] l)], [Fits IntKind.i64 (↑l.length : Int), decide ((↑i : Int) < (↑l.length : Int)) = false]) := by kernel_rfl
def leG : LoopF := fun vals B => match vals, B with
  | [.own 0, .own 1, .int .i64 0], [.rows K la, .rows K2 lb] => match sameKs K [.i64, .i64], sameKs K2 [.i64, .i64] with
    | true, true => some ([], [.rows [.i64, .i64] la, .rows [.i64, .i64] lb], [la = lb, la.length ≤ 140737488355328])
    | _, _ => none
  | _, _ => none
theorem le_loop : LoopGood ge 41 (.loop leBody) leKeep 2 (.exit 0) (mkLoopN leG) := by
  refine LoopGood.mkN (by decide) fun vals B S' B' C hG hC hlen w0 O hgl => ?_
  clear hlen
  unfold leG at hG
  split at hG
  · rename_i K la K2 lb
    split at hG
    · rename_i hK hK2
      obtain rfl := sameKs_eq hK
      obtain rfl := sameKs_eq hK2
      simp only [Option.some.injEq, Prod.mk.injEq] at hG
      obtain ⟨rfl, rfl, rfl⟩ := hG
      simp only [allC_cons, allC_nil, and_true] at hC
      obtain ⟨rfl, h3⟩ := hC
      have j2 : ∀ j : Nat, j < 2 → ([0, 1] : List Nat)[j]? = some j := fun j hj => by
        match j, hj with
        | 0, _ => rfl
        | 1, _ => rfl
      have F1 : Fits .i64 (la.length : Int) := Go.Vx.fits_small h3
      refine SimC.iter (g := ge) (S := fun i => leS i) (B := fun _ => leB la) (N := la.length) (fun i hi => ?_) ?_ (by simp) 0 (by omega)
      · have F4 : Fits .i64 ((i : Int) + 1) := fits_of (by omega) (by omega)
        exact SimC.run (B' := leB la) ge_ok (by decide) (le_go i la) (by (simp only [allC_cons, allC_nil, and_true]; repeat' (with_reducible (first | refine And.intro ?_ ?_ | exact True.intro | assumption | omega | exact decide_eq_true (by first | assumption | omega) | exact decide_eq_false (by first | assumption | omega) | rfl | (simp; done))))) (by decide) j2 (by decide) (by simp) hgl
      · exact SimC.weaken (SimC.run (B' := leB la) ge_ok (by decide) (le_end la.length la) (by (simp only [allC_cons, allC_nil, and_true]; repeat' (with_reducible (first | refine And.intro ?_ ?_ | exact True.intro | assumption | omega | exact decide_eq_true (by first | assumption | omega) | exact decide_eq_false (by first | assumption | omega) | rfl | (simp; done))))) (by decide) j2 (by decide) (by simp) hgl) (fun t => .inr (by simp [mkT, tget, Tr.get_lf]))
    · simp at hG
  · simp at hG
theorem se_run (la lb : List (List Int)) : runF ge 200 [.br false, .loop 4 leKeep 2 (.exit 0) (mkLoopN leG)] 25 [.own 0, .own 1] [.rows [.i64, .i64] la, .rows [.i64, .i64] lb] [] =
    some (SV.bool true, [some (Body.rows [IntKind.i64, IntKind.i64] la), some (Body.rows [IntKind.i64, IntKind.i64] lb)], [Fits IntKind.i64 (↑lb.length : Int), Fits IntKind.i64 (↑la.length : Int), (!decide ((↑la.length : Int) = (↑lb.length : Int))) = false, LoopGood ge 41 (.loop leBody) leKeep 2 (.exit 0) (mkLoopN leG), la = lb, la.length ≤ (140737488355328 : Nat)]) := by kernel_rfl
def seF : SumF := fun args B => match args, B with
  | [.own 0, .own 1], [.rows K la, .rows K2 lb] => match sameKs K [.i64, .i64], sameKs K2 [.i64, .i64] with
    | true, true => some { val := .sbool true, C := [la = lb, la.length ≤ 140737488355328] }
    | _, _ => none
  | _, _ => none
theorem se_acc : Acc ge 25 seF := by
  intro args B out h hC
  unfold seF at h
  split at h
  · rename_i K la K2 lb
    split at h
    · rename_i hK hK2
      obtain rfl := sameKs_eq hK
      obtain rfl := sameKs_eq hK2
      simp only [Option.some.injEq] at h; subst h
      simp only [allC_cons, allC_nil, and_true] at hC
      obtain ⟨rfl, hl⟩ := hC
      have F1 : Fits .i64 (la.length : Int) := Go.Vx.fits_small hl
      have hL := le_loop
      refine FnOk.toSb (b := true) ?_ rfl
      refine FnOk.run (out := { val := .bool true }) (new := []) ge_ok (se_run _ _) (by (simp only [allC_cons, allC_nil, and_true]; repeat' (with_reducible (first | refine And.intro ?_ ?_ | exact True.intro | assumption | omega | exact decide_eq_true (by first | assumption | omega) | exact decide_eq_false (by first | assumption | omega) | rfl | (simp; done))))) (by simp [upto]) rfl (by simp) (by simp) fun j hj => ?_
      match j, hj with
      | 0, _ => rfl
      | 1, _ => rfl
      | j + 2, hj => exact absurd hj (by simp)
    · simp at h
  · simp at h
/-! ### all accounts of MacPlays -/
noncomputable abbrev gy : Ctx := ge.add [(11, oneOf F11 F11l), (12, oneOf F12 F12l), (13, oneOf F13 F13l), (21, F21), (24, F24), (25, seF)]
theorem gy_ok : CtxU gy := ge_ok.add mixed noGo (by
  intro x hx
  simp only [List.mem_cons, List.not_mem_nil, or_false] at hx
  rcases hx with rfl | rfl | rfl | rfl | rfl | rfl
  · exact Acc.of (g := gp) rfl rfl (acc_one acc11 acc11l)
  · exact Acc.of (g := gw) rfl rfl (acc_one acc12 acc12l)
  · exact Acc.of (g := gw) rfl rfl (acc_one acc13 acc13l)
  · exact acc21
  · exact acc24
  · exact se_acc)
end Go.Proofs.Ytejcjdhplpjpjaa

namespace Go.Proofs.Ytejcjdhplpjpjaa
open Go Go.Vx
/-! ### MacPlays: the desk is written over -/
abbrev flKeep : List Nat := [1, 2, 5, 6, 7, 8, 9, 10, 11, 12, 14]
noncomputable abbrev flBody : Code := bodyAt Try.prog 7 29
abbrev flO (m L : Nat) (f : Nat → SV) (h i k : Int) : List SV := [.ro 2 m f, .ptr 0 0, .ptr 1 0, .ptr 2 0, .own 3, .own 4, .int .i64 h, .sl 5 L 0 1 0 L false, .int .i64 i, .ptr 6 0, .int .i64 k]
abbrev flS (m L : Nat) (f : Nat → SV) (h i : Int) (k : Nat) : List (Nat × SV) := flKeep.zip (flO m L f h i (k : Int))
noncomputable abbrev flB (ck a : Nat → Int) (b : Bool) (e : List Int) (w l : List (List Int)) (x D : List Int) : List Body := [.cells (svF (List.replicate 32 .u8) ck 0), .log w, macV (.ptr 1 0) a, .ints .u8 x, .rows evK l, .ints .u8 D, .cells [.sbool b, .roi .u8 e]]
theorem fl_go (m L : Nat) (f : Nat → SV) (h i : Int) (k : Nat) (ck a : Nat → Int) (b : Bool) (e : List Int) (w l : List (List Int)) (x D : List Int) : runC gy 300 139 [.br true] flBody (flS m L f h i k) (flB ck a b e w l x D) flKeep [0, 1, 2, 3, 4, 5, 6] =
    some (.normal, flO m L f h i ((k : Int) + 1), (flB ck a b e w l x (D.set (0 + k + 0) 153)).map some, [Fits .i64 (L : Int), decide ((k : Int) < (L : Int)) = true, 0 + k + 0 < D.length, (0 : Int) ≤ (k : Int) ∧ (k : Int) < (L : Int), Fits .i64 ((k : Int) + 1)]) :=
  r3_parts4 (by kernel_rfl) (by kernel_rfl) (by kernel_rfl) (by kernel_rfl)
theorem fl_end (m L : Nat) (f : Nat → SV) (h i : Int) (k : Nat) (ck a : Nat → Int) (b : Bool) (e : List Int) (w l : List (List Int)) (x D : List Int) : runC gy 300 139 [.br false] flBody (flS m L f h i k) (flB ck a b e w l x D) flKeep [0, 1, 2, 3, 4, 5, 6] =
    some (.exit 4, flO m L f h i (k : Int), (flB ck a b e w l x D).map some, [Fits .i64 (L : Int), decide ((k : Int) < (L : Int)) = false]) :=
  r3_parts4 (by kernel_rfl) (by kernel_rfl) (by kernel_rfl) (by kernel_rfl)
end Go.Proofs.Ytejcjdhplpjpjaa

namespace Go.Proofs.Ytejcjdhplpjpjaa
open Go Go.Vx
/-! ### MacPlays: the desk's loop -/
def flD (D : List Int) : Nat → List Int
  | 0 => D
  | k + 1 => (flD D k).set (0 + k + 0) 153
theorem flD_len (D : List Int) : ∀ k, (flD D k).length = D.length
  | 0 => rfl
  | k + 1 => by simp only [flD, List.length_set, flD_len D k]
noncomputable def flG : LoopF := fun vals B => match vals, B with
  | [.ro 2 m f, .ptr 0 0, .ptr 1 0, .ptr 2 0, .own 3, .own 4, .int .i64 h, .sl 5 M 0 1 0 L false, .int .i64 i, .ptr 6 0, .int .i64 0], [.cells ck, .log w, .cells ms, .ints K x, .rows K2 l, .ints K3 D, .cells [.sbool b, .roi K4 e]] =>
    match numsAs (List.replicate 32 .u8) ck, macAs ms, headK (ms.take 1), sameK K .u8, sameKs K2 evK, sameK K3 .u8, sameK K4 .u8 with
    | some lk, some la, .log1, true, true, true, true => some (flKeep.zip (flO m L f h i (L : Int)), flB (atL lk) (atL la) b e w l x (flD D L), [M = L, D.length = L, L ≤ 140737488355328])
    | _, _, _, _, _, _, _ => none
  | _, _ => none
theorem id7 : ∀ j : Nat, j < 7 → ([0, 1, 2, 3, 4, 5, 6] : List Nat)[j]? = some j := fun j hj => by
  match j, hj with
  | 0, _ => rfl
  | 1, _ => rfl
  | 2, _ => rfl
  | 3, _ => rfl
  | 4, _ => rfl
  | 5, _ => rfl
  | 6, _ => rfl
theorem fl_loop : LoopGood gy 139 (.loop flBody) flKeep 7 (.exit 4) (mkLoopN flG) := by
  refine LoopGood.mkN (by decide) fun vals B S' B' C hG hC hlen w0 O hgl => ?_
  clear hlen
  unfold flG at hG
  split at hG
  · rename_i m f h M L i ck w ms K x K2 l K3 D b K4 e
    split at hG
    · rename_i lk la hk ha hr hK hK2 hK3 hK4
      obtain rfl := kidx_inj hK
      obtain rfl := sameKs_eq hK2
      obtain rfl := kidx_inj hK3
      obtain rfl := kidx_inj hK4
      have hr := head_log1 hr
      simp only [Option.some.injEq, Prod.mk.injEq] at hG
      obtain ⟨rfl, rfl, rfl⟩ := hG
      simp only [allC_cons, allC_nil, and_true] at hC
      obtain ⟨rfl, hD, hL⟩ := hC
      have F1 : Fits .i64 (M : Int) := Go.Vx.fits_small hL
      have fl : ∀ l : List SV, Body.cells [.sbool b, .roi .u8 e] = .cells l → flatL l := fun l hl => by
        injection hl with hl
        subst hl
        intro d hd
        simp at hd
        rcases hd with rfl | rfl <;> rfl
      refine SimC.preI (B1 := flB (atL lk) (atL la) b e w l x D) ?_ ⟨cells_nums hk, ⟨BImp.refl _, fun _ h => by simp at h⟩, cells_mac ha hr rfl, ⟨BImp.refl _, fun _ h => by simp at h⟩, ⟨BImp.refl _, fun _ h => by simp at h⟩, ⟨BImp.refl _, fun _ h => by simp at h⟩, ⟨BImp.refl _, fl⟩, trivial⟩
      show SimC _ _ _ _ _ (flS m M f h i 0) (flB (atL lk) (atL la) b e w l x (flD D 0)) _ _ _ _
      refine SimC.iter (g := gy) (e := .exit 4) (S := fun k => flS m M f h i k) (B := fun k => flB (atL lk) (atL la) b e w l x (flD D k)) (N := M) (fun k hk => ?_) ?_ (by simp) 0 (by omega)
      · have hdl := flD_len D k
        refine SimC.run (B' := flB (atL lk) (atL la) b e w l x (flD D (k + 1))) gy_ok (by decide) (fl_go m M f h i k _ _ b e w l x _) ?_ (by decide) id7 (by decide) (by simp) hgl
        simp only [allC_cons, allC_nil, and_true]
        exact ⟨F1, decide_eq_true (by omega), by omega, ⟨by omega, by omega⟩, fits_of (by omega) (by omega)⟩
      · exact SimC.run (B' := flB (atL lk) (atL la) b e w l x (flD D M)) gy_ok (by decide) (fl_end m M f h i M _ _ b e w l x _) (by simp only [allC_cons, allC_nil, and_true]; exact ⟨F1, decide_eq_false (by omega)⟩) (by decide) id7 (by decide) (by simp) hgl
    · simp at hG
  · simp at hG
end Go.Proofs.Ytejcjdhplpjpjaa

namespace Go.Proofs.Ytejcjdhplpjpjaa
open Go Go.Vx
/-! ### MacPlays: a round of the script -/
abbrev pyKeep : List Nat := [1, 2, 5, 6, 7, 8, 9, 10, 11]
noncomputable abbrev pyBody : Code := bodyAt Try.prog 7 12
noncomputable abbrev pyO (p : Nat → Bool) (d : Nat → List Int) (m L : Nat) (h i : Int) : List SV := [.ro 2 m (rowY p d), .ptr 0 0, .ptr 1 0, .ptr 2 0, .own 4, .own 5, .int .i64 h, .sl 3 L 0 1 0 L false, .int .i64 i]
noncomputable abbrev pyS (p : Nat → Bool) (d : Nat → List Int) (m L : Nat) (h : Int) (i : Nat) : List (Nat × SV) := pyKeep.zip (pyO p d m L h (i : Int))
noncomputable abbrev pyB (k a : Nat → Int) (w l : List (List Int)) (x D : List Int) : List Body := [.cells (svF (List.replicate 32 .u8) k 0), .log w, macV (.ptr 1 0) a, .ints .u8 D, .ints .u8 x, .rows evK l]
/-- the tag is asked for -/
theorem py_ask (p : Nat → Bool) (d : Nat → List Int) (m L i : Nat) (h : Int) (k a : Nat → Int) (w l : List (List Int)) (x D : List Int) : runC gy 600 139 [.br true, .br false, .br true, .br false] pyBody (pyS p d m L h i) (pyB k a w l x D) pyKeep [0, 1, 2, 3, 4, 8] =
    some (.normal, pyO p d m L h ((i : Int) + 1), (pyB k a (w ++ evT (n43 a 42)) (l ++ evT h) x D).map some, stC m i x (d i) false ++ [p i = true, (l ++ evT h).length * 16 ≤ 2 ^ 47, x.length = x.length, x.length ≤ 140737488355328, 0 ≤ n43 a 42 ∧ n43 a 42 < 16, w.length < 1000000000, (!decide (Tg a = Dg k x)) = false, Fits .i64 ((i : Int) + 1)]) :=
  r3_parts4 (by kernel_rfl) (by kernel_rfl) (by kernel_rfl) (by kernel_rfl)
theorem py_long (p : Nat → Bool) (d : Nat → List Int) (m L i : Nat) (h : Int) (k a : Nat → Int) (w l : List (List Int)) (x D : List Int) : runC gy 600 139 [.br true, .br true] pyBody (pyS p d m L h i) (pyB k a w l x D) [4] [0, 1, 2, 3, 4, 5] =
    some (.ret, [.bool true], (pyB k a w l x D).map some, stC m i x (d i) true) :=
  r3_parts4 (by kernel_rfl) (by kernel_rfl) (by kernel_rfl) (by kernel_rfl)
theorem py_end (p : Nat → Bool) (d : Nat → List Int) (m L i : Nat) (h : Int) (k a : Nat → Int) (w l : List (List Int)) (x D : List Int) : runC gy 600 139 [.br false] pyBody (pyS p d m L h i) (pyB k a w l x D) pyKeep [0, 1, 2, 3, 4, 5] =
    some (.exit 0, pyO p d m L h (i : Int), (pyB k a w l x D).map some, [Fits .i64 (m : Int), decide ((i : Int) < (m : Int)) = false]) :=
  r3_parts4 (by kernel_rfl) (by kernel_rfl) (by kernel_rfl) (by kernel_rfl)
end Go.Proofs.Ytejcjdhplpjpjaa

namespace Go.Proofs.Ytejcjdhplpjpjaa
open Go Go.Vx
/-! ### MacPlays: a round that writes, the desk long enough -/
abbrev spS (e : List Int) : List Int := ((roomL e).drop (0 + 0)).take (e.length + 70)
abbrev spD (D e : List Int) (L : Nat) : List Int := splice D (0 + 0) ((spS e).take L)
noncomputable abbrev wPl0 : List Plan := [.br true, .br false, .br false, .br false, .br false, .loop 29 flKeep 7 (.exit 4) (mkLoopN flG)]
noncomputable abbrev pyC1 (a : Nat → Int) (L : Nat) (D e : List Int) (w : List (List Int)) : List Prop := [e.length ≤ 1000000000, Fits .i64 ((min (spS e).length L : Nat) : Int), 0 + 0 + ((spS e).take L).length ≤ D.length, 0 + 0 + (e.length + 70) ≤ (roomL e).length, 0 ≤ n43 a 42 ∧ n43 a 42 < 16, 0 + 0 + e.length ≤ (spD D e L).length, e.length ≤ 131072, w.length < 900000000, (0 : Int) ≤ 0 ∧ (0 : Int) ≤ (e.length : Int) ∧ (e.length : Int) ≤ (L : Int), Fits .i64 (e.length : Int)]
abbrev pyC2 (L : Nat) (D e : List Int) : List Prop := [0 + 0 + (e.length + 70) ≤ (spD D e L).length, e.length + 70 ≤ 140737488355328, e.length ≤ 140737488355328, e.length + 70 = e.length + 70, subI (spD D e L) 0 (e.length + 70) = roomL e, (0 : Int) ≤ 0 ∧ (0 : Int) ≤ ((e.length + 70 : Nat) : Int) ∧ ((e.length + 70 : Nat) : Int) ≤ (L : Int), Fits .i64 ((e.length + 70 : Nat) : Int), (!true) = false]
noncomputable abbrev pyC3 (i L : Nat) (h : Int) (D e x : List Int) (l : List (List Int)) : List Prop := [LoopGood gy 139 (.loop flBody) flKeep 7 (.exit 4) (mkLoopN flG), L = L, (spD D e L).length = L, L ≤ 140737488355328, 0 ≤ h ∧ h < 16, 0 ≤ (e.length : Int) ∧ (e.length : Int) ≤ 131072, Fits .i64 (e.length : Int), (l ++ evW h (e.length : Int)).length * 16 ≤ 2 ^ 47, (x ++ e).length * 1 ≤ 2 ^ 47, Fits .i64 ((i : Int) + 1)]
theorem py_w0 (p : Nat → Bool) (d : Nat → List Int) (m L i : Nat) (h : Int) (k a : Nat → Int) (w l : List (List Int)) (x D : List Int) : runC gy 600 139 wPl0 pyBody (pyS p d m L h i) (pyB k a w l x D) pyKeep [0, 1, 2, 3, 10, 9] =
    some (.normal, pyO p d m L (ewH h ((d i).length : Int)) ((i : Int) + 1), (pyB k (wrA (n43 a) (subI (spD D (d i) L) 0 (d i).length)) (w ++ evW (n43 a 42) ((d i).length : Int)) (l ++ evW h ((d i).length : Int)) (x ++ d i) (flD (spD D (d i) L) L)).map some,
      stC m i x (d i) false ++ ([p i = false, Fits .i64 (((d i).length : Int) + 70), Fits .i64 ((d i).length : Int), Fits .i64 (L : Int), decide ((L : Int) < ((d i).length : Int) + 70) = false] ++ (pyC1 a L D (d i) w ++ (pyC2 L D (d i) ++ pyC3 i L h D (d i) x l)))) :=
  r3_parts4 (by kernel_rfl) (by kernel_rfl) (by kernel_rfl) (by kernel_rfl)
end Go.Proofs.Ytejcjdhplpjpjaa

namespace Go.Proofs.Ytejcjdhplpjpjaa
open Go Go.Vx
/-! ### MacPlays: a round that writes, a new desk -/
abbrev gL (e : List Int) : Nat := (2 * (e.length : Int) + 70).toNat
abbrev gD (e : List Int) : List Int := List.replicate (gL e) 0
noncomputable abbrev wPl1 : List Plan := [.br true, .br false, .br false, .br true, .br false, .br false, .loop 29 flKeep 7 (.exit 4) (mkLoopN flG)]
theorem py_w1 (p : Nat → Bool) (d : Nat → List Int) (m L i : Nat) (h : Int) (k a : Nat → Int) (w l : List (List Int)) (x D : List Int) : runC gy 600 139 wPl1 pyBody (pyS p d m L h i) (pyB k a w l x D) pyKeep [0, 1, 2, 7, 11, 10] =
    some (.normal, pyO p d m (gL (d i)) (ewH h ((d i).length : Int)) ((i : Int) + 1), (pyB k (wrA (n43 a) (subI (spD (gD (d i)) (d i) (gL (d i))) 0 (d i).length)) (w ++ evW (n43 a 42) ((d i).length : Int)) (l ++ evW h ((d i).length : Int)) (x ++ d i) (flD (spD (gD (d i)) (d i) (gL (d i))) (gL (d i)))).map some,
      stC m i x (d i) false ++ ([p i = false, Fits .i64 (((d i).length : Int) + 70), Fits .i64 ((d i).length : Int), Fits .i64 (L : Int), decide ((L : Int) < ((d i).length : Int) + 70) = true, (0 : Int) ≤ 2 * ((d i).length : Int) + 70 ∧ 2 * ((d i).length : Int) + 70 = 2 * ((d i).length : Int) + 70 ∧ gL (d i) * 1 ≤ 140737488355328, Fits .i64 (2 * ((d i).length : Int) + 70), Fits .i64 (2 * ((d i).length : Int)), Fits .i64 ((d i).length : Int), Fits .i64 (((d i).length : Int) + 70), Fits .i64 ((d i).length : Int), Fits .i64 ((gL (d i) : Nat) : Int), decide (((gL (d i) : Nat) : Int) < ((d i).length : Int) + 70) = false] ++ (pyC1 a (gL (d i)) (gD (d i)) (d i) w ++ (pyC2 (gL (d i)) (gD (d i)) (d i) ++ pyC3 i (gL (d i)) h (gD (d i)) (d i) x l)))) :=
  r3_parts4 (by kernel_rfl) (by kernel_rfl) (by kernel_rfl) (by kernel_rfl)
end Go.Proofs.Ytejcjdhplpjpjaa

namespace Go.Proofs.Ytejcjdhplpjpjaa
open Go Go.Vx
/-! ### MacPlays: plain facts of a round -/
theorem rI_mod {n : Int} (h : 0 ≤ n) : rI n = n % 16 := by
  show n - 16 * ((n.toNat / 16 : Nat) : Int) = n % 16
  omega
theorem ewH_mod {h n : Int} (h1 : 0 ≤ h ∧ h < 16) (h2 : 0 ≤ n) : ewH h n = (h + n) % 16 := by
  unfold ewH
  by_cases c : 0 < h
  · rw [if_pos c]
    by_cases c2 : n < 16 - h
    · rw [if_pos c2]; omega
    · rw [if_neg c2, rI_mod (by omega)]
      split <;> omega
  · rw [if_neg c, rI_mod h2]
    split <;> omega
theorem spS_eq (e : List Int) : spS e = roomL e := by
  show ((roomL e).drop (0 + 0)).take (e.length + 70) = roomL e
  rw [Nat.add_zero, List.drop_zero, List.take_of_length_le (by rw [roomL_len]; exact Nat.le_refl _)]
theorem spD_eq {D e : List Int} {L : Nat} (h : e.length + 70 ≤ L) : spD D e L = roomL e ++ D.drop (e.length + 70) := by
  show splice D (0 + 0) ((spS e).take L) = _
  rw [spS_eq, List.take_of_length_le (by rw [roomL_len]; exact h)]
  simp [splice, roomL_len]
theorem spD_len {D e : List Int} {L : Nat} (h : e.length + 70 ≤ L) (hD : D.length = L) : (spD D e L).length = L := by
  rw [spD_eq h, List.length_append, roomL_len, List.length_drop]; omega
theorem spD_room {D e : List Int} {L : Nat} (h : e.length + 70 ≤ L) : subI (spD D e L) 0 (e.length + 70) = roomL e := by
  rw [spD_eq h, subI, List.drop_zero, List.take_append_of_le_length (by rw [roomL_len]; exact Nat.le_refl _), List.take_of_length_le (by rw [roomL_len]; exact Nat.le_refl _)]
theorem spD_piece {D e : List Int} {L : Nat} (h : e.length + 70 ≤ L) : subI (spD D e L) 0 e.length = e := by
  rw [spD_eq h, subI, List.drop_zero, List.take_append_of_le_length (by rw [roomL_len]; omega)]
  refine extI (by rw [List.length_take, roomL_len]; omega) fun j hj => ?_
  rw [List.length_take, roomL_len] at hj
  have hj2 : j < e.length := by omega
  rw [List.getD_eq_getElem?_getD, List.getElem?_take, if_pos hj2, ← List.getD_eq_getElem?_getD, roomL_get e (by omega), if_pos hj2]
end Go.Proofs.Ytejcjdhplpjpjaa

namespace Go.Proofs.Ytejcjdhplpjpjaa
open Go Go.Vx
/-! ### MacPlays: what holds between the rounds -/
def xA (p : Nat → Bool) (d : Nat → List Int) : Nat → List Int
  | 0 => []
  | i + 1 => if p i = true then xA p d i else xA p d i ++ d i
noncomputable def aA (p : Nat → Bool) (a : Nat → Int) (d : Nat → List Int) : Nat → (Nat → Int)
  | 0 => a
  | i + 1 => if p i = true then aA p a d i else wrA (n43 (aA p a d i)) (d i)
noncomputable def wA (p : Nat → Bool) (a : Nat → Int) (d : Nat → List Int) : Nat → List (List Int)
  | 0 => []
  | i + 1 => if p i = true then wA p a d i ++ evT (n43 (aA p a d i) 42) else wA p a d i ++ evW (n43 (aA p a d i) 42) ((d i).length : Int)
/-- the desk -/
def DA (p : Nat → Bool) (d : Nat → List Int) (D : List Int) : Nat → List Int
  | 0 => D
  | i + 1 => if p i = true then DA p d D i else if (DA p d D i).length < (d i).length + 70 then flD (spD (gD (d i)) (d i) (gL (d i))) (gL (d i)) else flD (spD (DA p d D i) (d i) (DA p d D i).length) (DA p d D i).length
def sp7 (p : Nat → Bool) (d : Nat → List Int) (m : Nat) : Nat := firstI (fun i => decide (131072 < (xA p d i).length + (d i).length)) m
theorem sp7_le (p : Nat → Bool) (d : Nat → List Int) (m : Nat) : sp7 p d m ≤ m := (firstI_spec _ m).1
theorem sp7_lt {p : Nat → Bool} {d : Nat → List Int} {m i : Nat} (h : i < sp7 p d m) : (xA p d i).length + (d i).length ≤ 131072 := by
  have := (firstI_spec _ m).2.1 i h
  have := of_decide_eq_false this
  omega
theorem sp7_at {p : Nat → Bool} {d : Nat → List Int} {m : Nat} (h : sp7 p d m < m) : 131072 < (xA p d (sp7 p d m)).length + (d (sp7 p d m)).length := of_decide_eq_true ((firstI_spec _ m).2.2 h)
theorem xA_len {p : Nat → Bool} {d : Nat → List Int} {m : Nat} : ∀ i, i ≤ sp7 p d m → (xA p d i).length ≤ 131072
  | 0, _ => by simp [xA]
  | i + 1, h => by
    have := sp7_lt (show i < sp7 p d m by omega)
    simp only [xA]
    split
    · exact xA_len (m := m) i (by omega)
    · rw [List.length_append]; omega
theorem MS_A {T : Int} {mk : Nat → Int} {p : Nat → Bool} {d : Nat → List Int} {m : Nat} {a : Nat → Int} (h0 : MS T mk [] a) (hd : YB d m) : ∀ i, i ≤ m → MS T mk (xA p d i) (aA p a d i)
  | 0, _ => h0
  | i + 1, h => by
    have ih := MS_A (p := p) h0 hd i (by omega)
    simp only [xA, aA]
    split
    · exact ih
    · exact MS_write (MS_43 ih) (hd i (by omega))
theorem evT_len (h : Int) : (evT h).length ≤ 4 := by unfold evT; split <;> simp
theorem evW_len {h n : Int} (h1 : 0 ≤ h ∧ h < 16) (h2 : 0 ≤ n) : (evW h n).length ≤ 8 + n.toNat := by
  unfold evW
  split
  · split
    · rw [evE_len]; simp; omega
    · rw [evE_len]; simp; omega
  · rw [evE_len]; simp; omega
theorem wA_len {T : Int} {mk : Nat → Int} {p : Nat → Bool} {d : Nat → List Int} {m : Nat} {a : Nat → Int} (h0 : MS T mk [] a) (hd : YB d m) : ∀ i, i ≤ m → (wA p a d i).length ≤ 12 * i + (xA p d i).length
  | 0, _ => by simp [wA]
  | i + 1, h => by
    have ih := wA_len (p := p) h0 hd i (by omega)
    have M := MS_h (MS_43 (MS_A (p := p) h0 hd i (by omega)))
    simp only [wA, xA]
    split
    · have := evT_len (n43 (aA p a d i) 42)
      rw [List.length_append]; omega
    · have := evW_len M (Int.natCast_nonneg (d i).length)
      rw [Int.toNat_natCast] at this
      rw [List.length_append, List.length_append]; omega
theorem gL_eq (e : List Int) : gL e = 2 * e.length + 70 := by show (2 * (e.length : Int) + 70).toNat = _; omega
theorem DA_len {p : Nat → Bool} {d : Nat → List Int} {D : List Int} {m : Nat} (h0 : D.length = 64) : ∀ i, i ≤ sp7 p d m → (DA p d D i).length ≤ 300000
  | 0, _ => by simp only [DA]; omega
  | i + 1, h => by
    have ih := DA_len (p := p) (d := d) (m := m) h0 i (by omega)
    have hs := sp7_lt (show i < sp7 p d m by omega)
    have g := gL_eq (d i)
    simp only [DA]
    split
    · exact ih
    · split
      · rw [flD_len, spD_len (by omega) (by rw [List.length_replicate])]; omega
      · rw [flD_len, spD_len (by omega) rfl]; exact ih
/-- what is held -/
theorem held_next {T : Int} {mk : Nat → Int} {X : List Int} {a : Nat → Int} {e : List Int} (h : MS T mk X a) (he : Bytes e) : ewH (n43 a 42) (e.length : Int) = n43 (wrA (n43 a) e) 42 := by
  have h1 := MS_43 h
  have h2 := MS_43 (MS_write h1 he)
  rw [ewH_mod (MS_h h1) (by omega), h1.held, h2.held, List.length_append]
  omega
end Go.Proofs.Ytejcjdhplpjpjaa
