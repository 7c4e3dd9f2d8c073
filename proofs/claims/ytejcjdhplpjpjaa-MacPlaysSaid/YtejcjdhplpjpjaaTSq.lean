/- Accounts of this seat's functions: lemmas, no statement of their own. No conditions. -/
import Derived.Test.YtejcjdhplpjpjaaTSf
import Derived.Test.YtejcjdhplpjpjaaTPa
import Derived.Test.YtejcjdhplpjpjaaTQp
import Derived.Test.YtejcjdhplpjpjaaV4
namespace Go.Proofs.Ytejcjdhplpjpjaa
open Go Go.Vx
/-! ### Write with a Recorder, a slice of a list of numbers: whole blocks -/
abbrev wlS (o n : Nat) : List SV := [.ptr 0 0, .sl 1 0 o 1 0 n false]
noncomputable abbrev wlB (a : Nat → Int) (W : List Int) (w : List (List Int)) : List Body := [macV (.ptr 2 0) a, .ints .u8 W, .log w]
theorem wl_go (o n : Nat) (a : Nat → Int) (W : List Int) (w : List (List Int)) : runC gw 300 102 [.br true] wrBody (wrKeep.zip (wlS o n)) (wlB a W w) wrKeep [0, 1, 2] =
    some (.normal, wlS (o + 16) (n - 16), (wlB (tkA a ((W.drop o).take 16)) W ((w ++ [[1, bI (decide ((16 : Int) ≤ (n : Int)))]]) ++ [[3, 11], [3, 12]])).map some,
      [w.length < 1099511627776, Fits .i64 (n : Int), decide ((16 : Int) ≤ (n : Int)) = true, o + 0 + 16 ≤ W.length, (w ++ [[1, bI (decide ((16 : Int) ≤ (n : Int)))]]).length < 1099511627770, (16 : Nat) ≤ 16, (0 : Int) ≤ 0 ∧ (0 : Int) ≤ 16 ∧ (16 : Int) ≤ (n : Int), (0 : Int) ≤ 16 ∧ (16 : Int) ≤ (n : Int) ∧ (n : Int) ≤ (n : Int)]) :=
  r3_parts4 (by kernel_rfl) (by kernel_rfl) (by kernel_rfl) (by kernel_rfl)
theorem wl_end (o n : Nat) (a : Nat → Int) (W : List Int) (w : List (List Int)) : runC gw 300 102 [.br false] wrBody (wrKeep.zip (wlS o n)) (wlB a W w) wrKeep [0, 1, 2] =
    some (.exit 0, wlS o n, (wlB a W (w ++ [[1, bI (decide ((16 : Int) ≤ (n : Int)))]])).map some, [w.length < 1099511627776, Fits .i64 (n : Int), decide ((16 : Int) ≤ (n : Int)) = false]) :=
  r3_parts4 (by kernel_rfl) (by kernel_rfl) (by kernel_rfl) (by kernel_rfl)
noncomputable def wlG : LoopF := fun vals B => match vals, B with
  | [.ptr 0 0, .sl 1 0 o 1 0 n false], [.cells ms, .ints K W, .log w] => match macAs ms, headK (ms.take 1), sameK K .u8 with
    | some la, .log2, true => some ([(0, .ptr 0 0), (1, .sl 1 0 (o + 16 * (n / 16)) 1 0 (n - 16 * (n / 16)) false)], wlB (lpA (atL la) (subI W o n) (n / 16)) W (evB w (n / 16) ++ [[1, 0]]), [o + n ≤ W.length, n ≤ 131072, w.length < 1000000000])
    | _, _, _ => none
  | _, _ => none
theorem idT : ∀ j : Nat, j < 3 → ([0, 1, 2] : List Nat)[j]? = some j := fun j hj => by
  match j, hj with
  | 0, _ => rfl
  | 1, _ => rfl
  | 2, _ => rfl
theorem wl_loop : LoopGood gw 102 (.loop wrBody) wrKeep 3 (.exit 0) (mkLoopN wlG) := by
  refine LoopGood.mkN (by decide) fun vals B S' B' C hG hC hlen w0 O hgl => ?_
  clear hlen
  unfold wlG at hG
  split at hG
  · rename_i o n ms K W w
    split at hG
    · rename_i la ha hr hK
      obtain rfl := kidx_inj hK
      have hr := head_log2 hr
      simp only [Option.some.injEq, Prod.mk.injEq] at hG
      obtain ⟨rfl, rfl, rfl⟩ := hG
      simp only [allC_cons, allC_nil, and_true] at hC
      obtain ⟨h1, h2, h3⟩ := hC
      refine SimC.preI (B1 := wlB (atL la) W w) ?_ ⟨cells_mac ha hr rfl, ⟨BImp.refl _, fun _ h => by simp at h⟩, ⟨BImp.refl _, fun _ h => by simp at h⟩, trivial⟩
      show SimC _ _ _ _ _ (wrKeep.zip (wlS (o + 16 * 0) (n - 16 * 0))) (wlB (lpA (atL la) (subI W o n) 0) W (evB w 0)) _ _ _ _
      refine SimC.iter (g := gw) (e := .exit 0) (S := fun i => wrKeep.zip (wlS (o + 16 * i) (n - 16 * i))) (B := fun i => wlB (lpA (atL la) (subI W o n) i) W (evB w i)) (N := n / 16) (fun i hi => ?_) ?_ (by simp) 0 (by omega)
      · have hr := wl_go (o + 16 * i) (n - 16 * i) (lpA (atL la) (subI W o n) i) W (evB w i)
        have hb := evB_len w i
        have e1 : bI (decide ((16 : Int) ≤ ((n - 16 * i : Nat) : Int))) = 1 := bI_t (by omega)
        have e2 : (W.drop (o + 16 * i)).take 16 = ((subI W o n).drop (16 * i)).take 16 := by
          rw [subI, List.drop_take, List.drop_drop, List.take_take, show min 16 (n - 16 * i) = 16 by omega]
        rw [e1, e2, show o + 16 * i + 16 = o + 16 * (i + 1) by omega, show n - 16 * i - 16 = n - 16 * (i + 1) by omega] at hr
        refine SimC.run (B' := wlB (lpA (atL la) (subI W o n) (i + 1)) W (evB w (i + 1))) gw_ok (by decide) hr ?_ (by decide) idT (by decide) (by simp) hgl
        simp only [allC_cons, allC_nil, and_true, List.length_append, List.length_cons, List.length_nil]
        exact ⟨by omega, fits_of (by omega) (by omega), decide_eq_true (by omega), by omega, by omega, by omega, ⟨by omega, by omega, by omega⟩, ⟨by omega, by omega, by omega⟩⟩
      · have hr := wl_end (o + 16 * (n / 16)) (n - 16 * (n / 16)) (lpA (atL la) (subI W o n) (n / 16)) W (evB w (n / 16))
        have hb := evB_len w (n / 16)
        have e1 : bI (decide ((16 : Int) ≤ ((n - 16 * (n / 16) : Nat) : Int))) = 0 := bI_f (by omega)
        rw [e1] at hr
        exact SimC.weaken (SimC.run (B' := wlB (lpA (atL la) (subI W o n) (n / 16)) W (evB w (n / 16) ++ [[1, 0]])) gw_ok (by decide) hr (by simp only [allC_cons, allC_nil, and_true]; exact ⟨by omega, fits_of (by omega) (by omega), decide_eq_false (by omega)⟩) (by decide) idT (by decide) (by simp) hgl) (sub_mkT (by simp; exact ⟨rfl, rfl⟩))
    · simp at hG
  · simp at hG
end Go.Proofs.Ytejcjdhplpjpjaa

namespace Go.Proofs.Ytejcjdhplpjpjaa
open Go Go.Vx
/-! ### Write with a Recorder: the runs -/
noncomputable abbrev wlPl : Plan := .loop 8 wrKeep 3 (.exit 0) (mkLoopN wlG)
noncomputable abbrev LGl : Prop := LoopGood gw 102 (.loop wrBody) wrKeep 3 (.exit 0) (mkLoopN wlG)
abbrev rr (n : Nat) : Nat := n - 16 * (n / 16)
abbrev rsW (W : List Int) (o n : Nat) : List Int := subI W (o + 16 * (n / 16)) (rr n)
noncomputable abbrev lpW (a : Nat → Int) (W : List Int) (o n : Nat) : Nat → Int := lpA (n43 a) (subI W o n) (n / 16)
noncomputable abbrev tlW (a : Nat → Int) (W : List Int) (o n : Nat) : Nat → Int := tlA (lpW a W o n) (rsW W o n)
abbrev evL (w : List (List Int)) (n : Nat) : List (List Int) := (evB w (n / 16) ++ [[1, 0]]) ++ [[1, bI (decide (0 < ((rr n : Nat) : Int)))]]
noncomputable abbrev CwL (W : List Int) (w : List (List Int)) (o n : Nat) (b : Bool) : List Prop := [LGl, o + n ≤ W.length, n ≤ 131072, w.length < 1000000000, (evB w (n / 16) ++ [[1, 0]]).length < 1099511627776, Fits .i64 ((rr n : Nat) : Int), decide (0 < ((rr n : Nat) : Int)) = b]
abbrev CwT (W : List Int) (o n : Nat) : List Prop := [Fits .i64 ((min (rsW W o n).length (16 - 0) : Nat) : Int), 0 + ((rsW W o n).take 16).length ≤ 16, o + 16 * (n / 16) + 0 + rr n ≤ W.length]
abbrev w1L (a : Nat → Int) (w : List (List Int)) : List (List Int) := w ++ [[1, bI (decide (0 < a 42))]]
theorem wl00 (o n : Nat) (a : Nat → Int) (W : List Int) (w : List (List Int)) : runF gw 400 [.br false, wlPl, .br false] 12 (wlS o n) (wlB a W w) [] =
    some (.tuple [], (wlB (lpW a W o n) W (evL (w1L a w) n)).map some, [w.length < 1099511627776, C0 a false] ++ CwL W (w1L a w) o n false) :=
  run_parts (by kernel_rfl) (by kernel_rfl) (by kernel_rfl)
theorem wl01 (o n : Nat) (a : Nat → Int) (W : List Int) (w : List (List Int)) : runF gw 400 [.br false, wlPl, .br true] 12 (wlS o n) (wlB a W w) [] =
    some (.tuple [], (wlB (tlW a W o n) W (evL (w1L a w) n)).map some, [w.length < 1099511627776, C0 a false] ++ (CwL W (w1L a w) o n true ++ CwT W o n)) :=
  run_parts (by kernel_rfl) (by kernel_rfl) (by kernel_rfl)
abbrev kW (a : Nat → Int) (W : List Int) (o n : Nat) : Int := kN a (subI W o n)
abbrev w3L (a : Nat → Int) (w : List (List Int)) (k : Int) : List (List Int) := (w1L a w ++ [[2, a 42]]) ++ [[2, k]]
abbrev w4L (a : Nat → Int) (w : List (List Int)) (k : Int) : List (List Int) := w3L a w k ++ [[1, bI (decide (a 42 + k = 16))]]
abbrev CwH (a : Nat → Int) (W : List Int) (w : List (List Int)) (o n : Nat) (b : Bool) : List Prop := [w.length < 1099511627776, C0 a true, Fits .i64 (kW a W o n), (a 42).toNat + ((subI W o n).take (16 - (a 42).toNat)).length ≤ 16, o + 0 + n ≤ W.length, 0 ≤ a 42 ∧ a 42 ≤ ((16 : Nat) : Int) ∧ ((16 : Nat) : Int) ≤ ((16 : Nat) : Int), (w1L a w).length < 1099511627776, 0 ≤ kW a W o n ∧ kW a W o n ≤ (n : Int) ∧ (n : Int) ≤ (n : Int), (w1L a w ++ [[2, a 42]]).length < 1099511627776, Fits .i64 (a 42 + kW a W o n), (w3L a w (kW a W o n)).length < 1099511627776, decide (a 42 + kW a W o n = 16) = b]
abbrev o1W (a : Nat → Int) (W : List Int) (o n : Nat) : Nat := o + (kW a W o n).toNat
abbrev n1W (a : Nat → Int) (W : List Int) (o n : Nat) : Nat := n - (kW a W o n).toNat
theorem wln0 (o n : Nat) (a : Nat → Int) (W : List Int) (w : List (List Int)) : runF gw 400 [.br true, .br false, wlPl, .br false] 12 (wlS o n) (wlB a W w) [] =
    some (.tuple [], (wlB (lpW (ovA a (subI W o n)) W (o1W a W o n) (n1W a W o n)) W (evL (w4L a w (kW a W o n)) (n1W a W o n))).map some, CwH a W w o n false ++ CwL W (w4L a w (kW a W o n)) (o1W a W o n) (n1W a W o n) false) :=
  run_parts (by kernel_rfl) (by kernel_rfl) (by kernel_rfl)
noncomputable abbrev eqW (a : Nat → Int) (W : List Int) (o n : Nat) : Nat → Int := eqA a (subI W o n)
theorem wle0 (o n : Nat) (a : Nat → Int) (W : List Int) (w : List (List Int)) : runF gw 400 [.br true, .br true, wlPl, .br false] 12 (wlS o n) (wlB a W w) [] =
    some (.tuple [], (wlB (lpW (eqW a W o n) W (o1W a W o n) (n1W a W o n)) W (evL (w4L a w (kW a W o n) ++ [[3, 11], [3, 12]]) (n1W a W o n))).map some, CwH a W w o n true ++ (((w4L a w (kW a W o n)).length < 1099511627770) :: CwL W (w4L a w (kW a W o n) ++ [[3, 11], [3, 12]]) (o1W a W o n) (n1W a W o n) false)) :=
  run_parts (by kernel_rfl) (by kernel_rfl) (by kernel_rfl)
theorem wle1 (o n : Nat) (a : Nat → Int) (W : List Int) (w : List (List Int)) : runF gw 400 [.br true, .br true, wlPl, .br true] 12 (wlS o n) (wlB a W w) [] =
    some (.tuple [], (wlB (tlW (eqW a W o n) W (o1W a W o n) (n1W a W o n)) W (evL (w4L a w (kW a W o n) ++ [[3, 11], [3, 12]]) (n1W a W o n))).map some, CwH a W w o n true ++ (((w4L a w (kW a W o n)).length < 1099511627770) :: (CwL W (w4L a w (kW a W o n) ++ [[3, 11], [3, 12]]) (o1W a W o n) (n1W a W o n) true ++ CwT W (o1W a W o n) (n1W a W o n)))) :=
  run_parts (by kernel_rfl) (by kernel_rfl) (by kernel_rfl)
end Go.Proofs.Ytejcjdhplpjpjaa

namespace Go.Proofs.Ytejcjdhplpjpjaa
open Go Go.Vx
/-! ### Write with a Recorder: the account -/
theorem evB_app (w l : List (List Int)) : ∀ i, evB (w ++ l) i = w ++ evB l i
  | 0 => rfl
  | i + 1 => by simp only [evB, evB_app w l i, List.append_assoc]
theorem rI_nat (n : Nat) : rI (n : Int) = ((rr n : Nat) : Int) := by
  show (n : Int) - 16 * (((n : Int).toNat / 16 : Nat) : Int) = ((n - 16 * (n / 16) : Nat) : Int)
  rw [Int.toNat_natCast]; omega
theorem evL_eq (w l : List (List Int)) (n : Nat) : evL (w ++ l) n = w ++ evE l (n : Int) := by
  show (evB (w ++ l) (n / 16) ++ [[1, 0]]) ++ [[1, bI (decide (0 < ((rr n : Nat) : Int)))]] = w ++ (evB l ((n : Int).toNat / 16) ++ [[1, bI false], [1, bI (decide (0 < rI (n : Int)))]])
  rw [evB_app, Int.toNat_natCast, rI_nat]
  simp only [List.append_assoc]
  rfl
theorem subI_drop (W : List Int) (o n k : Nat) : subI W (o + k) (n - k) = (subI W o n).drop k := by
  rw [subI, subI, List.drop_take, List.drop_drop]
theorem rsW_eq {W : List Int} {o n : Nat} (h : o + n ≤ W.length) : rsW W o n = rsL (subI W o n) := by
  rw [rsL, subI_length h]
  exact subI_drop W o n _
theorem lpW_eq {W : List Int} {o n : Nat} (h : o + n ≤ W.length) (a : Nat → Int) : lpW a W o n = lpE a (subI W o n) := by
  rw [lpE, subI_length h]
theorem tlW_eq {W : List Int} {o n : Nat} (h : o + n ≤ W.length) (a : Nat → Int) : tlW a W o n = tlE a (subI W o n) := by
  rw [tlE, ← lpW_eq h, ← rsW_eq h]
theorem l1_eq {W : List Int} {o n : Nat} (h : o + n ≤ W.length) (a : Nat → Int) : subI W (o1W a W o n) (n1W a W o n) = l1 a (subI W o n) := by
  rw [l1, subI_length h]
  rw [subI_drop, List.take_of_length_le]
  rw [List.length_drop, subI_length h]
  exact Nat.le_refl _
theorem wl_acc (o n : Nat) (a : Nat → Int) (W : List Int) (w : List (List Int)) (h1 : 0 ≤ a 42 ∧ a 42 < 16) (h2 : o + n ≤ W.length) (h3 : n ≤ 131072) (h4 : w.length < 900000000) :
    FnOk gw 12 (wlS o n) (wlB a W w) { val := .tuple [], upd := [(0, some (macV (.ptr 2 0) (wrA a (subI W o n)))), (2, some (.log (w ++ evW (a 42) (n : Int))))] } := by
  have hL : LGl := wl_loop
  have hl := subI_length h2
  have fin : ∀ {pl C} {v : Nat → Int} {w' : List (List Int)}, runF gw 400 pl 12 (wlS o n) (wlB a W w) [] = some (.tuple [], (wlB v W w').map some, C) → AllC C → FnOk gw 12 (wlS o n) (wlB a W w) { val := .tuple [], upd := [(0, some (macV (.ptr 2 0) v)), (2, some (.log w'))] } := fun hr hC =>
    FnOk.run (new := []) gw_ok hr hC (by simp [upto]) rfl (by simp) (by simp) (fun j hj => by
      match j, hj with
      | 0, _ => rfl
      | 1, _ => rfl
      | 2, _ => rfl)
  have rest : ∀ (w' : List (List Int)) (o' n' : Nat), o' + n' ≤ W.length → n' ≤ 131072 → w'.length < 900000010 → ∀ b, decide (0 < ((rr n' : Nat) : Int)) = b → AllC (CwL W w' o' n' b) := fun w' o' n' q1 q2 q3 b hb => by
    have := evB_len w' (n' / 16)
    have hz : rr n' = n' - 16 * (n' / 16) := rfl
    simp only [CwL, allC_cons, allC_nil, and_true, List.length_append, List.length_cons, List.length_nil]
    exact ⟨hL, q1, q2, by omega, by omega, fits_of (by omega) (by omega), hb⟩
  have tl : ∀ (o' n' : Nat), o' + n' ≤ W.length → AllC (CwT W o' n') := fun o' n' q1 => by
    have h5 := Nat.min_le_right (rsW W o' n').length 16
    have h6 : ((rsW W o' n').take 16).length ≤ 16 := by rw [List.length_take]; exact Nat.min_le_left _ _
    simp only [CwT, allC_cons, allC_nil, and_true]
    exact ⟨fits_of (by omega) (by omega), by omega, by show o' + 16 * (n' / 16) + 0 + (n' - 16 * (n' / 16)) ≤ W.length; omega⟩
  have rrE : ∀ x, rr x = x - 16 * (x / 16) := fun _ => rfl
  have kk' := kN_le a (subI W o n)
  rw [hl] at kk'
  have kE : kW a W o n = ((min n (16 - (a 42).toNat) : Nat) : Int) := by
    show ((min (subI W o n).length (16 - (a 42).toNat) : Nat) : Int) = _
    rw [hl]
  have k1 : 0 ≤ kW a W o n ∧ kW a W o n ≤ n ∧ kW a W o n ≤ 16 := by
    rcases kk' with h | h
    · exact ⟨h.1, h.2.1, by omega⟩
    · omega
  have w1l : (w1L a w).length = w.length + 1 := by simp
  have w4l : (w4L a w (kW a W o n)).length = w.length + 4 := by simp
  have hh : ∀ b, decide (a 42 + kW a W o n = 16) = b → 0 < a 42 → AllC (CwH a W w o n b) := fun b hb h0 => by
    have h5 : ((subI W o n).take (16 - (a 42).toNat)).length ≤ 16 - (a 42).toNat := by rw [List.length_take]; exact Nat.min_le_left _ _
    simp only [CwH, allC_cons, allC_nil, and_true]
    refine ⟨by omega, decide_eq_true h0, fits_of (by omega) (by omega), by omega, by omega, ⟨by omega, by omega, by omega⟩, by omega, ⟨k1.1, k1.2.1, by omega⟩, ?_, fits_of (by omega) (by omega), ?_, hb⟩
    · simp; omega
    · simp; omega
  unfold wrA evW
  by_cases h0 : 0 < a 42
  · rw [if_pos h0, if_pos h0]
    have q1 : o1W a W o n + n1W a W o n ≤ W.length := by show o + (kW a W o n).toNat + (n - (kW a W o n).toNat) ≤ _; omega
    have q2 : n1W a W o n ≤ 131072 := by show n - (kW a W o n).toNat ≤ _; omega
    have hl1 := subI_length q1
    have e4 : ∀ c, bI (decide (a 42 + kW a W o n = 16)) = c → w4L a w (kW a W o n) = w ++ [[1, 1], [2, a 42], [2, kW a W o n], [1, c]] := fun c hc => by
      show (((w ++ [[1, bI (decide (0 < a 42))]]) ++ [[2, a 42]]) ++ [[2, kW a W o n]]) ++ [[1, bI (decide (a 42 + kW a W o n = 16))]] = _
      rw [bI_t h0, hc]
      simp only [List.append_assoc]; rfl
    by_cases h16 : a 42 + kN a (subI W o n) = 16
    · rw [if_pos h16]
      have h16' : a 42 + kW a W o n = 16 := h16
      have hk : kW a W o n = 16 - a 42 := by omega
      have hn : ¬ (n : Int) < 16 - a 42 := by omega
      rw [if_neg hn]
      have en : ((n1W a W o n : Nat) : Int) = (n : Int) - (16 - a 42) := by show ((n - (kW a W o n).toNat : Nat) : Int) = _; omega
      have eL : evL (w4L a w (kW a W o n) ++ [[3, 11], [3, 12]]) (n1W a W o n) = w ++ evE [[1, 1], [2, a 42], [2, 16 - a 42], [1, 1], [3, 11], [3, 12]] ((n : Int) - (16 - a 42)) := by
        rw [e4 1 (bI_t h16'), List.append_assoc, evL_eq, en, hk]
        rfl
      have w5l : (w4L a w (kW a W o n) ++ [[3, 11], [3, 12]]).length = w.length + 6 := by simp
      by_cases hr : 0 < (rsL (l1 a (subI W o n))).length
      · rw [if_pos hr]
        have hx := wle1 o n a W w
        rw [eL, tlW_eq q1, l1_eq h2] at hx
        rw [← l1_eq h2, rs_len, hl1] at hr
        have hz := rrE (n1W a W o n)
        exact fin hx (allC_append.2 ⟨hh _ (decide_eq_true h16') h0, allC_cons.2 ⟨by omega, allC_append.2 ⟨rest _ _ _ q1 q2 (by omega) _ (decide_eq_true (by omega)), tl _ _ q1⟩⟩⟩)
      · rw [if_neg hr]
        have hx := wle0 o n a W w
        rw [eL, lpW_eq q1, l1_eq h2] at hx
        rw [← l1_eq h2, rs_len, hl1] at hr
        have hz := rrE (n1W a W o n)
        exact fin hx (allC_append.2 ⟨hh _ (decide_eq_true h16') h0, allC_cons.2 ⟨by omega, rest _ _ _ q1 q2 (by omega) _ (decide_eq_false (by omega))⟩⟩)
    · rw [if_neg h16]
      have h16' : ¬ a 42 + kW a W o n = 16 := h16
      have hk : kW a W o n = n := by omega
      have hn : (n : Int) < 16 - a 42 := by omega
      rw [if_pos hn]
      have en : n1W a W o n = 0 := by show n - (kW a W o n).toNat = 0; omega
      have eL : evL (w4L a w (kW a W o n)) (n1W a W o n) = w ++ evE [[1, 1], [2, a 42], [2, (n : Int)], [1, 0]] 0 := by
        rw [e4 0 (bI_f h16'), evL_eq, en, hk]
        rfl
      have hx := wln0 o n a W w
      rw [eL, lpW_eq q1, l1_eq h2] at hx
      have hz := rrE (n1W a W o n)
      exact fin hx (allC_append.2 ⟨hh _ (decide_eq_false h16') h0, rest _ _ _ q1 q2 (by omega) _ (decide_eq_false (by omega))⟩)
  · rw [if_neg h0, if_neg h0]
    have eL : evL (w1L a w) n = w ++ evE [[1, 0]] (n : Int) := by
      show evL (w ++ [[1, bI (decide (0 < a 42))]]) n = _
      rw [bI_f h0, evL_eq]
    by_cases hr : 0 < (rsL (subI W o n)).length
    · rw [if_pos hr]
      have hx := wl01 o n a W w
      rw [eL, tlW_eq h2] at hx
      rw [rs_len, hl] at hr
      have hz := rrE n
      exact fin hx (allC_append.2 ⟨allC_cons.2 ⟨by omega, allC_cons.2 ⟨decide_eq_false h0, by simp [AllC]⟩⟩, allC_append.2 ⟨rest _ _ _ h2 h3 (by omega) _ (decide_eq_true (by omega)), tl _ _ h2⟩⟩)
    · rw [if_neg hr]
      have hx := wl00 o n a W w
      rw [eL, lpW_eq h2] at hx
      rw [rs_len, hl] at hr
      have hz := rrE n
      exact fin hx (allC_append.2 ⟨allC_cons.2 ⟨by omega, allC_cons.2 ⟨decide_eq_false h0, by simp [AllC]⟩⟩, rest _ _ _ h2 h3 (by omega) _ (decide_eq_false (by omega))⟩)
end Go.Proofs.Ytejcjdhplpjpjaa

namespace Go.Proofs.Ytejcjdhplpjpjaa
open Go Go.Vx
/-! ### Write, Tag, New with a Recorder: summaries -/
noncomputable def F12l : SumF := fun args B => match args, B with
  | [.ptr 0 0, x], [.cells ms, .ints K W, .log w] => match macAs ms, headK (ms.take 1), sameK K .u8, vwI 1 W x with
    | some la, .log2, true, some (o, n) => some { val := .tuple [], upd := [(0, some (macV (.ptr 2 0) (wrA (atL la) (subI W o n)))), (2, some (.log (w ++ evW (atL la 42) (n : Int))))], C := [0 ≤ atL la 42 ∧ atL la 42 < 16, o + n ≤ W.length, n ≤ 131072, w.length < 900000000] }
    | _, _, _, _ => none
  | _, _ => none
theorem acc12l : Acc gw 12 F12l := by
  intro args B out h hC
  unfold F12l at h
  split at h
  · rename_i x ms K W w
    split at h
    · rename_i la o n ha hr hK hx
      obtain rfl := kidx_inj hK
      have hr := head_log2 hr
      simp only [Option.some.injEq] at h; subst h
      simp only [allC_cons, allC_nil, and_true] at hC
      obtain ⟨h1, h2, h3, h4⟩ := hC
      refine FnOk.argsH (args' := wlS o n) ?_ (fun w0 O ρ Φ w vs x d => by
        simp only [DenT] at d ⊢
        obtain ⟨v1, r1, rfl, d1, v2, r2, rfl, d2, rfl⟩ := d
        exact ⟨_, _, rfl, d1, _, _, rfl, vwI_den hx x rfl d2, rfl⟩)
      refine FnOk.preB (B' := wlB (atL la) W w) ?_ ⟨cells_mac ha hr rfl, ⟨BImp.refl _, fun _ h => by simp at h⟩, ⟨BImp.refl _, fun _ h => by simp at h⟩, trivial⟩ (fun j => by
        match j with
        | 0 => rfl
        | 1 => rfl
        | 2 => rfl
        | j + 3 => rfl)
      exact FnOk.val (C := []) (rd := []) (wl_acc o n (atL la) W w h1 h2 h3 h4) (fun _ _ _ _ h => h)
    · simp at h
  · simp at h
theorem tagl_1 (a : Nat → Int) (w : List (List Int)) : runF gw 300 [.br true] 13 [.ptr 0 0] [macV (.ptr 1 0) a, .log w] [] = some (.agg (svF (List.replicate 16 .u8) (sumN (L5 (plusN (byL a) (smL a) (tbL a))) (mkL a)) 0), [some (macV (.ptr 1 0) a), some (.log ((((w ++ [[1, bI (decide (0 < a 42))]]) ++ [[2, a 42]]) ++ [[3, 11]]) ++ [[3, 12]]))], [w.length < 1099511627776, decide (0 < a 42) = true, (a 42).toNat < 17, 0 ≤ a 42 ∧ a 42 < ((17 : Nat) : Int), (w ++ [[1, bI (decide (0 < a 42))]]).length < 1099511627776, (((w ++ [[1, bI (decide (0 < a 42))]]) ++ [[2, a 42]]) ++ [[3, 11]]).length < 1099511627776, ((w ++ [[1, bI (decide (0 < a 42))]]) ++ [[2, a 42]]).length < 1099511627776]) :=
  run_parts (by kernel_rfl) (by kernel_rfl) (by kernel_rfl)
theorem tagl_0 (a : Nat → Int) (w : List (List Int)) : runF gw 300 [.br false] 13 [.ptr 0 0] [macV (.ptr 1 0) a, .log w] [] = some (.agg (svF (List.replicate 16 .u8) (sumN (smL a) (mkL a)) 0), [some (macV (.ptr 1 0) a), some (.log (w ++ [[1, bI (decide (0 < a 42))]]))], [w.length < 1099511627776, decide (0 < a 42) = false]) :=
  run_parts (by kernel_rfl) (by kernel_rfl) (by kernel_rfl)
noncomputable abbrev nwW (k : Nat → Int) : Body := .cells (.ptr 0 0 :: (svF (List.replicate 5 .u64) (clampN (loK k)) 0 ++ (List.replicate 5 (.lit .u64 0) ++ (svF (List.replicate 16 .u8) (fun j => k (16 + j)) 0 ++ (List.replicate 16 (.lit .u8 0) ++ [.lit .i64 0])))))
theorem nwl_run (k : Nat → Int) (w : List (List Int)) : runF gp 300 [] 11 [.ptr 0 0, .agg (svF (List.replicate 32 .u8) k 0)] [.log w] [2] = some (.ptr 1 0, [some (.log w), some (nwW k)], []) := run_parts (by kernel_rfl) (by kernel_rfl) (by kernel_rfl)
end Go.Proofs.Ytejcjdhplpjpjaa

namespace Go.Proofs.Ytejcjdhplpjpjaa
open Go Go.Vx
noncomputable def F13l : SumF := fun args B => match args, B with
  | [.ptr 0 0], [.cells ms, .log w] => match macAs ms, headK (ms.take 1) with
    | some la, .log1 => some { val := .agg (svF (List.replicate 16 .u8) (tgN (atL la)) 0), upd := [(0, some (macV (.ptr 1 0) (atL la))), (1, some (.log (w ++ evT (atL la 42))))], C := [0 ≤ atL la 42 ∧ atL la 42 < 16, w.length < 1000000000] }
    | _, _ => none
  | _, _ => none
theorem acc13l : Acc gw 13 F13l := by
  intro args B out h hC
  unfold F13l at h
  split at h
  · rename_i ms w
    split at h
    · rename_i la ha hr
      have hr := head_log1 hr
      simp only [Option.some.injEq] at h; subst h
      simp only [allC_cons, allC_nil, and_true] at hC
      obtain ⟨h1, h2⟩ := hC
      refine FnOk.preB (B' := [macV (.ptr 1 0) (atL la), .log w]) ?_ ⟨cells_mac ha hr rfl, ⟨BImp.refl _, fun _ h => by simp at h⟩, trivial⟩ (fun j => by
        match j with
        | 0 => rfl
        | 1 => rfl
        | j + 2 => rfl)
      refine FnOk.val (C := []) (rd := []) ?_ (fun _ _ _ _ h => h)
      unfold tgN evT
      by_cases h0 : 0 < atL la 42
      · rw [if_pos h0, if_pos h0]
        have hr := tagl_1 (atL la) w
        rw [bI_t h0] at hr
        have e : (((w ++ [[1, (1 : Int)]]) ++ [[2, atL la 42]]) ++ [[3, 11]]) ++ [[3, 12]] = w ++ [[1, 1], [2, atL la 42], [3, 11], [3, 12]] := by
          simp only [List.append_assoc]; rfl
        rw [e] at hr
        exact FnOk.run (new := []) gw_ok hr (by
          simp only [allC_cons, allC_nil, and_true, List.length_append, List.length_cons, List.length_nil]
          exact ⟨by omega, decide_eq_true h0, by omega, ⟨by omega, by omega⟩, by omega, by omega, by omega⟩) (by simp [upto]) rfl (by simp) (by simp) (fun j hj => by
          match j, hj with
          | 0, _ => rfl
          | 1, _ => rfl)
      · rw [if_neg h0, if_neg h0]
        have hr := tagl_0 (atL la) w
        rw [bI_f h0] at hr
        exact FnOk.run (new := []) gw_ok hr (by simp only [allC_cons, allC_nil, and_true]; exact ⟨by omega, decide_eq_false h0⟩) (by simp [upto]) rfl (by simp) (by simp) (fun j hj => by
          match j, hj with
          | 0, _ => rfl
          | 1, _ => rfl)
    · simp at h
  · simp at h
noncomputable def F11l : SumF := fun args B => match args, B with
  | [.ptr 0 0, .agg ks], [.log w] => match numsAs (List.replicate 32 .u8) ks with
    | some lk => some { val := .ptr 1 0, new := [nwW (atL lk)] }
    | _ => none
  | _, _ => none
theorem acc11l : Acc gp 11 F11l := by
  intro args B out h hC
  unfold F11l at h
  split at h
  · rename_i ks w
    split at h
    · rename_i lk hk
      simp only [Option.some.injEq] at h; subst h
      refine FnOk.imp (args' := [.ptr 0 0, .agg (svF (List.replicate 32 .u8) (atL lk) 0)]) ?_ ⟨DenImp.refl _, nums_imp hk, trivial⟩
      exact FnOk.run (out := { val := .ptr 1 0, new := [nwW (atL lk)] }) (new := [2]) gp_ok (nwl_run (atL lk) w) (by simp [AllC]) (by simp [upto]) rfl (by simp) (by simp) (fun j hj => by
          match j, hj with
          | 0, _ => rfl
          | 1, _ => rfl)
    · simp at h
  · simp at h
end Go.Proofs.Ytejcjdhplpjpjaa

namespace Go.Proofs.Ytejcjdhplpjpjaa
open Go Go.Vx
/-! ### two lists of events that are one -/
abbrev leKeep : List Nat := [0, 1, 5]
noncomputable abbrev leBody : Code := bodyAt Try.prog 25 4
abbrev leS (i : Nat) : List (Nat × SV) := leKeep.zip [.own 0, .own 1, .int .i64 (i : Int)]
noncomputable abbrev leB (l : List (List Int)) : List Body := [.rows [.i64, .i64] l, .rows [.i64, .i64] l]
theorem le_go (i : Nat) (l : List (List Int)) : runC ge 200 41 [.br true, .br false, .br false] leBody (leS i) (leB l) leKeep [0, 1] =
    some (Ex.normal, [SV.own (0 : Nat), SV.own (1 : Nat), SV.int IntKind.i64 ((↑i : Int) + (1 : Int))], [some (Body.rows [IntKind.i64, IntKind.i64] l), some (Body.rows [IntKind.i64, IntKind.i64] l)], [Fits IntKind.i64 (↑l.length : Int), decide ((↑i : Int) < (↑l.length : Int)) = true, i < l.length, (0 : Int) ≤ (↑i : Int) ∧ (↑i : Int) < (↑(List.length l) : Int), i < l.length, (0 : Int) ≤ (↑i : Int) ∧ (↑i : Int) < (↑(List.length l) : Int), (!decide ((l.getD (↑i : Int).toNat []).getD ((0 : Nat) + (0 : Nat) + (0 : Nat)) (0 : Int) = (l.getD (↑i : Int).toNat []).getD ((0 : Nat) + (0 : Nat) + (0 : Nat)) (0 : Int))) = false, i < l.length, (0 : Int) ≤ (↑i : Int) ∧ (↑i : Int) < (↑(List.length l) : Int), i < l.length, (0 : Int) ≤ (↑i : Int) ∧ (↑i : Int) < (↑(List.length l) : Int), (!decide ((l.getD (↑i : Int).toNat []).getD ((0 : Nat) + (1 : Nat) + (0 : Nat)) (0 : Int) = (l.getD (↑i : Int).toNat []).getD ((0 : Nat) + (1 : Nat) + (0 : Nat)) (0 : Int))) = false, Fits IntKind.i64 ((↑i : Int) + (1 : Int))]) := by kernel_rfl
theorem le_end (i : Nat) (l : List (List Int)) : runC ge 200 41 [.br false] leBody (leS i) (leB l) leKeep [0, 1] =
    some (Ex.exit (0 : Nat), [SV.own (0 : Nat), SV.own (1 : Nat), SV.int IntKind.i64 (↑i : Int)], [some (Body.rows [IntKind.i64, IntKind.i64] l), some (Body.rows [IntKind.i64, IntKind.i64] l)], [Fits IntKind.i64 (↑l.length : Int), decide ((↑i : Int) < (↑l.length : Int)) = false]) := by kernel_rfl
def leG : LoopF := fun vals B => match vals, B with
  | [.own 0, .own 1, .int .i64 0], [.rows K la, .rows K2 lb] => match sameKs K [.i64, .i64], sameKs K2 [.i64, .i64] with
    | true, true => some ([], [.rows [.i64, .i64] la, .rows [.i64, .i64] lb], [la = lb, la.length ≤ 140737488355328])
    | _, _ => none
  | _, _ => none
theorem le_loop : LoopGood ge 41 (.loop leBody) leKeep 2 (.exit 0) (mkLoopN leG) := by
  refine LoopGood.mkN (by decide) fun vals B S' B' C hG hC hlen w0 O hgl => ?_
  clear hlen
  unfold leG at hG
  split at hG
  · rename_i K la K2 lb
    split at hG
    · rename_i hK hK2
      obtain rfl := sameKs_eq hK
      obtain rfl := sameKs_eq hK2
      simp only [Option.some.injEq, Prod.mk.injEq] at hG
      obtain ⟨rfl, rfl, rfl⟩ := hG
      simp only [allC_cons, allC_nil, and_true] at hC
      obtain ⟨rfl, h3⟩ := hC
      have j2 : ∀ j : Nat, j < 2 → ([0, 1] : List Nat)[j]? = some j := fun j hj => by
        match j, hj with
        | 0, _ => rfl
        | 1, _ => rfl
      have F1 : Fits .i64 (la.length : Int) := Go.Vx.fits_small h3
      refine SimC.iter (g := ge) (S := fun i => leS i) (B := fun _ => leB la) (N := la.length) (fun i hi => ?_) ?_ (by simp) 0 (by omega)
      · have F4 : Fits .i64 ((i : Int) + 1) := fits_of (by omega) (by omega)
        exact SimC.run (B' := leB la) ge_ok (by decide) (le_go i la) (by (simp only [allC_cons, allC_nil, and_true]; repeat' (with_reducible (first | refine And.intro ?_ ?_ | exact True.intro | assumption | omega | exact decide_eq_true (by first | assumption | omega) | exact decide_eq_false (by first | assumption | omega) | rfl | (simp; done))))) (by decide) j2 (by decide) (by simp) hgl
      · exact SimC.weaken (SimC.run (B' := leB la) ge_ok (by decide) (le_end la.length la) (by (simp only [allC_cons, allC_nil, and_true]; repeat' (with_reducible (first | refine And.intro ?_ ?_ | exact True.intro | assumption | omega | exact decide_eq_true (by first | assumption | omega) | exact decide_eq_false (by first | assumption | omega) | rfl | (simp; done))))) (by decide) j2 (by decide) (by simp) hgl) (fun t => .inr (by simp [mkT, tget, Tr.get_lf]))
    · simp at hG
  · simp at hG
theorem se_run (la lb : List (List Int)) : runF ge 200 [.br false, .loop 4 leKeep 2 (.exit 0) (mkLoopN leG)] 25 [.own 0, .own 1] [.rows [.i64, .i64] la, .rows [.i64, .i64] lb] [] =
    some (SV.bool true, [some (Body.rows [IntKind.i64, IntKind.i64] la), some (Body.rows [IntKind.i64, IntKind.i64] lb)], [Fits IntKind.i64 (↑lb.length : Int), Fits IntKind.i64 (↑la.length : Int), (!decide ((↑la.length : Int) = (↑lb.length : Int))) = false, LoopGood ge 41 (.loop leBody) leKeep 2 (.exit 0) (mkLoopN leG), la = lb, la.length ≤ (140737488355328 : Nat)]) := by kernel_rfl
def seF : SumF := fun args B => match args, B with
  | [.own 0, .own 1], [.rows K la, .rows K2 lb] => match sameKs K [.i64, .i64], sameKs K2 [.i64, .i64] with
    | true, true => some { val := .sbool true, C := [la = lb, la.length ≤ 140737488355328] }
    | _, _ => none
  | _, _ => none
theorem se_acc : Acc ge 25 seF := by
  intro args B out h hC
  unfold seF at h
  split at h
  · rename_i K la K2 lb
    split at h
    · rename_i hK hK2
      obtain rfl := sameKs_eq hK
      obtain rfl := sameKs_eq hK2
      simp only [Option.some.injEq] at h; subst h
      simp only [allC_cons, allC_nil, and_true] at hC
      obtain ⟨rfl, hl⟩ := hC
      have F1 : Fits .i64 (la.length : Int) := Go.Vx.fits_small hl
      have hL := le_loop
      refine FnOk.toSb (b := true) ?_ rfl
      refine FnOk.run (out := { val := .bool true }) (new := []) ge_ok (se_run _ _) (by (simp only [allC_cons, allC_nil, and_true]; repeat' (with_reducible (first | refine And.intro ?_ ?_ | exact True.intro | assumption | omega | exact decide_eq_true (by first | assumption | omega) | exact decide_eq_false (by first | assumption | omega) | rfl | (simp; done))))) (by simp [upto]) rfl (by simp) (by simp) fun j hj => ?_
      match j, hj with
      | 0, _ => rfl
      | 1, _ => rfl
      | j + 2, hj => exact absurd hj (by simp)
    · simp at h
  · simp at h
/-! ### all accounts of MacPlays -/
noncomputable abbrev gy : Ctx := ge.add [(11, oneOf F11 F11l), (12, oneOf F12 F12l), (13, oneOf F13 F13l), (21, F21), (24, F24), (25, seF)]
theorem gy_ok : CtxU gy := ge_ok.add mixed noGo (by
  intro x hx
  simp only [List.mem_cons, List.not_mem_nil, or_false] at hx
  rcases hx with rfl | rfl | rfl | rfl | rfl | rfl
  · exact Acc.of (g := gp) rfl rfl (acc_one acc11 acc11l)
  · exact Acc.of (g := gw) rfl rfl (acc_one acc12 acc12l)
  · exact Acc.of (g := gw) rfl rfl (acc_one acc13 acc13l)
  · exact acc21
  · exact acc24
  · exact se_acc)
end Go.Proofs.Ytejcjdhplpjpjaa

namespace Go.Proofs.Ytejcjdhplpjpjaa
open Go Go.Vx
/-! ### MacPlays: the desk is written over -/
abbrev flKeep : List Nat := [1, 2, 5, 6, 7, 8, 9, 10, 11, 12, 14]
noncomputable abbrev flBody : Code := bodyAt Try.prog 7 29
abbrev flO (m L : Nat) (f : Nat → SV) (h i k : Int) : List SV := [.ro 2 m f, .ptr 0 0, .ptr 1 0, .ptr 2 0, .own 3, .own 4, .int .i64 h, .sl 5 L 0 1 0 L false, .int .i64 i, .ptr 6 0, .int .i64 k]
abbrev flS (m L : Nat) (f : Nat → SV) (h i : Int) (k : Nat) : List (Nat × SV) := flKeep.zip (flO m L f h i (k : Int))
noncomputable abbrev flB (ck a : Nat → Int) (b : Bool) (e : List Int) (w l : List (List Int)) (x D : List Int) : List Body := [.cells (svF (List.replicate 32 .u8) ck 0), .log w, macV (.ptr 1 0) a, .ints .u8 x, .rows evK l, .ints .u8 D, .cells [.sbool b, .roi .u8 e]]
theorem fl_go (m L : Nat) (f : Nat → SV) (h i : Int) (k : Nat) (ck a : Nat → Int) (b : Bool) (e : List Int) (w l : List (List Int)) (x D : List Int) : runC gy 300 139 [.br true] flBody (flS m L f h i k) (flB ck a b e w l x D) flKeep [0, 1, 2, 3, 4, 5, 6] =
    some (.normal, flO m L f h i ((k : Int) + 1), (flB ck a b e w l x (D.set (0 + k + 0) 153)).map some, [Fits .i64 (L : Int), decide ((k : Int) < (L : Int)) = true, 0 + k + 0 < D.length, (0 : Int) ≤ (k : Int) ∧ (k : Int) < (L : Int), Fits .i64 ((k : Int) + 1)]) :=
  r3_parts4 (by kernel_rfl) (by kernel_rfl) (by kernel_rfl) (by kernel_rfl)
theorem fl_end (m L : Nat) (f : Nat → SV) (h i : Int) (k : Nat) (ck a : Nat → Int) (b : Bool) (e : List Int) (w l : List (List Int)) (x D : List Int) : runC gy 300 139 [.br false] flBody (flS m L f h i k) (flB ck a b e w l x D) flKeep [0, 1, 2, 3, 4, 5, 6] =
    some (.exit 4, flO m L f h i (k : Int), (flB ck a b e w l x D).map some, [Fits .i64 (L : Int), decide ((k : Int) < (L : Int)) = false]) :=
  r3_parts4 (by kernel_rfl) (by kernel_rfl) (by kernel_rfl) (by kernel_rfl)
end Go.Proofs.Ytejcjdhplpjpjaa

namespace Go.Proofs.Ytejcjdhplpjpjaa
open Go Go.Vx
/-! ### MacPlays: the desk's loop -/
def flD (D : List Int) : Nat → List Int
  | 0 => D
  | k + 1 => (flD D k).set (0 + k + 0) 153
theorem flD_len (D : List Int) : ∀ k, (flD D k).length = D.length
  | 0 => rfl
  | k + 1 => by simp only [flD, List.length_set, flD_len D k]
noncomputable def flG : LoopF := fun vals B => match vals, B with
  | [.ro 2 m f, .ptr 0 0, .ptr 1 0, .ptr 2 0, .own 3, .own 4, .int .i64 h, .sl 5 M 0 1 0 L false, .int .i64 i, .ptr 6 0, .int .i64 0], [.cells ck, .log w, .cells ms, .ints K x, .rows K2 l, .ints K3 D, .cells [.sbool b, .roi K4 e]] =>
    match numsAs (List.replicate 32 .u8) ck, macAs ms, headK (ms.take 1), sameK K .u8, sameKs K2 evK, sameK K3 .u8, sameK K4 .u8 with
    | some lk, some la, .log1, true, true, true, true => some (flKeep.zip (flO m L f h i (L : Int)), flB (atL lk) (atL la) b e w l x (flD D L), [M = L, D.length = L, L ≤ 140737488355328])
    | _, _, _, _, _, _, _ => none
  | _, _ => none
theorem id7 : ∀ j : Nat, j < 7 → ([0, 1, 2, 3, 4, 5, 6] : List Nat)[j]? = some j := fun j hj => by
  match j, hj with
  | 0, _ => rfl
  | 1, _ => rfl
  | 2, _ => rfl
  | 3, _ => rfl
  | 4, _ => rfl
  | 5, _ => rfl
  | 6, _ => rfl
theorem fl_loop : LoopGood gy 139 (.loop flBody) flKeep 7 (.exit 4) (mkLoopN flG) := by
  refine LoopGood.mkN (by decide) fun vals B S' B' C hG hC hlen w0 O hgl => ?_
  clear hlen
  unfold flG at hG
  split at hG
  · rename_i m f h M L i ck w ms K x K2 l K3 D b K4 e
    split at hG
    · rename_i lk la hk ha hr hK hK2 hK3 hK4
      obtain rfl := kidx_inj hK
      obtain rfl := sameKs_eq hK2
      obtain rfl := kidx_inj hK3
      obtain rfl := kidx_inj hK4
      have hr := head_log1 hr
      simp only [Option.some.injEq, Prod.mk.injEq] at hG
      obtain ⟨rfl, rfl, rfl⟩ := hG
      simp only [allC_cons, allC_nil, and_true] at hC
      obtain ⟨rfl, hD, hL⟩ := hC
      have F1 : Fits .i64 (M : Int) := Go.Vx.fits_small hL
      have fl : ∀ l : List SV, Body.cells [.sbool b, .roi .u8 e] = .cells l → flatL l := fun l hl => by
        injection hl with hl
        subst hl
        intro d hd
        simp at hd
        rcases hd with rfl | rfl <;> rfl
      refine SimC.preI (B1 := flB (atL lk) (atL la) b e w l x D) ?_ ⟨cells_nums hk, ⟨BImp.refl _, fun _ h => by simp at h⟩, cells_mac ha hr rfl, ⟨BImp.refl _, fun _ h => by simp at h⟩, ⟨BImp.refl _, fun _ h => by simp at h⟩, ⟨BImp.refl _, fun _ h => by simp at h⟩, ⟨BImp.refl _, fl⟩, trivial⟩
      show SimC _ _ _ _ _ (flS m M f h i 0) (flB (atL lk) (atL la) b e w l x (flD D 0)) _ _ _ _
      refine SimC.iter (g := gy) (e := .exit 4) (S := fun k => flS m M f h i k) (B := fun k => flB (atL lk) (atL la) b e w l x (flD D k)) (N := M) (fun k hk => ?_) ?_ (by simp) 0 (by omega)
      · have hdl := flD_len D k
        refine SimC.run (B' := flB (atL lk) (atL la) b e w l x (flD D (k + 1))) gy_ok (by decide) (fl_go m M f h i k _ _ b e w l x _) ?_ (by decide) id7 (by decide) (by simp) hgl
        simp only [allC_cons, allC_nil, and_true]
        exact ⟨F1, decide_eq_true (by omega), by omega, ⟨by omega, by omega⟩, fits_of (by omega) (by omega)⟩
      · exact SimC.run (B' := flB (atL lk) (atL la) b e w l x (flD D M)) gy_ok (by decide) (fl_end m M f h i M _ _ b e w l x _) (by simp only [allC_cons, allC_nil, and_true]; exact ⟨F1, decide_eq_false (by omega)⟩) (by decide) id7 (by decide) (by simp) hgl
    · simp at hG
  · simp at hG
end Go.Proofs.Ytejcjdhplpjpjaa

namespace Go.Proofs.Ytejcjdhplpjpjaa
open Go Go.Vx
/-! ### MacPlays: a round of the script -/
abbrev pyKeep : List Nat := [1, 2, 5, 6, 7, 8, 9, 10, 11]
noncomputable abbrev pyBody : Code := bodyAt Try.prog 7 12
noncomputable abbrev pyO (p : Nat → Bool) (d : Nat → List Int) (m L : Nat) (h i : Int) : List SV := [.ro 2 m (rowY p d), .ptr 0 0, .ptr 1 0, .ptr 2 0, .own 4, .own 5, .int .i64 h, .sl 3 L 0 1 0 L false, .int .i64 i]
noncomputable abbrev pyS (p : Nat → Bool) (d : Nat → List Int) (m L : Nat) (h : Int) (i : Nat) : List (Nat × SV) := pyKeep.zip (pyO p d m L h (i : Int))
noncomputable abbrev pyB (k a : Nat → Int) (w l : List (List Int)) (x D : List Int) : List Body := [.cells (svF (List.replicate 32 .u8) k 0), .log w, macV (.ptr 1 0) a, .ints .u8 D, .ints .u8 x, .rows evK l]
/-- the tag is asked for -/
theorem py_ask (p : Nat → Bool) (d : Nat → List Int) (m L i : Nat) (h : Int) (k a : Nat → Int) (w l : List (List Int)) (x D : List Int) : runC gy 600 139 [.br true, .br false, .br true, .br false] pyBody (pyS p d m L h i) (pyB k a w l x D) pyKeep [0, 1, 2, 3, 4, 8] =
    some (.normal, pyO p d m L h ((i : Int) + 1), (pyB k a (w ++ evT (n43 a 42)) (l ++ evT h) x D).map some, stC m i x (d i) false ++ [p i = true, (l ++ evT h).length * 16 ≤ 2 ^ 47, x.length = x.length, x.length ≤ 140737488355328, 0 ≤ n43 a 42 ∧ n43 a 42 < 16, w.length < 1000000000, (!decide (Tg a = Dg k x)) = false, Fits .i64 ((i : Int) + 1)]) :=
  r3_parts4 (by kernel_rfl) (by kernel_rfl) (by kernel_rfl) (by kernel_rfl)
theorem py_long (p : Nat → Bool) (d : Nat → List Int) (m L i : Nat) (h : Int) (k a : Nat → Int) (w l : List (List Int)) (x D : List Int) : runC gy 600 139 [.br true, .br true] pyBody (pyS p d m L h i) (pyB k a w l x D) [4] [0, 1, 2, 3, 4, 5] =
    some (.ret, [.bool true], (pyB k a w l x D).map some, stC m i x (d i) true) :=
  r3_parts4 (by kernel_rfl) (by kernel_rfl) (by kernel_rfl) (by kernel_rfl)
theorem py_end (p : Nat → Bool) (d : Nat → List Int) (m L i : Nat) (h : Int) (k a : Nat → Int) (w l : List (List Int)) (x D : List Int) : runC gy 600 139 [.br false] pyBody (pyS p d m L h i) (pyB k a w l x D) pyKeep [0, 1, 2, 3, 4, 5] =
    some (.exit 0, pyO p d m L h (i : Int), (pyB k a w l x D).map some, [Fits .i64 (m : Int), decide ((i : Int) < (m : Int)) = false]) :=
  r3_parts4 (by kernel_rfl) (by kernel_rfl) (by kernel_rfl) (by kernel_rfl)
end Go.Proofs.Ytejcjdhplpjpjaa

namespace Go.Proofs.Ytejcjdhplpjpjaa
open Go Go.Vx
/-! ### MacPlays: a round that writes, the desk long enough -/
abbrev spS (e : List Int) : List Int := ((roomL e).drop (0 + 0)).take (e.length + 70)
abbrev spD (D e : List Int) (L : Nat) : List Int := splice D (0 + 0) ((spS e).take L)
noncomputable abbrev wPl0 : List Plan := [.br true, .br false, .br false, .br false, .br false, .loop 29 flKeep 7 (.exit 4) (mkLoopN flG)]
noncomputable abbrev pyC1 (a : Nat → Int) (L : Nat) (D e : List Int) (w : List (List Int)) : List Prop := [e.length ≤ 1000000000, Fits .i64 ((min (spS e).length L : Nat) : Int), 0 + 0 + ((spS e).take L).length ≤ D.length, 0 + 0 + (e.length + 70) ≤ (roomL e).length, 0 ≤ n43 a 42 ∧ n43 a 42 < 16, 0 + 0 + e.length ≤ (spD D e L).length, e.length ≤ 131072, w.length < 900000000, (0 : Int) ≤ 0 ∧ (0 : Int) ≤ (e.length : Int) ∧ (e.length : Int) ≤ (L : Int), Fits .i64 (e.length : Int)]
abbrev pyC2 (L : Nat) (D e : List Int) : List Prop := [0 + 0 + (e.length + 70) ≤ (spD D e L).length, e.length + 70 ≤ 140737488355328, e.length ≤ 140737488355328, e.length + 70 = e.length + 70, subI (spD D e L) 0 (e.length + 70) = roomL e, (0 : Int) ≤ 0 ∧ (0 : Int) ≤ ((e.length + 70 : Nat) : Int) ∧ ((e.length + 70 : Nat) : Int) ≤ (L : Int), Fits .i64 ((e.length + 70 : Nat) : Int), (!true) = false]
noncomputable abbrev pyC3 (i L : Nat) (h : Int) (D e x : List Int) (l : List (List Int)) : List Prop := [LoopGood gy 139 (.loop flBody) flKeep 7 (.exit 4) (mkLoopN flG), L = L, (spD D e L).length = L, L ≤ 140737488355328, 0 ≤ h ∧ h < 16, 0 ≤ (e.length : Int) ∧ (e.length : Int) ≤ 131072, Fits .i64 (e.length : Int), (l ++ evW h (e.length : Int)).length * 16 ≤ 2 ^ 47, (x ++ e).length * 1 ≤ 2 ^ 47, Fits .i64 ((i : Int) + 1)]
theorem py_w0 (p : Nat → Bool) (d : Nat → List Int) (m L i : Nat) (h : Int) (k a : Nat → Int) (w l : List (List Int)) (x D : List Int) : runC gy 600 139 wPl0 pyBody (pyS p d m L h i) (pyB k a w l x D) pyKeep [0, 1, 2, 3, 10, 9] =
    some (.normal, pyO p d m L (ewH h ((d i).length : Int)) ((i : Int) + 1), (pyB k (wrA (n43 a) (subI (spD D (d i) L) 0 (d i).length)) (w ++ evW (n43 a 42) ((d i).length : Int)) (l ++ evW h ((d i).length : Int)) (x ++ d i) (flD (spD D (d i) L) L)).map some,
      stC m i x (d i) false ++ ([p i = false, Fits .i64 (((d i).length : Int) + 70), Fits .i64 ((d i).length : Int), Fits .i64 (L : Int), decide ((L : Int) < ((d i).length : Int) + 70) = false] ++ (pyC1 a L D (d i) w ++ (pyC2 L D (d i) ++ pyC3 i L h D (d i) x l)))) :=
  r3_parts4 (by kernel_rfl) (by kernel_rfl) (by kernel_rfl) (by kernel_rfl)
end Go.Proofs.Ytejcjdhplpjpjaa

namespace Go.Proofs.Ytejcjdhplpjpjaa
open Go Go.Vx
/-! ### MacPlays: a round that writes, a new desk -/
abbrev gL (e : List Int) : Nat := (2 * (e.length : Int) + 70).toNat
abbrev gD (e : List Int) : List Int := List.replicate (gL e) 0
noncomputable abbrev wPl1 : List Plan := [.br true, .br false, .br false, .br true, .br false, .br false, .loop 29 flKeep 7 (.exit 4) (mkLoopN flG)]
theorem py_w1 (p : Nat → Bool) (d : Nat → List Int) (m L i : Nat) (h : Int) (k a : Nat → Int) (w l : List (List Int)) (x D : List Int) : runC gy 600 139 wPl1 pyBody (pyS p d m L h i) (pyB k a w l x D) pyKeep [0, 1, 2, 7, 11, 10] =
    some (.normal, pyO p d m (gL (d i)) (ewH h ((d i).length : Int)) ((i : Int) + 1), (pyB k (wrA (n43 a) (subI (spD (gD (d i)) (d i) (gL (d i))) 0 (d i).length)) (w ++ evW (n43 a 42) ((d i).length : Int)) (l ++ evW h ((d i).length : Int)) (x ++ d i) (flD (spD (gD (d i)) (d i) (gL (d i))) (gL (d i)))).map some,
      stC m i x (d i) false ++ ([p i = false, Fits .i64 (((d i).length : Int) + 70), Fits .i64 ((d i).length : Int), Fits .i64 (L : Int), decide ((L : Int) < ((d i).length : Int) + 70) = true, (0 : Int) ≤ 2 * ((d i).length : Int) + 70 ∧ 2 * ((d i).length : Int) + 70 = 2 * ((d i).length : Int) + 70 ∧ gL (d i) * 1 ≤ 140737488355328, Fits .i64 (2 * ((d i).length : Int) + 70), Fits .i64 (2 * ((d i).length : Int)), Fits .i64 ((d i).length : Int), Fits .i64 (((d i).length : Int) + 70), Fits .i64 ((d i).length : Int), Fits .i64 ((gL (d i) : Nat) : Int), decide (((gL (d i) : Nat) : Int) < ((d i).length : Int) + 70) = false] ++ (pyC1 a (gL (d i)) (gD (d i)) (d i) w ++ (pyC2 (gL (d i)) (gD (d i)) (d i) ++ pyC3 i (gL (d i)) h (gD (d i)) (d i) x l)))) :=
  r3_parts4 (by kernel_rfl) (by kernel_rfl) (by kernel_rfl) (by kernel_rfl)
end Go.Proofs.Ytejcjdhplpjpjaa
