/- Accounts of this seat's functions: lemmas, no statement of their own. No conditions. -/
import Derived.Test.YtejcjdhplpjpjaaTSf
import Derived.Test.YtejcjdhplpjpjaaTQp
namespace Go.Proofs.Ytejcjdhplpjpjaa
open Go Go.Vx
/-! ### Write with a Recorder, a slice of a list of numbers: whole blocks -/
abbrev wlS (o n : Nat) : List SV := [.ptr 0 0, .sl 1 0 o 1 0 n false]
noncomputable abbrev wlB (a : Nat → Int) (W : List Int) (w : List (List Int)) : List Body := [macV (.ptr 2 0) a, .ints .u8 W, .log w]
theorem wl_go (o n : Nat) (a : Nat → Int) (W : List Int) (w : List (List Int)) : runC gw 300 102 [.br true] wrBody (wrKeep.zip (wlS o n)) (wlB a W w) wrKeep [0, 1, 2] =
    some (.normal, wlS (o + 16) (n - 16), (wlB (tkA a ((W.drop o).take 16)) W ((w ++ [[1, bI (decide ((16 : Int) ≤ (n : Int)))]]) ++ [[3, 11], [3, 12]])).map some,
      [w.length < 1099511627776, Fits .i64 (n : Int), decide ((16 : Int) ≤ (n : Int)) = true, o + 0 + 16 ≤ W.length, (w ++ [[1, bI (decide ((16 : Int) ≤ (n : Int)))]]).length < 1099511627770, (16 : Nat) ≤ 16, (0 : Int) ≤ 0 ∧ (0 : Int) ≤ 16 ∧ (16 : Int) ≤ (n : Int), (0 : Int) ≤ 16 ∧ (16 : Int) ≤ (n : Int) ∧ (n : Int) ≤ (n : Int)]) :=
  r3_parts4 (by kernel_rfl) (by kernel_rfl) (by kernel_rfl) (by kernel_rfl)
theorem wl_end (o n : Nat) (a : Nat → Int) (W : List Int) (w : List (List Int)) : runC gw 300 102 [.br false] wrBody (wrKeep.zip (wlS o n)) (wlB a W w) wrKeep [0, 1, 2] =
    some (.exit 0, wlS o n, (wlB a W (w ++ [[1, bI (decide ((16 : Int) ≤ (n : Int)))]])).map some, [w.length < 1099511627776, Fits .i64 (n : Int), decide ((16 : Int) ≤ (n : Int)) = false]) :=
  r3_parts4 (by kernel_rfl) (by kernel_rfl) (by kernel_rfl) (by kernel_rfl)
noncomputable def wlG : LoopF := fun vals B => match vals, B with
  | [.ptr 0 0, .sl 1 0 o 1 0 n false], [.cells ms, .ints K W, .log w] => match macAs ms, headK (ms.take 1), sameK K .u8 with
    | some la, .log2, true => some ([(0, .ptr 0 0), (1, .sl 1 0 (o + 16 * (n / 16)) 1 0 (n - 16 * (n / 16)) false)], wlB (lpA (atL la) (subI W o n) (n / 16)) W (evB w (n / 16) ++ [[1, 0]]), [o + n ≤ W.length, n ≤ 131072, w.length < 1000000000])
    | _, _, _ => none
  | _, _ => none
theorem idT : ∀ j : Nat, j < 3 → ([0, 1, 2] : List Nat)[j]? = some j := fun j hj => by
  match j, hj with
  | 0, _ => rfl
  | 1, _ => rfl
  | 2, _ => rfl
theorem wl_loop : LoopGood gw 102 (.loop wrBody) wrKeep 3 (.exit 0) (mkLoopN wlG) := by
  refine LoopGood.mkN (by decide) fun vals B S' B' C hG hC hlen w0 O hgl => ?_
  clear hlen
  unfold wlG at hG
  split at hG
  · rename_i o n ms K W w
    split at hG
    · rename_i la ha hr hK
      obtain rfl := kidx_inj hK
      have hr := head_log2 hr
      simp only [Option.some.injEq, Prod.mk.injEq] at hG
      obtain ⟨rfl, rfl, rfl⟩ := hG
      simp only [allC_cons, allC_nil, and_true] at hC
      obtain ⟨h1, h2, h3⟩ := hC
      refine SimC.preI (B1 := wlB (atL la) W w) ?_ ⟨cells_mac ha hr rfl, ⟨BImp.refl _, fun _ h => by simp at h⟩, ⟨BImp.refl _, fun _ h => by simp at h⟩, trivial⟩
      show SimC _ _ _ _ _ (wrKeep.zip (wlS (o + 16 * 0) (n - 16 * 0))) (wlB (lpA (atL la) (subI W o n) 0) W (evB w 0)) _ _ _ _
      refine SimC.iter (g := gw) (e := .exit 0) (S := fun i => wrKeep.zip (wlS (o + 16 * i) (n - 16 * i))) (B := fun i => wlB (lpA (atL la) (subI W o n) i) W (evB w i)) (N := n / 16) (fun i hi => ?_) ?_ (by simp) 0 (by omega)
      · have hr := wl_go (o + 16 * i) (n - 16 * i) (lpA (atL la) (subI W o n) i) W (evB w i)
        have hb := evB_len w i
        have e1 : bI (decide ((16 : Int) ≤ ((n - 16 * i : Nat) : Int))) = 1 := bI_t (by omega)
        have e2 : (W.drop (o + 16 * i)).take 16 = ((subI W o n).drop (16 * i)).take 16 := by
          rw [subI, List.drop_take, List.drop_drop, List.take_take, show min 16 (n - 16 * i) = 16 by omega]
        rw [e1, e2, show o + 16 * i + 16 = o + 16 * (i + 1) by omega, show n - 16 * i - 16 = n - 16 * (i + 1) by omega] at hr
        refine SimC.run (B' := wlB (lpA (atL la) (subI W o n) (i + 1)) W (evB w (i + 1))) gw_ok (by decide) hr ?_ (by decide) idT (by decide) (by simp) hgl
        simp only [allC_cons, allC_nil, and_true, List.length_append, List.length_cons, List.length_nil]
        exact ⟨by omega, fits_of (by omega) (by omega), decide_eq_true (by omega), by omega, by omega, by omega, ⟨by omega, by omega, by omega⟩, ⟨by omega, by omega, by omega⟩⟩
      · have hr := wl_end (o + 16 * (n / 16)) (n - 16 * (n / 16)) (lpA (atL la) (subI W o n) (n / 16)) W (evB w (n / 16))
        have hb := evB_len w (n / 16)
        have e1 : bI (decide ((16 : Int) ≤ ((n - 16 * (n / 16) : Nat) : Int))) = 0 := bI_f (by omega)
        rw [e1] at hr
        exact SimC.weaken (SimC.run (B' := wlB (lpA (atL la) (subI W o n) (n / 16)) W (evB w (n / 16) ++ [[1, 0]])) gw_ok (by decide) hr (by simp only [allC_cons, allC_nil, and_true]; exact ⟨by omega, fits_of (by omega) (by omega), decide_eq_false (by omega)⟩) (by decide) idT (by decide) (by simp) hgl) (sub_mkT (by simp; exact ⟨rfl, rfl⟩))
    · simp at hG
  · simp at hG
end Go.Proofs.Ytejcjdhplpjpjaa

namespace Go.Proofs.Ytejcjdhplpjpjaa
open Go Go.Vx
/-! ### Write with a Recorder: the runs -/
noncomputable abbrev wlPl : Plan := .loop 8 wrKeep 3 (.exit 0) (mkLoopN wlG)
noncomputable abbrev LGl : Prop := LoopGood gw 102 (.loop wrBody) wrKeep 3 (.exit 0) (mkLoopN wlG)
abbrev rr (n : Nat) : Nat := n - 16 * (n / 16)
abbrev rsW (W : List Int) (o n : Nat) : List Int := subI W (o + 16 * (n / 16)) (rr n)
noncomputable abbrev lpW (a : Nat → Int) (W : List Int) (o n : Nat) : Nat → Int := lpA (n43 a) (subI W o n) (n / 16)
noncomputable abbrev tlW (a : Nat → Int) (W : List Int) (o n : Nat) : Nat → Int := tlA (lpW a W o n) (rsW W o n)
abbrev evL (w : List (List Int)) (n : Nat) : List (List Int) := (evB w (n / 16) ++ [[1, 0]]) ++ [[1, bI (decide (0 < ((rr n : Nat) : Int)))]]
noncomputable abbrev CwL (W : List Int) (w : List (List Int)) (o n : Nat) (b : Bool) : List Prop := [LGl, o + n ≤ W.length, n ≤ 131072, w.length < 1000000000, (evB w (n / 16) ++ [[1, 0]]).length < 1099511627776, Fits .i64 ((rr n : Nat) : Int), decide (0 < ((rr n : Nat) : Int)) = b]
abbrev CwT (W : List Int) (o n : Nat) : List Prop := [Fits .i64 ((min (rsW W o n).length (16 - 0) : Nat) : Int), 0 + ((rsW W o n).take 16).length ≤ 16, o + 16 * (n / 16) + 0 + rr n ≤ W.length]
abbrev w1L (a : Nat → Int) (w : List (List Int)) : List (List Int) := w ++ [[1, bI (decide (0 < a 42))]]
theorem wl00 (o n : Nat) (a : Nat → Int) (W : List Int) (w : List (List Int)) : runF gw 400 [.br false, wlPl, .br false] 12 (wlS o n) (wlB a W w) [] =
    some (.tuple [], (wlB (lpW a W o n) W (evL (w1L a w) n)).map some, [w.length < 1099511627776, C0 a false] ++ CwL W (w1L a w) o n false) :=
  run_parts (by kernel_rfl) (by kernel_rfl) (by kernel_rfl)
theorem wl01 (o n : Nat) (a : Nat → Int) (W : List Int) (w : List (List Int)) : runF gw 400 [.br false, wlPl, .br true] 12 (wlS o n) (wlB a W w) [] =
    some (.tuple [], (wlB (tlW a W o n) W (evL (w1L a w) n)).map some, [w.length < 1099511627776, C0 a false] ++ (CwL W (w1L a w) o n true ++ CwT W o n)) :=
  run_parts (by kernel_rfl) (by kernel_rfl) (by kernel_rfl)
abbrev kW (a : Nat → Int) (W : List Int) (o n : Nat) : Int := kN a (subI W o n)
abbrev w3L (a : Nat → Int) (w : List (List Int)) (k : Int) : List (List Int) := (w1L a w ++ [[2, a 42]]) ++ [[2, k]]
abbrev w4L (a : Nat → Int) (w : List (List Int)) (k : Int) : List (List Int) := w3L a w k ++ [[1, bI (decide (a 42 + k = 16))]]
abbrev CwH (a : Nat → Int) (W : List Int) (w : List (List Int)) (o n : Nat) (b : Bool) : List Prop := [w.length < 1099511627776, C0 a true, Fits .i64 (kW a W o n), (a 42).toNat + ((subI W o n).take (16 - (a 42).toNat)).length ≤ 16, o + 0 + n ≤ W.length, 0 ≤ a 42 ∧ a 42 ≤ ((16 : Nat) : Int) ∧ ((16 : Nat) : Int) ≤ ((16 : Nat) : Int), (w1L a w).length < 1099511627776, 0 ≤ kW a W o n ∧ kW a W o n ≤ (n : Int) ∧ (n : Int) ≤ (n : Int), (w1L a w ++ [[2, a 42]]).length < 1099511627776, Fits .i64 (a 42 + kW a W o n), (w3L a w (kW a W o n)).length < 1099511627776, decide (a 42 + kW a W o n = 16) = b]
abbrev o1W (a : Nat → Int) (W : List Int) (o n : Nat) : Nat := o + (kW a W o n).toNat
abbrev n1W (a : Nat → Int) (W : List Int) (o n : Nat) : Nat := n - (kW a W o n).toNat
theorem wln0 (o n : Nat) (a : Nat → Int) (W : List Int) (w : List (List Int)) : runF gw 400 [.br true, .br false, wlPl, .br false] 12 (wlS o n) (wlB a W w) [] =
    some (.tuple [], (wlB (lpW (ovA a (subI W o n)) W (o1W a W o n) (n1W a W o n)) W (evL (w4L a w (kW a W o n)) (n1W a W o n))).map some, CwH a W w o n false ++ CwL W (w4L a w (kW a W o n)) (o1W a W o n) (n1W a W o n) false) :=
  run_parts (by kernel_rfl) (by kernel_rfl) (by kernel_rfl)
noncomputable abbrev eqW (a : Nat → Int) (W : List Int) (o n : Nat) : Nat → Int := eqA a (subI W o n)
theorem wle0 (o n : Nat) (a : Nat → Int) (W : List Int) (w : List (List Int)) : runF gw 400 [.br true, .br true, wlPl, .br false] 12 (wlS o n) (wlB a W w) [] =
    some (.tuple [], (wlB (lpW (eqW a W o n) W (o1W a W o n) (n1W a W o n)) W (evL (w4L a w (kW a W o n) ++ [[3, 11], [3, 12]]) (n1W a W o n))).map some, CwH a W w o n true ++ (((w4L a w (kW a W o n)).length < 1099511627770) :: CwL W (w4L a w (kW a W o n) ++ [[3, 11], [3, 12]]) (o1W a W o n) (n1W a W o n) false)) :=
  run_parts (by kernel_rfl) (by kernel_rfl) (by kernel_rfl)
theorem wle1 (o n : Nat) (a : Nat → Int) (W : List Int) (w : List (List Int)) : runF gw 400 [.br true, .br true, wlPl, .br true] 12 (wlS o n) (wlB a W w) [] =
    some (.tuple [], (wlB (tlW (eqW a W o n) W (o1W a W o n) (n1W a W o n)) W (evL (w4L a w (kW a W o n) ++ [[3, 11], [3, 12]]) (n1W a W o n))).map some, CwH a W w o n true ++ (((w4L a w (kW a W o n)).length < 1099511627770) :: (CwL W (w4L a w (kW a W o n) ++ [[3, 11], [3, 12]]) (o1W a W o n) (n1W a W o n) true ++ CwT W (o1W a W o n) (n1W a W o n)))) :=
  run_parts (by kernel_rfl) (by kernel_rfl) (by kernel_rfl)
end Go.Proofs.Ytejcjdhplpjpjaa

namespace Go.Proofs.Ytejcjdhplpjpjaa
open Go Go.Vx
/-! ### Write with a Recorder: the account -/
theorem evB_app (w l : List (List Int)) : ∀ i, evB (w ++ l) i = w ++ evB l i
  | 0 => rfl
  | i + 1 => by simp only [evB, evB_app w l i, List.append_assoc]
theorem rI_nat (n : Nat) : rI (n : Int) = ((rr n : Nat) : Int) := by
  show (n : Int) - 16 * (((n : Int).toNat / 16 : Nat) : Int) = ((n - 16 * (n / 16) : Nat) : Int)
  rw [Int.toNat_natCast]; omega
theorem evL_eq (w l : List (List Int)) (n : Nat) : evL (w ++ l) n = w ++ evE l (n : Int) := by
  show (evB (w ++ l) (n / 16) ++ [[1, 0]]) ++ [[1, bI (decide (0 < ((rr n : Nat) : Int)))]] = w ++ (evB l ((n : Int).toNat / 16) ++ [[1, bI false], [1, bI (decide (0 < rI (n : Int)))]])
  rw [evB_app, Int.toNat_natCast, rI_nat]
  simp only [List.append_assoc]
  rfl
theorem subI_drop (W : List Int) (o n k : Nat) : subI W (o + k) (n - k) = (subI W o n).drop k := by
  rw [subI, subI, List.drop_take, List.drop_drop]
theorem rsW_eq {W : List Int} {o n : Nat} (h : o + n ≤ W.length) : rsW W o n = rsL (subI W o n) := by
  rw [rsL, subI_length h]
  exact subI_drop W o n _
theorem lpW_eq {W : List Int} {o n : Nat} (h : o + n ≤ W.length) (a : Nat → Int) : lpW a W o n = lpE a (subI W o n) := by
  rw [lpE, subI_length h]
theorem tlW_eq {W : List Int} {o n : Nat} (h : o + n ≤ W.length) (a : Nat → Int) : tlW a W o n = tlE a (subI W o n) := by
  rw [tlE, ← lpW_eq h, ← rsW_eq h]
theorem l1_eq {W : List Int} {o n : Nat} (h : o + n ≤ W.length) (a : Nat → Int) : subI W (o1W a W o n) (n1W a W o n) = l1 a (subI W o n) := by
  rw [l1, subI_length h]
  rw [subI_drop, List.take_of_length_le]
  rw [List.length_drop, subI_length h]
  exact Nat.le_refl _
theorem wl_acc (o n : Nat) (a : Nat → Int) (W : List Int) (w : List (List Int)) (h1 : 0 ≤ a 42 ∧ a 42 < 16) (h2 : o + n ≤ W.length) (h3 : n ≤ 131072) (h4 : w.length < 900000000) :
    FnOk gw 12 (wlS o n) (wlB a W w) { val := .tuple [], upd := [(0, some (macV (.ptr 2 0) (wrA a (subI W o n)))), (2, some (.log (w ++ evW (a 42) (n : Int))))] } := by
  have hL : LGl := wl_loop
  have hl := subI_length h2
  have fin : ∀ {pl C} {v : Nat → Int} {w' : List (List Int)}, runF gw 400 pl 12 (wlS o n) (wlB a W w) [] = some (.tuple [], (wlB v W w').map some, C) → AllC C → FnOk gw 12 (wlS o n) (wlB a W w) { val := .tuple [], upd := [(0, some (macV (.ptr 2 0) v)), (2, some (.log w'))] } := fun hr hC =>
    FnOk.run (new := []) gw_ok hr hC (by simp [upto]) rfl (by simp) (by simp) (fun j hj => by
      match j, hj with
      | 0, _ => rfl
      | 1, _ => rfl
      | 2, _ => rfl)
  have rest : ∀ (w' : List (List Int)) (o' n' : Nat), o' + n' ≤ W.length → n' ≤ 131072 → w'.length < 900000010 → ∀ b, decide (0 < ((rr n' : Nat) : Int)) = b → AllC (CwL W w' o' n' b) := fun w' o' n' q1 q2 q3 b hb => by
    have := evB_len w' (n' / 16)
    have hz : rr n' = n' - 16 * (n' / 16) := rfl
    simp only [CwL, allC_cons, allC_nil, and_true, List.length_append, List.length_cons, List.length_nil]
    exact ⟨hL, q1, q2, by omega, by omega, fits_of (by omega) (by omega), hb⟩
  have tl : ∀ (o' n' : Nat), o' + n' ≤ W.length → AllC (CwT W o' n') := fun o' n' q1 => by
    have h5 := Nat.min_le_right (rsW W o' n').length 16
    have h6 : ((rsW W o' n').take 16).length ≤ 16 := by rw [List.length_take]; exact Nat.min_le_left _ _
    simp only [CwT, allC_cons, allC_nil, and_true]
    exact ⟨fits_of (by omega) (by omega), by omega, by show o' + 16 * (n' / 16) + 0 + (n' - 16 * (n' / 16)) ≤ W.length; omega⟩
  have rrE : ∀ x, rr x = x - 16 * (x / 16) := fun _ => rfl
  have kk' := kN_le a (subI W o n)
  rw [hl] at kk'
  have kE : kW a W o n = ((min n (16 - (a 42).toNat) : Nat) : Int) := by
    show ((min (subI W o n).length (16 - (a 42).toNat) : Nat) : Int) = _
    rw [hl]
  have k1 : 0 ≤ kW a W o n ∧ kW a W o n ≤ n ∧ kW a W o n ≤ 16 := by
    rcases kk' with h | h
    · exact ⟨h.1, h.2.1, by omega⟩
    · omega
  have w1l : (w1L a w).length = w.length + 1 := by simp
  have w4l : (w4L a w (kW a W o n)).length = w.length + 4 := by simp
  have hh : ∀ b, decide (a 42 + kW a W o n = 16) = b → 0 < a 42 → AllC (CwH a W w o n b) := fun b hb h0 => by
    have h5 : ((subI W o n).take (16 - (a 42).toNat)).length ≤ 16 - (a 42).toNat := by rw [List.length_take]; exact Nat.min_le_left _ _
    simp only [CwH, allC_cons, allC_nil, and_true]
    refine ⟨by omega, decide_eq_true h0, fits_of (by omega) (by omega), by omega, by omega, ⟨by omega, by omega, by omega⟩, by omega, ⟨k1.1, k1.2.1, by omega⟩, ?_, fits_of (by omega) (by omega), ?_, hb⟩
    · simp; omega
    · simp; omega
  unfold wrA evW
  by_cases h0 : 0 < a 42
  · rw [if_pos h0, if_pos h0]
    have q1 : o1W a W o n + n1W a W o n ≤ W.length := by show o + (kW a W o n).toNat + (n - (kW a W o n).toNat) ≤ _; omega
    have q2 : n1W a W o n ≤ 131072 := by show n - (kW a W o n).toNat ≤ _; omega
    have hl1 := subI_length q1
    have e4 : ∀ c, bI (decide (a 42 + kW a W o n = 16)) = c → w4L a w (kW a W o n) = w ++ [[1, 1], [2, a 42], [2, kW a W o n], [1, c]] := fun c hc => by
      show (((w ++ [[1, bI (decide (0 < a 42))]]) ++ [[2, a 42]]) ++ [[2, kW a W o n]]) ++ [[1, bI (decide (a 42 + kW a W o n = 16))]] = _
      rw [bI_t h0, hc]
      simp only [List.append_assoc]; rfl
    by_cases h16 : a 42 + kN a (subI W o n) = 16
    · rw [if_pos h16]
      have h16' : a 42 + kW a W o n = 16 := h16
      have hk : kW a W o n = 16 - a 42 := by omega
      have hn : ¬ (n : Int) < 16 - a 42 := by omega
      rw [if_neg hn]
      have en : ((n1W a W o n : Nat) : Int) = (n : Int) - (16 - a 42) := by show ((n - (kW a W o n).toNat : Nat) : Int) = _; omega
      have eL : evL (w4L a w (kW a W o n) ++ [[3, 11], [3, 12]]) (n1W a W o n) = w ++ evE [[1, 1], [2, a 42], [2, 16 - a 42], [1, 1], [3, 11], [3, 12]] ((n : Int) - (16 - a 42)) := by
        rw [e4 1 (bI_t h16'), List.append_assoc, evL_eq, en, hk]
        rfl
      have w5l : (w4L a w (kW a W o n) ++ [[3, 11], [3, 12]]).length = w.length + 6 := by simp
      by_cases hr : 0 < (rsL (l1 a (subI W o n))).length
      · rw [if_pos hr]
        have hx := wle1 o n a W w
        rw [eL, tlW_eq q1, l1_eq h2] at hx
        rw [← l1_eq h2, rs_len, hl1] at hr
        have hz := rrE (n1W a W o n)
        exact fin hx (allC_append.2 ⟨hh _ (decide_eq_true h16') h0, allC_cons.2 ⟨by omega, allC_append.2 ⟨rest _ _ _ q1 q2 (by omega) _ (decide_eq_true (by omega)), tl _ _ q1⟩⟩⟩)
      · rw [if_neg hr]
        have hx := wle0 o n a W w
        rw [eL, lpW_eq q1, l1_eq h2] at hx
        rw [← l1_eq h2, rs_len, hl1] at hr
        have hz := rrE (n1W a W o n)
        exact fin hx (allC_append.2 ⟨hh _ (decide_eq_true h16') h0, allC_cons.2 ⟨by omega, rest _ _ _ q1 q2 (by omega) _ (decide_eq_false (by omega))⟩⟩)
    · rw [if_neg h16]
      have h16' : ¬ a 42 + kW a W o n = 16 := h16
      have hk : kW a W o n = n := by omega
      have hn : (n : Int) < 16 - a 42 := by omega
      rw [if_pos hn]
      have en : n1W a W o n = 0 := by show n - (kW a W o n).toNat = 0; omega
      have eL : evL (w4L a w (kW a W o n)) (n1W a W o n) = w ++ evE [[1, 1], [2, a 42], [2, (n : Int)], [1, 0]] 0 := by
        rw [e4 0 (bI_f h16'), evL_eq, en, hk]
        rfl
      have hx := wln0 o n a W w
      rw [eL, lpW_eq q1, l1_eq h2] at hx
      have hz := rrE (n1W a W o n)
      exact fin hx (allC_append.2 ⟨hh _ (decide_eq_false h16') h0, rest _ _ _ q1 q2 (by omega) _ (decide_eq_false (by omega))⟩)
  · rw [if_neg h0, if_neg h0]
    have eL : evL (w1L a w) n = w ++ evE [[1, 0]] (n : Int) := by
      show evL (w ++ [[1, bI (decide (0 < a 42))]]) n = _
      rw [bI_f h0, evL_eq]
    by_cases hr : 0 < (rsL (subI W o n)).length
    · rw [if_pos hr]
      have hx := wl01 o n a W w
      rw [eL, tlW_eq h2] at hx
      rw [rs_len, hl] at hr
      have hz := rrE n
      exact fin hx (allC_append.2 ⟨allC_cons.2 ⟨by omega, allC_cons.2 ⟨decide_eq_false h0, by simp [AllC]⟩⟩, allC_append.2 ⟨rest _ _ _ h2 h3 (by omega) _ (decide_eq_true (by omega)), tl _ _ h2⟩⟩)
    · rw [if_neg hr]
      have hx := wl00 o n a W w
      rw [eL, lpW_eq h2] at hx
      rw [rs_len, hl] at hr
      have hz := rrE n
      exact fin hx (allC_append.2 ⟨allC_cons.2 ⟨by omega, allC_cons.2 ⟨decide_eq_false h0, by simp [AllC]⟩⟩, rest _ _ _ h2 h3 (by omega) _ (decide_eq_false (by omega))⟩)
end Go.Proofs.Ytejcjdhplpjpjaa

namespace Go.Proofs.Ytejcjdhplpjpjaa
open Go Go.Vx
/-! ### Write, Tag, New with a Recorder: summaries -/
noncomputable def F12l : SumF := fun args B => match args, B with
  | [.ptr 0 0, x], [.cells ms, .ints K W, .log w] => match macAs ms, headK (ms.take 1), sameK K .u8, vwI 1 W x with
    | some la, .log2, true, some (o, n) => some { val := .tuple [], upd := [(0, some (macV (.ptr 2 0) (wrA (atL la) (subI W o n)))), (2, some (.log (w ++ evW (atL la 42) (n : Int))))], C := [0 ≤ atL la 42 ∧ atL la 42 < 16, o + n ≤ W.length, n ≤ 131072, w.length < 900000000] }
    | _, _, _, _ => none
  | _, _ => none
theorem acc12l : Acc gw 12 F12l := by
  intro args B out h hC
  unfold F12l at h
  split at h
  · rename_i x ms K W w
    split at h
    · rename_i la o n ha hr hK hx
      obtain rfl := kidx_inj hK
      have hr := head_log2 hr
      simp only [Option.some.injEq] at h; subst h
      simp only [allC_cons, allC_nil, and_true] at hC
      obtain ⟨h1, h2, h3, h4⟩ := hC
      refine FnOk.argsH (args' := wlS o n) ?_ (fun w0 O ρ Φ w vs x d => by
        simp only [DenT] at d ⊢
        obtain ⟨v1, r1, rfl, d1, v2, r2, rfl, d2, rfl⟩ := d
        exact ⟨_, _, rfl, d1, _, _, rfl, vwI_den hx x rfl d2, rfl⟩)
      refine FnOk.preB (B' := wlB (atL la) W w) ?_ ⟨cells_mac ha hr rfl, ⟨BImp.refl _, fun _ h => by simp at h⟩, ⟨BImp.refl _, fun _ h => by simp at h⟩, trivial⟩ (fun j => by
        match j with
        | 0 => rfl
        | 1 => rfl
        | 2 => rfl
        | j + 3 => rfl)
      exact FnOk.val (C := []) (rd := []) (wl_acc o n (atL la) W w h1 h2 h3 h4) (fun _ _ _ _ h => h)
    · simp at h
  · simp at h
theorem tagl_1 (a : Nat → Int) (w : List (List Int)) : runF gw 300 [.br true] 13 [.ptr 0 0] [macV (.ptr 1 0) a, .log w] [] = some (.agg (svF (List.replicate 16 .u8) (sumN (L5 (plusN (byL a) (smL a) (tbL a))) (mkL a)) 0), [some (macV (.ptr 1 0) a), some (.log ((((w ++ [[1, bI (decide (0 < a 42))]]) ++ [[2, a 42]]) ++ [[3, 11]]) ++ [[3, 12]]))], [w.length < 1099511627776, decide (0 < a 42) = true, (a 42).toNat < 17, 0 ≤ a 42 ∧ a 42 < ((17 : Nat) : Int), (w ++ [[1, bI (decide (0 < a 42))]]).length < 1099511627776, (((w ++ [[1, bI (decide (0 < a 42))]]) ++ [[2, a 42]]) ++ [[3, 11]]).length < 1099511627776, ((w ++ [[1, bI (decide (0 < a 42))]]) ++ [[2, a 42]]).length < 1099511627776]) :=
  run_parts (by kernel_rfl) (by kernel_rfl) (by kernel_rfl)
theorem tagl_0 (a : Nat → Int) (w : List (List Int)) : runF gw 300 [.br false] 13 [.ptr 0 0] [macV (.ptr 1 0) a, .log w] [] = some (.agg (svF (List.replicate 16 .u8) (sumN (smL a) (mkL a)) 0), [some (macV (.ptr 1 0) a), some (.log (w ++ [[1, bI (decide (0 < a 42))]]))], [w.length < 1099511627776, decide (0 < a 42) = false]) :=
  run_parts (by kernel_rfl) (by kernel_rfl) (by kernel_rfl)
noncomputable abbrev nwW (k : Nat → Int) : Body := .cells (.ptr 0 0 :: (svF (List.replicate 5 .u64) (clampN (loK k)) 0 ++ (List.replicate 5 (.lit .u64 0) ++ (svF (List.replicate 16 .u8) (fun j => k (16 + j)) 0 ++ (List.replicate 16 (.lit .u8 0) ++ [.lit .i64 0])))))
theorem nwl_run (k : Nat → Int) (w : List (List Int)) : runF gp 300 [] 11 [.ptr 0 0, .agg (svF (List.replicate 32 .u8) k 0)] [.log w] [2] = some (.ptr 1 0, [some (.log w), some (nwW k)], []) := run_parts (by kernel_rfl) (by kernel_rfl) (by kernel_rfl)
end Go.Proofs.Ytejcjdhplpjpjaa

namespace Go.Proofs.Ytejcjdhplpjpjaa
open Go Go.Vx
noncomputable def F13l : SumF := fun args B => match args, B with
  | [.ptr 0 0], [.cells ms, .log w] => match macAs ms, headK (ms.take 1) with
    | some la, .log1 => some { val := .agg (svF (List.replicate 16 .u8) (tgN (atL la)) 0), upd := [(0, some (macV (.ptr 1 0) (atL la))), (1, some (.log (w ++ evT (atL la 42))))], C := [0 ≤ atL la 42 ∧ atL la 42 < 16, w.length < 1000000000] }
    | _, _ => none
  | _, _ => none
theorem acc13l : Acc gw 13 F13l := by
  intro args B out h hC
  unfold F13l at h
  split at h
  · rename_i ms w
    split at h
    · rename_i la ha hr
      have hr := head_log1 hr
      simp only [Option.some.injEq] at h; subst h
      simp only [allC_cons, allC_nil, and_true] at hC
      obtain ⟨h1, h2⟩ := hC
      refine FnOk.preB (B' := [macV (.ptr 1 0) (atL la), .log w]) ?_ ⟨cells_mac ha hr rfl, ⟨BImp.refl _, fun _ h => by simp at h⟩, trivial⟩ (fun j => by
        match j with
        | 0 => rfl
        | 1 => rfl
        | j + 2 => rfl)
      refine FnOk.val (C := []) (rd := []) ?_ (fun _ _ _ _ h => h)
      unfold tgN evT
      by_cases h0 : 0 < atL la 42
      · rw [if_pos h0, if_pos h0]
        have hr := tagl_1 (atL la) w
        rw [bI_t h0] at hr
        have e : (((w ++ [[1, (1 : Int)]]) ++ [[2, atL la 42]]) ++ [[3, 11]]) ++ [[3, 12]] = w ++ [[1, 1], [2, atL la 42], [3, 11], [3, 12]] := by
          simp only [List.append_assoc]; rfl
        rw [e] at hr
        exact FnOk.run (new := []) gw_ok hr (by
          simp only [allC_cons, allC_nil, and_true, List.length_append, List.length_cons, List.length_nil]
          exact ⟨by omega, decide_eq_true h0, by omega, ⟨by omega, by omega⟩, by omega, by omega, by omega⟩) (by simp [upto]) rfl (by simp) (by simp) (fun j hj => by
          match j, hj with
          | 0, _ => rfl
          | 1, _ => rfl)
      · rw [if_neg h0, if_neg h0]
        have hr := tagl_0 (atL la) w
        rw [bI_f h0] at hr
        exact FnOk.run (new := []) gw_ok hr (by simp only [allC_cons, allC_nil, and_true]; exact ⟨by omega, decide_eq_false h0⟩) (by simp [upto]) rfl (by simp) (by simp) (fun j hj => by
          match j, hj with
          | 0, _ => rfl
          | 1, _ => rfl)
    · simp at h
  · simp at h
noncomputable def F11l : SumF := fun args B => match args, B with
  | [.ptr 0 0, .agg ks], [.log w] => match numsAs (List.replicate 32 .u8) ks with
    | some lk => some { val := .ptr 1 0, new := [nwW (atL lk)] }
    | _ => none
  | _, _ => none
theorem acc11l : Acc gp 11 F11l := by
  intro args B out h hC
  unfold F11l at h
  split at h
  · rename_i ks w
    split at h
    · rename_i lk hk
      simp only [Option.some.injEq] at h; subst h
      refine FnOk.imp (args' := [.ptr 0 0, .agg (svF (List.replicate 32 .u8) (atL lk) 0)]) ?_ ⟨DenImp.refl _, nums_imp hk, trivial⟩
      exact FnOk.run (out := { val := .ptr 1 0, new := [nwW (atL lk)] }) (new := [2]) gp_ok (nwl_run (atL lk) w) (by simp [AllC]) (by simp [upto]) rfl (by simp) (by simp) (fun j hj => by
          match j, hj with
          | 0, _ => rfl
          | 1, _ => rfl)
    · simp at h
  · simp at h
end Go.Proofs.Ytejcjdhplpjpjaa

namespace Go.Proofs.Ytejcjdhplpjpjaa
open Go Go.Vx
/-! ### take with a Recorder, of a constant block -/
theorem take_r1 (a : Nat → Int) (vs : List Int) (w : List (List Int)) : runF gp 300 [] 38 [.ptr 0 0, .rop (.agg (roiL .u8 vs 16 0))] [macV (.ptr 1 0) a, .log w] [] =
    some (.tuple [], [some (macV (.ptr 1 0) (setS (plusN (byL a) (smL a) (tkS ((((listF 16 (atL vs) 0).drop 0).take 16).take 16))) a)), some (.log ((w ++ [[3, 11]]) ++ [[3, 12]]))], [Fits .i64 ((min ((((listF 16 (atL vs) 0).drop 0).take 16)).length 16 : Nat) : Int), 0 + ((((listF 16 (atL vs) 0).drop 0).take 16).take 16).length ≤ 17, (w ++ [[3, 11]]).length < 1099511627776, w.length < 1099511627776]) :=
  run_parts (by kernel_rfl) (by kernel_rfl) (by kernel_rfl)
noncomputable def F38r : SumF := fun args B => match args, B with
  | [.ptr 0 0, .rop (.agg cs)], [.cells ms, .log w] => match macAs ms, headK (ms.take 1), numsAs (List.replicate 16 .u8) cs with
    | some la, .log1, some lb => some { val := .tuple [], upd := [(0, some (macV (.ptr 1 0) (setS (plusN (byL (atL la)) (smL (atL la)) (lb ++ [1])) (atL la)))), (1, some (.log (w ++ [[3, 11], [3, 12]])))], C := [w.length < 1099511627770] }
    | _, _, _ => none
  | _, _ => none
theorem acc38r : Acc gp 38 F38r := by
  intro args B out h hC
  unfold F38r at h
  split at h
  · rename_i cs ms w
    split at h
    · rename_i la lb ha hr hb
      have hr := head_log1 hr
      simp only [Option.some.injEq] at h; subst h
      have hw : w.length < 1099511627770 := hC _ (by simp)
      have hl : lb.length = 16 := by have := (numsAs_len hb).1; simpa using this
      refine FnOk.imp (args' := [.ptr 0 0, .rop (.agg (roiL .u8 lb 16 0))]) ?_ ⟨DenImp.refl _, rop_imp hb, trivial⟩
      refine FnOk.preB (B' := [macV (.ptr 1 0) (atL la), .log w]) ?_ ⟨cells_mac ha hr rfl, ⟨BImp.refl _, fun _ h => by simp at h⟩, trivial⟩ (fun j => by
        match j with
        | 0 => rfl
        | 1 => rfl
        | j + 2 => rfl)
      have hr := take_r1 (atL la) lb w
      have e : (((listF 16 (atL lb) 0).drop 0).take 16).take 16 = lb := by
        rw [List.drop_zero, List.take_take, List.take_of_length_le (by rw [listF_length]; decide), ← hl, listF_atL]
      have e2 : ((listF 16 (atL lb) 0).drop 0).take 16 = lb := by
        rw [List.drop_zero, List.take_of_length_le (by rw [listF_length]; decide), ← hl, listF_atL]
      rw [e, e2, tkS_eq hl, List.append_assoc] at hr
      exact FnOk.val (FnOk.run (out := { val := .tuple [], upd := [(0, some (macV (.ptr 1 0) (setS (plusN (byL (atL la)) (smL (atL la)) (lb ++ [1])) (atL la)))), (1, some (.log (w ++ [[3, 11], [3, 12]])))] }) (new := []) gp_ok hr (by
        simp only [allC_cons, allC_nil, and_true, List.length_append, List.length_cons, List.length_nil]
        rw [hl]
        exact ⟨fits_of (by decide) (by decide), by decide, by omega, by omega⟩) (by simp [upto]) rfl (by simp) (by simp) (fun j hj => by
        match j, hj with
        | 0, _ => rfl
        | 1, _ => rfl)) (fun _ _ _ _ h => h)
    · simp at h
  · simp at h
noncomputable abbrev gwr : Ctx := gw.add [(38, oneOf F38 F38r)]
theorem gwr_ok : CtxU gwr := gw_ok.add mixed noGo (by
  intro x hx
  simp only [List.mem_cons, List.not_mem_nil, or_false] at hx
  rcases hx with rfl
  exact Acc.of (g := gp) rfl rfl (acc_one acc38 acc38r))
/-! ### Write with a Recorder, of a constant piece: whole blocks -/
noncomputable abbrev rlB (a : Nat → Int) (w : List (List Int)) : List Body := [macV (.ptr 1 0) a, .log w]
theorem rl_go (l : List Int) (a : Nat → Int) (w : List (List Int)) : runC gwr 300 102 [.br true] wrBody (wrKeep.zip [.ptr 0 0, .roi .u8 l]) (rlB a w) wrKeep [0, 1] =
    some (.normal, [.ptr 0 0, .roi .u8 ((l.drop 16).take (l.length - 16))], (rlB (tkA a (lbR l)) ((w ++ [[1, bI (decide ((16 : Int) ≤ (l.length : Int)))]]) ++ [[3, 11], [3, 12]])).map some,
      [w.length < 1099511627776, Fits .i64 (l.length : Int), decide ((16 : Int) ≤ (l.length : Int)) = true, (w ++ [[1, bI (decide ((16 : Int) ≤ (l.length : Int)))]]).length < 1099511627770, 16 ≤ ((l.drop 0).take 16).length, (0 : Int) ≤ 0 ∧ (0 : Int) ≤ 16 ∧ (16 : Int) ≤ (l.length : Int), (0 : Int) ≤ 16 ∧ (16 : Int) ≤ (l.length : Int) ∧ (l.length : Int) ≤ (l.length : Int)]) :=
  r3_parts4 (by kernel_rfl) (by kernel_rfl) (by kernel_rfl) (by kernel_rfl)
theorem rl_end (l : List Int) (a : Nat → Int) (w : List (List Int)) : runC gwr 300 102 [.br false] wrBody (wrKeep.zip [.ptr 0 0, .roi .u8 l]) (rlB a w) wrKeep [0, 1] =
    some (.exit 0, [.ptr 0 0, .roi .u8 l], (rlB a (w ++ [[1, bI (decide ((16 : Int) ≤ (l.length : Int)))]])).map some, [w.length < 1099511627776, Fits .i64 (l.length : Int), decide ((16 : Int) ≤ (l.length : Int)) = false]) :=
  r3_parts4 (by kernel_rfl) (by kernel_rfl) (by kernel_rfl) (by kernel_rfl)
noncomputable def rlG : LoopF := fun vals B => match vals, B with
  | [.ptr 0 0, .roi K l], [.cells ms, .log w] => match macAs ms, headK (ms.take 1), sameK K .u8 with
    | some la, .log1, true => some ([(0, .ptr 0 0), (1, .roi .u8 (l.drop (16 * (l.length / 16))))], rlB (lpA (atL la) l (l.length / 16)) (evB w (l.length / 16) ++ [[1, 0]]), [l.length ≤ 131072, w.length < 1000000000])
    | _, _, _ => none
  | _, _ => none
theorem idR : ∀ j : Nat, j < 2 → ([0, 1] : List Nat)[j]? = some j := fun j hj => by
  match j, hj with
  | 0, _ => rfl
  | 1, _ => rfl
theorem rl_loop : LoopGood gwr 102 (.loop wrBody) wrKeep 2 (.exit 0) (mkLoopN rlG) := by
  refine LoopGood.mkN (by decide) fun vals B S' B' C hG hC hlen w0 O hgl => ?_
  clear hlen
  unfold rlG at hG
  split at hG
  · rename_i K l ms w
    split at hG
    · rename_i la ha hr hK
      obtain rfl := kidx_inj hK
      have hr := head_log1 hr
      simp only [Option.some.injEq, Prod.mk.injEq] at hG
      obtain ⟨rfl, rfl, rfl⟩ := hG
      simp only [allC_cons, allC_nil, and_true] at hC
      obtain ⟨h2, h3⟩ := hC
      refine SimC.preI (B1 := rlB (atL la) w) ?_ ⟨cells_mac ha hr rfl, ⟨BImp.refl _, fun _ h => by simp at h⟩, trivial⟩
      show SimC _ _ _ _ _ (lpS0 l 0) (rlB (lpA (atL la) l 0) (evB w 0)) _ _ _ _
      refine SimC.iter (g := gwr) (e := .exit 0) (S := fun i => lpS0 l i) (B := fun i => rlB (lpA (atL la) l i) (evB w i)) (N := l.length / 16) (fun i hi => ?_) ?_ (by simp) 0 (by omega)
      · have hd : (l.drop (16 * i)).length = l.length - 16 * i := by rw [List.length_drop]
        have h16 : 16 ≤ (l.drop (16 * i)).length := by omega
        have hr := rl_go (l.drop (16 * i)) (lpA (atL la) l i) (evB w i)
        have hb := evB_len w i
        have e1 : bI (decide ((16 : Int) ≤ ((l.drop (16 * i)).length : Int))) = 1 := bI_t (by omega)
        have e : (((l.drop (16 * i)).drop 16).take ((l.drop (16 * i)).length - 16)) = l.drop (16 * (i + 1)) := by
          rw [List.drop_drop, hd, List.take_of_length_le (by rw [List.length_drop]; omega), show 16 * i + 16 = 16 * (i + 1) by omega]
        rw [e1, e, lbR_eq h16] at hr
        refine SimC.run (B' := rlB (lpA (atL la) l (i + 1)) (evB w (i + 1))) gwr_ok (by decide) hr ?_ (by decide) idR (by decide) (by simp) hgl
        simp only [allC_cons, allC_nil, and_true, List.length_append, List.length_cons, List.length_nil]
        exact ⟨by omega, fits_of (by omega) (by omega), decide_eq_true (by omega), by omega, by rw [List.drop_zero, List.length_take]; omega, ⟨by omega, by omega, by omega⟩, ⟨by omega, by omega, by omega⟩⟩
      · have hd : (l.drop (16 * (l.length / 16))).length = l.length - 16 * (l.length / 16) := by rw [List.length_drop]
        have hr := rl_end (l.drop (16 * (l.length / 16))) (lpA (atL la) l (l.length / 16)) (evB w (l.length / 16))
        have hb := evB_len w (l.length / 16)
        have e1 : bI (decide ((16 : Int) ≤ ((l.drop (16 * (l.length / 16))).length : Int))) = 0 := bI_f (by omega)
        rw [e1] at hr
        exact SimC.weaken (SimC.run (B' := rlB (lpA (atL la) l (l.length / 16)) (evB w (l.length / 16) ++ [[1, 0]])) gwr_ok (by decide) hr (by simp only [allC_cons, allC_nil, and_true]; exact ⟨by omega, fits_of (by omega) (by omega), decide_eq_false (by omega)⟩) (by decide) idR (by decide) (by simp) hgl) (sub_mkT (by simp; exact ⟨rfl, rfl⟩))
    · simp at hG
  · simp at hG
/-! ### the runs -/
noncomputable abbrev rlPl : Plan := .loop 8 wrKeep 2 (.exit 0) (mkLoopN rlG)
noncomputable abbrev LGr : Prop := LoopGood gwr 102 (.loop wrBody) wrKeep 2 (.exit 0) (mkLoopN rlG)
abbrev evR (w : List (List Int)) (l : List Int) : List (List Int) := (evB w (l.length / 16) ++ [[1, 0]]) ++ [[1, bI (decide (0 < ((rsL l).length : Int)))]]
noncomputable abbrev CrL (l : List Int) (w : List (List Int)) (b : Bool) : List Prop := [LGr, l.length ≤ 131072, w.length < 1000000000, (evB w (l.length / 16) ++ [[1, 0]]).length < 1099511627776, Fits .i64 ((rsL l).length : Int), decide (0 < ((rsL l).length : Int)) = b]
abbrev rl3 (a : Nat → Int) (l : List Int) (w : List (List Int)) : List (List Int) := (w1L a w ++ [[2, a 42]]) ++ [[2, kN a l]]
abbrev rl4 (a : Nat → Int) (l : List Int) (w : List (List Int)) : List (List Int) := rl3 a l w ++ [[1, bI (decide (a 42 + kN a l = 16))]]
abbrev CrH (a : Nat → Int) (l : List Int) (w : List (List Int)) (b : Bool) : List Prop := [w.length < 1099511627776, C0 a true, Fits .i64 (kN a l), (a 42).toNat + (l.take (16 - (a 42).toNat)).length ≤ 16, 0 ≤ a 42 ∧ a 42 ≤ ((16 : Nat) : Int) ∧ ((16 : Nat) : Int) ≤ ((16 : Nat) : Int), (w1L a w).length < 1099511627776, 0 ≤ kN a l ∧ kN a l ≤ (l.length : Int) ∧ (l.length : Int) ≤ (l.length : Int), (w1L a w ++ [[2, a 42]]).length < 1099511627776, Fits .i64 (a 42 + kN a l), (rl3 a l w).length < 1099511627776, decide (a 42 + kN a l = 16) = b]
theorem rl00 (a : Nat → Int) (l : List Int) (w : List (List Int)) : runF gwr 400 [.br false, rlPl, .br false] 12 [.ptr 0 0, .roi .u8 l] (rlB a w) [] =
    some (.tuple [], (rlB (lpE a l) (evR (w1L a w) l)).map some, [w.length < 1099511627776, C0 a false] ++ CrL l (w1L a w) false) :=
  run_parts (by kernel_rfl) (by kernel_rfl) (by kernel_rfl)
theorem rl01 (a : Nat → Int) (l : List Int) (w : List (List Int)) : runF gwr 400 [.br false, rlPl, .br true] 12 [.ptr 0 0, .roi .u8 l] (rlB a w) [] =
    some (.tuple [], (rlB (tlE a l) (evR (w1L a w) l)).map some, [w.length < 1099511627776, C0 a false] ++ (CrL l (w1L a w) true ++ Ctl l)) :=
  run_parts (by kernel_rfl) (by kernel_rfl) (by kernel_rfl)
theorem rln0 (a : Nat → Int) (l : List Int) (w : List (List Int)) : runF gwr 400 [.br true, .br false, rlPl, .br false] 12 [.ptr 0 0, .roi .u8 l] (rlB a w) [] =
    some (.tuple [], (rlB (lpE (ovA a l) (l1 a l)) (evR (rl4 a l w) (l1 a l))).map some, CrH a l w false ++ CrL (l1 a l) (rl4 a l w) false) :=
  run_parts (by kernel_rfl) (by kernel_rfl) (by kernel_rfl)
theorem rle0 (a : Nat → Int) (l : List Int) (w : List (List Int)) : runF gwr 400 [.br true, .br true, rlPl, .br false] 12 [.ptr 0 0, .roi .u8 l] (rlB a w) [] =
    some (.tuple [], (rlB (lpE (eqA a l) (l1 a l)) (evR (rl4 a l w ++ [[3, 11], [3, 12]]) (l1 a l))).map some, CrH a l w true ++ (((rl4 a l w).length < 1099511627770) :: CrL (l1 a l) (rl4 a l w ++ [[3, 11], [3, 12]]) false)) :=
  run_parts (by kernel_rfl) (by kernel_rfl) (by kernel_rfl)
theorem rle1 (a : Nat → Int) (l : List Int) (w : List (List Int)) : runF gwr 400 [.br true, .br true, rlPl, .br true] 12 [.ptr 0 0, .roi .u8 l] (rlB a w) [] =
    some (.tuple [], (rlB (tlE (eqA a l) (l1 a l)) (evR (rl4 a l w ++ [[3, 11], [3, 12]]) (l1 a l))).map some, CrH a l w true ++ (((rl4 a l w).length < 1099511627770) :: (CrL (l1 a l) (rl4 a l w ++ [[3, 11], [3, 12]]) true ++ Ctl (l1 a l)))) :=
  run_parts (by kernel_rfl) (by kernel_rfl) (by kernel_rfl)
/-! ### the account -/
theorem evR_eq (w l0 : List (List Int)) (l : List Int) : evR (w ++ l0) l = w ++ evE l0 (l.length : Int) := by
  show (evB (w ++ l0) (l.length / 16) ++ [[1, 0]]) ++ [[1, bI (decide (0 < ((rsL l).length : Int)))]] = w ++ (evB l0 ((l.length : Int).toNat / 16) ++ [[1, bI false], [1, bI (decide (0 < rI (l.length : Int)))]])
  have e : ((rsL l).length : Int) = rI (l.length : Int) := by
    rw [rI_nat, rs_len]
    show ((l.length % 16 : Nat) : Int) = ((l.length - 16 * (l.length / 16) : Nat) : Int)
    omega
  rw [evB_app, Int.toNat_natCast, e]
  simp only [List.append_assoc]
  rfl
theorem rl_acc (a : Nat → Int) (l : List Int) (w : List (List Int)) (h1 : 0 ≤ a 42 ∧ a 42 < 16) (h3 : l.length ≤ 131072) (h4 : w.length < 900000000) :
    FnOk gwr 12 [.ptr 0 0, .roi .u8 l] (rlB a w) { val := .tuple [], upd := [(0, some (macV (.ptr 1 0) (wrA a l))), (1, some (.log (w ++ evW (a 42) (l.length : Int))))] } := by
  have hL : LGr := rl_loop
  have fin : ∀ {pl C} {v : Nat → Int} {w' : List (List Int)}, runF gwr 400 pl 12 [.ptr 0 0, .roi .u8 l] (rlB a w) [] = some (.tuple [], (rlB v w').map some, C) → AllC C → FnOk gwr 12 [.ptr 0 0, .roi .u8 l] (rlB a w) { val := .tuple [], upd := [(0, some (macV (.ptr 1 0) v)), (1, some (.log w'))] } := fun hr hC =>
    FnOk.run (new := []) gwr_ok hr hC (by simp [upto]) rfl (by simp) (by simp) (fun j hj => by
      match j, hj with
      | 0, _ => rfl
      | 1, _ => rfl)
  have rest : ∀ (w' : List (List Int)) (l : List Int), l.length ≤ 131072 → w'.length < 900000010 → ∀ b, decide (0 < ((rsL l).length : Int)) = b → AllC (CrL l w' b) := fun w' l q2 q3 b hb => by
    have := evB_len w' (l.length / 16)
    have hz := rs_len l
    simp only [CrL, allC_cons, allC_nil, and_true, List.length_append, List.length_cons, List.length_nil]
    exact ⟨hL, q2, by omega, by omega, fits_of (by omega) (by omega), hb⟩
  have tl : ∀ l : List Int, AllC (Ctl l) := fun l => by
    have h5 := Nat.min_le_right (rsL l).length 16
    have h6 : ((rsL l).take 16).length ≤ 16 := by rw [List.length_take]; exact Nat.min_le_left _ _
    simp only [Ctl, allC_cons, allC_nil, and_true]
    exact ⟨fits_of (by omega) (by omega), by omega⟩
  have kk' := kN_le a l
  have kl : (l1 a l).length = l.length - (kN a l).toNat := by rw [l1, List.length_take, List.length_drop]; omega
  have w1l : (w1L a w).length = w.length + 1 := by simp
  have w4l : (rl4 a l w).length = w.length + 4 := by simp
  have hh : ∀ b, decide (a 42 + kN a l = 16) = b → 0 < a 42 → AllC (CrH a l w b) := fun b hb h0 => by
    have h5 : (l.take (16 - (a 42).toNat)).length ≤ 16 - (a 42).toNat := by rw [List.length_take]; exact Nat.min_le_left _ _
    simp only [CrH, allC_cons, allC_nil, and_true]
    refine ⟨by omega, decide_eq_true h0, fits_of (by omega) (by omega), by omega, ⟨by omega, by omega, by omega⟩, by omega, ⟨by omega, by omega, by omega⟩, ?_, fits_of (by omega) (by omega), ?_, hb⟩
    · simp; omega
    · simp; omega
  unfold wrA evW
  by_cases h0 : 0 < a 42
  · rw [if_pos h0, if_pos h0]
    have q2 : (l1 a l).length ≤ 131072 := by omega
    have e4 : ∀ c, bI (decide (a 42 + kN a l = 16)) = c → rl4 a l w = w ++ [[1, 1], [2, a 42], [2, kN a l], [1, c]] := fun c hc => by
      show (((w ++ [[1, bI (decide (0 < a 42))]]) ++ [[2, a 42]]) ++ [[2, kN a l]]) ++ [[1, bI (decide (a 42 + kN a l = 16))]] = _
      rw [bI_t h0, hc]
      simp only [List.append_assoc]; rfl
    by_cases h16 : a 42 + kN a l = 16
    · rw [if_pos h16]
      have hk : kN a l = 16 - a 42 := by omega
      have hn : ¬ (l.length : Int) < 16 - a 42 := by omega
      rw [if_neg hn]
      have en : ((l1 a l).length : Int) = (l.length : Int) - (16 - a 42) := by omega
      have eL : evR (rl4 a l w ++ [[3, 11], [3, 12]]) (l1 a l) = w ++ evE [[1, 1], [2, a 42], [2, 16 - a 42], [1, 1], [3, 11], [3, 12]] ((l.length : Int) - (16 - a 42)) := by
        rw [e4 1 (bI_t h16), List.append_assoc, evR_eq, en, hk]
        rfl
      have w5l : (rl4 a l w ++ [[3, 11], [3, 12]]).length = w.length + 6 := by simp
      by_cases hr : 0 < (rsL (l1 a l)).length
      · rw [if_pos hr]
        have hx := rle1 a l w
        rw [eL] at hx
        exact fin hx (allC_append.2 ⟨hh _ (decide_eq_true h16) h0, allC_cons.2 ⟨by omega, allC_append.2 ⟨rest _ _ q2 (by omega) _ (decide_eq_true (by omega)), tl _⟩⟩⟩)
      · rw [if_neg hr]
        have hx := rle0 a l w
        rw [eL] at hx
        exact fin hx (allC_append.2 ⟨hh _ (decide_eq_true h16) h0, allC_cons.2 ⟨by omega, rest _ _ q2 (by omega) _ (decide_eq_false (by omega))⟩⟩)
    · rw [if_neg h16]
      have e16 : kN a l = (l.length : Int) ∨ kN a l = ((16 - (a 42).toNat : Nat) : Int) := by
        have : min l.length (16 - (a 42).toNat) = l.length ∨ min l.length (16 - (a 42).toNat) = 16 - (a 42).toNat := by omega
        rcases this with h | h
        · left; show ((min l.length (16 - (a 42).toNat) : Nat) : Int) = _; rw [h]
        · right; show ((min l.length (16 - (a 42).toNat) : Nat) : Int) = _; rw [h]
      have hk : kN a l = (l.length : Int) := by omega
      have hn : (l.length : Int) < 16 - a 42 := by omega
      rw [if_pos hn]
      have en : (l1 a l).length = 0 := by omega
      have eL : evR (rl4 a l w) (l1 a l) = w ++ evE [[1, 1], [2, a 42], [2, (l.length : Int)], [1, 0]] 0 := by
        rw [e4 0 (bI_f h16), evR_eq, en, hk]
        rfl
      have hx := rln0 a l w
      rw [eL] at hx
      have hz := rs_len (l1 a l)
      exact fin hx (allC_append.2 ⟨hh _ (decide_eq_false h16) h0, rest _ _ q2 (by omega) _ (decide_eq_false (by omega))⟩)
  · rw [if_neg h0, if_neg h0]
    have eL : evR (w1L a w) l = w ++ evE [[1, 0]] (l.length : Int) := by
      show evR (w ++ [[1, bI (decide (0 < a 42))]]) l = _
      rw [bI_f h0, evR_eq]
    by_cases hr : 0 < (rsL l).length
    · rw [if_pos hr]
      have hx := rl01 a l w
      rw [eL] at hx
      exact fin hx (allC_append.2 ⟨allC_cons.2 ⟨by omega, allC_cons.2 ⟨decide_eq_false h0, by simp [AllC]⟩⟩, allC_append.2 ⟨rest _ _ h3 (by omega) _ (decide_eq_true (by omega)), tl _⟩⟩)
    · rw [if_neg hr]
      have hx := rl00 a l w
      rw [eL] at hx
      exact fin hx (allC_append.2 ⟨allC_cons.2 ⟨by omega, allC_cons.2 ⟨decide_eq_false h0, by simp [AllC]⟩⟩, rest _ _ h3 (by omega) _ (decide_eq_false (by omega))⟩)
noncomputable def F12r : SumF := fun args B => match args, B with
  | [.ptr 0 0, .roi K l], [.cells ms, .log w] => match macAs ms, headK (ms.take 1), sameK K .u8 with
    | some la, .log1, true => some { val := .tuple [], upd := [(0, some (macV (.ptr 1 0) (wrA (atL la) l))), (1, some (.log (w ++ evW (atL la 42) (l.length : Int))))], C := [0 ≤ atL la 42 ∧ atL la 42 < 16, l.length ≤ 131072, w.length < 900000000] }
    | _, _, _ => none
  | _, _ => none
theorem acc12r : Acc gwr 12 F12r := by
  intro args B out h hC
  unfold F12r at h
  split at h
  · rename_i K l ms w
    split at h
    · rename_i la ha hr hK
      obtain rfl := kidx_inj hK
      have hr := head_log1 hr
      simp only [Option.some.injEq] at h; subst h
      simp only [allC_cons, allC_nil, and_true] at hC
      obtain ⟨h1, h3, h4⟩ := hC
      refine FnOk.preB (B' := rlB (atL la) w) ?_ ⟨cells_mac ha hr rfl, ⟨BImp.refl _, fun _ h => by simp at h⟩, trivial⟩ (fun j => by
        match j with
        | 0 => rfl
        | 1 => rfl
        | j + 2 => rfl)
      exact FnOk.val (C := []) (rd := []) (rl_acc (atL la) l w h1 h3 h4) (fun _ _ _ _ h => h)
    · simp at h
  · simp at h
end Go.Proofs.Ytejcjdhplpjpjaa
