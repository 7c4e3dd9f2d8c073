/- Accounts of this seat's functions: lemmas, no statement of their own. No conditions. -/
import Derived.Test.YtghdadkpbofbbaaTXd
namespace Go.Proofs.Ytghdadkpbofbbaa
open Go Go.Vx
/-! ### FieldGrows -/
abbrev giKeep : List Nat := [1, 2, 7, 9, 10]
noncomputable abbrev giBody : Code := bodyAt Try.prog 3 10
noncomputable abbrev giO (f : Nat → SV) (m : Nat) (T k i : Int) : List SV := [.ro 38 m f, .int .i64 T, .ptr 0 0, .int .i64 k, .int .i64 i]
noncomputable abbrev giS (f : Nat → SV) (m : Nat) (T k : Int) (i : Nat) : List (Nat × SV) := giKeep.zip (giO f m T k (i : Int))
noncomputable abbrev giB (e n : Nat → Int) (l : List (List Int)) : List Body := [bkV e n 1, .rows [.i64, .i64] l]
theorem gi_go (a : Nat → Nat → Int) (m i : Nat) (T k : Int) (e n : Nat → Int) (l : List (List Int)) : runC gQ 300 54 [.br true, .br true] giBody (giS (rowsF a) m T k i) (giB e n l) giKeep [0, 2] =
    some (.normal, giO (rowsF a) m T k ((i : Int) + 1), (giB (scE (rX a i) (n40 e)) (scN (rX a i) (n128 n)) (l ++ scL (rX a i))).map some, [decide ((i : Int) < (m : Int)) = true, Fits .i64 (m : Int), decide ((i : Int) < 60) = true, Inv (n40 e) (n128 n), l.length < 1000000, (0 : Int) ≤ (i : Int) ∧ (i : Int) < (m : Int), Fits .i64 ((i : Int) + 1)]) :=
  r3_parts4 (by kernel_rfl) (by kernel_rfl) (by kernel_rfl) (by kernel_rfl)
theorem gi_end (f : Nat → SV) (m i : Nat) (T k : Int) (e n : Nat → Int) (l : List (List Int)) : runC gQ 300 54 [.br false] giBody (giS f m T k i) (giB e n l) giKeep [0, 1] =
    some (.exit 4, giO f m T k (i : Int), (giB e n l).map some, [decide ((i : Int) < (m : Int)) = false, Fits .i64 (m : Int)]) :=
  r3_parts4 (by kernel_rfl) (by kernel_rfl) (by kernel_rfl) (by kernel_rfl)
theorem gi_most (f : Nat → SV) (m i : Nat) (T k : Int) (e n : Nat → Int) (l : List (List Int)) : runC gQ 300 54 [.br true, .br false] giBody (giS f m T k i) (giB e n l) giKeep [0, 1] =
    some (.exit 4, giO f m T k (i : Int), (giB e n l).map some, [decide ((i : Int) < (m : Int)) = true, Fits .i64 (m : Int), decide ((i : Int) < 60) = false]) :=
  r3_parts4 (by kernel_rfl) (by kernel_rfl) (by kernel_rfl) (by kernel_rfl)
noncomputable def giG : LoopF := fun vals B => match vals, B with
  | [.ro 38 m f, .int .i64 T, .ptr 0 0, .int .i64 k, .int .i64 0], [.cells cs, .rows K l] => match bankAs cs, cs.drop 168, sameKs K [.i64, .i64] with
    | some (le, ln), [.own 1], true => some ([(1, .ro 38 m f), (2, .int .i64 T), (7, .ptr 0 0), (9, .int .i64 k)], giB (eZ (aOf f) (atL le) (min m 60)) (nZ (aOf f) (atL ln) (min m 60)) (lZ (aOf f) l (min m 60)), [f = rowsF (aOf f), Fits .i64 (m : Int), ∀ i, i < m → factsC (f i), Inv (atL le) (atL ln), l.length < 100000])
    | _, _, _ => none
  | _, _ => none
theorem ids_0 (k : Nat) : ∀ j : Nat, j < 1 → ([0, k] : List Nat)[j]? = some j := fun j hj => by
  match j, hj with
  | 0, _ => rfl
theorem gi_loop : LoopGood gQ 54 (.loop giBody) giKeep 1 (.exit 4) (mkLoopN giG) := by
  refine LoopGood.mkN (by decide) fun vals B S' B' C hG hC hlen w0 O hgl => ?_
  clear hlen
  unfold giG at hG
  split at hG
  · rename_i m f T k cs K l
    split at hG
    · rename_i le ln hb hd hK
      obtain rfl := sameKs_eq hK
      simp only [Option.some.injEq, Prod.mk.injEq] at hG
      obtain ⟨rfl, rfl, rfl⟩ := hG
      simp only [allC_cons, allC_nil, and_true] at hC
      obtain ⟨hf, Fm, hr, hI, hl0⟩ := hC
      have R := rows_ok hf hr
      generalize ha : aOf f = a at *
      rw [hf]
      clear hf hr ha
      refine SimC.preI (B1 := giB (atL le) (atL ln) l) ?_ ⟨cells_bank hb hd rfl, ⟨BImp.refl _, fun _ h => by simp at h⟩, trivial⟩
      show SimC _ _ _ _ _ (giS (rowsF a) m T k 0) (giB (eZ a (atL le) 0) (nZ a (atL ln) 0) (lZ a l 0)) _ _ _ _
      have hNm : min m 60 ≤ m := Nat.min_le_left _ _
      have hN4 : min m 60 ≤ 60 := Nat.min_le_right _ _
      have hIz := Inv_Z R hI
      refine SimC.iter (g := gQ) (e := .exit 4) (S := fun i => giS (rowsF a) m T k i) (B := fun i => giB (eZ a (atL le) i) (nZ a (atL ln) i) (lZ a l i)) (N := min m 60) (fun i hi => ?_) ?_ (by simp) 0 (by omega)
      · have F1 : Fits .i64 ((i : Int) + 1) := fits_of (by omega) (by omega)
        have hl := lZ_len a l i
        refine SimC.run (B' := giB (eZ a (atL le) (i + 1)) (nZ a (atL ln) (i + 1)) (lZ a l (i + 1))) gQ_ok (by decide) (gi_go a m i T k _ _ _) ?_ (by decide) (ids_0 2) (by decide) (by simp) hgl
        simp only [allC_cons, allC_nil, and_true]
        exact ⟨decide_eq_true (by omega), Fm, decide_eq_true (by omega), Inv_n.2 (hIz i (by omega)), by omega, ⟨by omega, by omega⟩, F1⟩
      · by_cases h4 : m ≤ 60
        · rw [Nat.min_eq_left h4]
          exact SimC.weaken (SimC.run (B' := giB (eZ a (atL le) m) (nZ a (atL ln) m) (lZ a l m)) gQ_ok (by decide) (gi_end _ m m T k _ _ _) (by simp only [allC_cons, allC_nil, and_true]; exact ⟨decide_eq_false (by omega), Fm⟩) (by decide) (ids_0 1) (by decide) (by simp) hgl) (sub_mkT (by simp; exact ⟨rfl, rfl, rfl, rfl⟩))
        · rw [Nat.min_eq_right (by omega)]
          exact SimC.weaken (SimC.run (B' := giB (eZ a (atL le) 60) (nZ a (atL ln) 60) (lZ a l 60)) gQ_ok (by decide) (gi_most _ m 60 T k _ _ _) (by simp only [allC_cons, allC_nil, and_true]; exact ⟨decide_eq_true (by omega), Fm, decide_eq_false (by omega)⟩) (by decide) (ids_0 1) (by decide) (by simp) hgl) (sub_mkT (by simp; exact ⟨rfl, rfl, rfl, rfl⟩))
    · simp at hG
  · simp at hG
/-! the rounds -/
abbrev goKeep : List Nat := [1, 2, 7, 9]
noncomputable abbrev goBody : Code := bodyAt Try.prog 3 7
noncomputable abbrev goO (f : Nat → SV) (m : Nat) (T k : Int) : List SV := [.ro 38 m f, .int .i64 T, .ptr 0 0, .int .i64 k]
noncomputable abbrev goS (f : Nat → SV) (m : Nat) (T : Int) (k : Nat) : List (Nat × SV) := goKeep.zip (goO f m T (k : Int))
end Go.Proofs.Ytghdadkpbofbbaa
