/- Accounts of this seat's functions: lemmas, no statement of their own. No conditions. -/
import Derived.Test.YtghdadkpbofbbaaTXb
namespace Go.Proofs.Ytghdadkpbofbbaa
open Go Go.Vx
/-! ### two lists of events that are one -/
abbrev leKeep : List Nat := [0, 1, 5]
noncomputable abbrev leBody : Code := bodyAt Try.prog 27 4
abbrev leS (i : Nat) : List (Nat × SV) := leKeep.zip [.own 0, .own 1, .int .i64 (i : Int)]
noncomputable abbrev leB (l : List (List Int)) : List Body := [.rows [.i64, .i64] l, .rows [.i64, .i64] l]
theorem le_go (i : Nat) (l : List (List Int)) : runC gP 200 26 [.br true, .br false] leBody (leS i) (leB l) leKeep [0, 1] =
    some (.normal, [.own 0, .own 1, .int .i64 ((i : Int) + 1)], (leB l).map some, [Fits .i64 (l.length : Int), decide ((i : Int) < (l.length : Int)) = true, i < l.length, i < l.length, (0 : Int) ≤ (i : Int) ∧ (i : Int) < (l.length : Int), i < l.length, i < l.length, (0 : Int) ≤ (i : Int) ∧ (i : Int) < (l.length : Int),
      (!decide ([(l.getD i []).getD 0 0, (l.getD i []).getD 1 0] = [(l.getD i []).getD 0 0, (l.getD i []).getD 1 0])) = false, Fits .i64 ((i : Int) + 1)]) :=
  r3_parts4 (by kernel_rfl) (by kernel_rfl) (by kernel_rfl) (by kernel_rfl)
theorem le_end (i : Nat) (l : List (List Int)) : runC gP 200 26 [.br false] leBody (leS i) (leB l) leKeep [0, 1] =
    some (.exit 0, [.own 0, .own 1, .int .i64 (i : Int)], (leB l).map some, [Fits .i64 (l.length : Int), decide ((i : Int) < (l.length : Int)) = false]) :=
  r3_parts4 (by kernel_rfl) (by kernel_rfl) (by kernel_rfl) (by kernel_rfl)
def leG : LoopF := fun vals B => match vals, B with
  | [.own 0, .own 1, .int .i64 0], [.rows K la, .rows K2 lb] => match sameKs K [.i64, .i64], sameKs K2 [.i64, .i64] with
    | true, true => some ([], [.rows [.i64, .i64] la, .rows [.i64, .i64] lb], [la = lb, la.length ≤ 140737488355328])
    | _, _ => none
  | _, _ => none
theorem le_loop : LoopGood gP 26 (.loop leBody) leKeep 2 (.exit 0) (mkLoopN leG) := by
  refine LoopGood.mkN (by decide) fun vals B S' B' C hG hC hlen w0 O hgl => ?_
  clear hlen
  unfold leG at hG
  split at hG
  · rename_i K la K2 lb
    split at hG
    · rename_i hK hK2
      obtain rfl := sameKs_eq hK
      obtain rfl := sameKs_eq hK2
      simp only [Option.some.injEq, Prod.mk.injEq] at hG
      obtain ⟨rfl, rfl, rfl⟩ := hG
      simp only [allC_cons, allC_nil, and_true] at hC
      obtain ⟨rfl, h3⟩ := hC
      have j2 : ∀ j : Nat, j < 2 → ([0, 1] : List Nat)[j]? = some j := fun j hj => by
        match j, hj with
        | 0, _ => rfl
        | 1, _ => rfl
      have F1 : Fits .i64 (la.length : Int) := fits_small h3
      refine SimC.iter (g := gP) (S := fun i => leS i) (B := fun _ => leB la) (N := la.length) (fun i hi => ?_) ?_ (by simp) 0 (by omega)
      · have F4 : Fits .i64 ((i : Int) + 1) := fits_of (by omega) (by omega)
        have q : (!decide ([(la.getD i []).getD 0 0, (la.getD i []).getD 1 0] = [(la.getD i []).getD 0 0, (la.getD i []).getD 1 0])) = false := by simp
        exact SimC.run (B' := leB la) gP_ok (by decide) (le_go i la) (by (simp only [allC_cons, allC_nil, and_true]; repeat' (with_reducible (first | refine And.intro ?_ ?_ | exact True.intro | assumption | omega | exact decide_eq_true (by first | assumption | omega) | exact decide_eq_false (by first | assumption | omega) | rfl | (simp; done))))) (by decide) j2 (by decide) (by simp) hgl
      · exact SimC.weaken (SimC.run (B' := leB la) gP_ok (by decide) (le_end la.length la) (by (simp only [allC_cons, allC_nil, and_true]; repeat' (with_reducible (first | refine And.intro ?_ ?_ | exact True.intro | assumption | omega | exact decide_eq_true (by first | assumption | omega) | exact decide_eq_false (by first | assumption | omega) | rfl | (simp; done))))) (by decide) j2 (by decide) (by simp) hgl) (fun t => .inr (by simp [mkT, tget, Tr.get_lf]))
    · simp at hG
  · simp at hG
theorem ev_run (la lb : List (List Int)) : runF gP 200 [.br false, .loop 4 leKeep 2 (.exit 0) (mkLoopN leG)] 27 [.own 0, .own 1] [.rows [.i64, .i64] la, .rows [.i64, .i64] lb] [] =
    some (.bool true, [some (.rows [.i64, .i64] la), some (.rows [.i64, .i64] lb)], [Fits .i64 (lb.length : Int), Fits .i64 (la.length : Int), (!decide ((la.length : Int) = (lb.length : Int))) = false, LoopGood gP 26 (.loop leBody) leKeep 2 (.exit 0) (mkLoopN leG), la = lb, la.length ≤ 140737488355328]) :=
  run_parts (by kernel_rfl) (by kernel_rfl) (by kernel_rfl)
def F27 : SumF := fun args B => match args, B with
  | [.own 0, .own 1], [.rows K la, .rows K2 lb] => match sameKs K [.i64, .i64], sameKs K2 [.i64, .i64] with
    | true, true => some { val := .sbool true, C := [la = lb, la.length ≤ 140737488355328] }
    | _, _ => none
  | _, _ => none
theorem acc27 : Acc gP 27 F27 := by
  intro args B out h hC
  unfold F27 at h
  split at h
  · rename_i K la K2 lb
    split at h
    · rename_i hK hK2
      obtain rfl := sameKs_eq hK
      obtain rfl := sameKs_eq hK2
      simp only [Option.some.injEq] at h; subst h
      simp only [allC_cons, allC_nil, and_true] at hC
      obtain ⟨rfl, hl⟩ := hC
      have F1 : Fits .i64 (la.length : Int) := fits_small hl
      have hL := le_loop
      refine FnOk.toSb (b := true) ?_ rfl
      refine FnOk.run (out := { val := .bool true }) (new := []) gP_ok (ev_run _ _) (by (simp only [allC_cons, allC_nil, and_true]; repeat' (with_reducible (first | refine And.intro ?_ ?_ | exact True.intro | assumption | omega | exact decide_eq_true (by first | assumption | omega) | exact decide_eq_false (by first | assumption | omega) | rfl | (simp; done))))) (by simp [upto]) rfl (by simp) (by simp) fun j hj => ?_
      match j, hj with
      | 0, _ => rfl
      | 1, _ => rfl
      | j + 2, hj => exact absurd hj (by simp)
    · simp at h
  · simp at h
noncomputable abbrev gQ : Ctx := gP.add [(27, F27)]
theorem gQ_ok : CtxU gQ := gP_ok.add mixed noGo (by
  intro x hx
  simp only [List.mem_cons, List.not_mem_nil, or_false] at hx
  rcases hx with rfl
  exact acc27)
/-! ### FieldPlays -/
abbrev plKeep : List Nat := [0, 3, 4, 5]
noncomputable abbrev plBody : Code := bodyAt Try.prog 9 6
noncomputable abbrev plO (a : Nat → Nat → Int) (m : Nat) (i : Int) : List SV := [.ro 38 m (rowsF a), .ptr 0 0, .ptr 1 0, .int .i64 i]
noncomputable abbrev plS (a : Nat → Nat → Int) (m i : Nat) : List (Nat × SV) := plKeep.zip (plO a m (i : Int))
noncomputable abbrev plB (e n : Nat → Int) (l w : List (List Int)) : List Body := [bkV e n 2, .log w, .rows [.i64, .i64] l]
theorem pl_go (a : Nat → Nat → Int) (m i : Nat) (e n : Nat → Int) (l w : List (List Int)) : runC gQ 300 52 [.br true, .br true, .br false, .br false] plBody (plS a m i) (plB e n l w) plKeep [0, 1, 3] =
    some (.normal, plO a m ((i : Int) + 1), (plB (scE (rX a i) (n40 e)) (scN (rX a i) (n128 n)) (l ++ scL (rX a i)) (w ++ scL (rX a i))).map some, [decide ((i : Int) < (m : Int)) = true, Fits .i64 (m : Int), decide ((i : Int) < 400) = true, Inv (n40 e) (n128 n), l.length < 1000000, w.length < 1099511627776, (0 : Int) ≤ (i : Int) ∧ (i : Int) < (m : Int),
      Fits .i64 ((l ++ scL (rX a i)).length : Int), (!true) = false, Inv (n40 (scE (rX a i) (n40 e))) (n128 (scN (rX a i) (n128 n))), (!decide (((w ++ scL (rX a i)).length : Int) = ((l ++ scL (rX a i)).length : Int))) = false, Fits .i64 ((i : Int) + 1)]) :=
  r3_parts4 (by kernel_rfl) (by kernel_rfl) (by kernel_rfl) (by kernel_rfl)
theorem pl_end (a : Nat → Nat → Int) (m i : Nat) (e n : Nat → Int) (l w : List (List Int)) : runC gQ 300 52 [.br false] plBody (plS a m i) (plB e n l w) plKeep [0, 1, 2] =
    some (.exit 0, plO a m (i : Int), (plB e n l w).map some, [decide ((i : Int) < (m : Int)) = false, Fits .i64 (m : Int)]) :=
  r3_parts4 (by kernel_rfl) (by kernel_rfl) (by kernel_rfl) (by kernel_rfl)
theorem pl_most (a : Nat → Nat → Int) (m i : Nat) (e n : Nat → Int) (l w : List (List Int)) : runC gQ 300 52 [.br true, .br false] plBody (plS a m i) (plB e n l w) plKeep [0, 1, 2] =
    some (.exit 0, plO a m (i : Int), (plB e n l w).map some, [decide ((i : Int) < (m : Int)) = true, Fits .i64 (m : Int), decide ((i : Int) < 400) = false]) :=
  r3_parts4 (by kernel_rfl) (by kernel_rfl) (by kernel_rfl) (by kernel_rfl)
noncomputable def plG : LoopF := fun vals B => match vals, B with
  | [.ro 38 m f, .ptr 0 0, .ptr 1 0, .int .i64 0], [.cells cs, .log []] => match bankAs cs, cs.drop 168 with
    | some (le, ln), [.raw (.slice none 0 0)] => some ([(3, .ptr 0 0), (4, .ptr 1 0)], plB (eZ (aOf f) (atL le) (min m 400)) (nZ (aOf f) (atL ln) (min m 400)) (lZ (aOf f) [] (min m 400)) (lZ (aOf f) [] (min m 400)), [f = rowsF (aOf f), Fits .i64 (m : Int), ∀ i, i < m → factsC (f i), Inv (atL le) (atL ln)])
    | _, _ => none
  | _, _ => none
theorem ids_01 (k : Nat) : ∀ j : Nat, j < 2 → ([0, 1, k] : List Nat)[j]? = some j := fun j hj => by
  match j, hj with
  | 0, _ => rfl
  | 1, _ => rfl
theorem rows_ok {m : Nat} {f : Nat → SV} (h : f = rowsF (aOf f)) (hf : ∀ i, i < m → factsC (f i)) : RowsOk m (aOf f) := fun i hi => by
  have := hf i hi
  rw [h] at this
  exact this
theorem pl_loop : LoopGood gQ 52 (.loop plBody) plKeep 2 (.exit 0) (mkLoopN plG) := by
  refine LoopGood.mkN (by decide) fun vals B S' B' C hG hC hlen w0 O hgl => ?_
  clear hlen
  unfold plG at hG
  split at hG
  · rename_i m f cs
    split at hG
    · rename_i le ln hb hd
      simp only [Option.some.injEq, Prod.mk.injEq] at hG
      obtain ⟨rfl, rfl, rfl⟩ := hG
      simp only [allC_cons, allC_nil, and_true] at hC
      obtain ⟨hf, Fm, hr, hI⟩ := hC
      have R := rows_ok hf hr
      generalize ha : aOf f = a at *
      rw [hf]
      clear hf hr ha
      refine SimC.preI (B1 := [.cells (bk168 (atL le) (atL ln) ++ [.raw (.slice none 0 0)]), .log []]) ?_ ⟨cells_bank hb hd rfl, ⟨BImp.refl _, fun _ h => by simp at h⟩, trivial⟩
      refine SimC.adoptB (k := 0) (cs := bk168 (atL le) (atL ln)) (.rows [.i64, .i64] []) rfl rfl ?_
      show SimC _ _ _ _ _ (plS a m 0) (plB (eZ a (atL le) 0) (nZ a (atL ln) 0) (lZ a [] 0) (lZ a [] 0)) _ _ _ _
      have hNm : min m 400 ≤ m := Nat.min_le_left _ _
      have hN4 : min m 400 ≤ 400 := Nat.min_le_right _ _
      have hIz := Inv_Z R hI
      refine SimC.iter (g := gQ) (e := .exit 0) (S := fun i => plS a m i) (B := fun i => plB (eZ a (atL le) i) (nZ a (atL ln) i) (lZ a [] i) (lZ a [] i)) (N := min m 400) (fun i hi => ?_) ?_ (by simp) 0 (by omega)
      · have F1 : Fits .i64 ((i : Int) + 1) := fits_of (by omega) (by omega)
        have hl := lZ_len a [] i
        have hl1 := lZ_len a [] (i + 1)
        simp only [List.length_nil, Nat.zero_add] at hl hl1
        have F2 : Fits .i64 ((lZ a [] (i + 1)).length : Int) := fits_of (by omega) (by omega)
        refine SimC.run (B' := plB (eZ a (atL le) (i + 1)) (nZ a (atL ln) (i + 1)) (lZ a [] (i + 1)) (lZ a [] (i + 1))) gQ_ok (by decide) (pl_go a m i _ _ _ _) ?_ (by decide) (ids_01 3) (by decide) (by simp) hgl
        simp only [allC_cons, allC_nil, and_true]
        refine ⟨decide_eq_true (by omega), Fm, decide_eq_true (by omega), Inv_n.2 (hIz i (by omega)), by omega, by omega, ⟨by omega, by omega⟩, F2, rfl, Inv_n.2 (hIz (i + 1) (by omega)), ?_, F1⟩
        decide
      · by_cases h4 : m ≤ 400
        · rw [Nat.min_eq_left h4]
          exact SimC.weaken (SimC.run (B' := plB (eZ a (atL le) m) (nZ a (atL ln) m) (lZ a [] m) (lZ a [] m)) gQ_ok (by decide) (pl_end a m m _ _ _ _) (by simp only [allC_cons, allC_nil, and_true]; exact ⟨decide_eq_false (by omega), Fm⟩) (by decide) (ids_01 2) (by decide) (by simp) hgl) (sub_mkT (by simp; exact ⟨rfl, rfl⟩))
        · rw [Nat.min_eq_right (by omega)]
          exact SimC.weaken (SimC.run (B' := plB (eZ a (atL le) 400) (nZ a (atL ln) 400) (lZ a [] 400) (lZ a [] 400)) gQ_ok (by decide) (pl_most a m 400 _ _ _ _) (by simp only [allC_cons, allC_nil, and_true]; exact ⟨decide_eq_true (by omega), Fm, decide_eq_false (by omega)⟩) (by decide) (ids_01 2) (by decide) (by simp) hgl) (sub_mkT (by simp; exact ⟨rfl, rfl⟩))
    · simp at hG
  · simp at hG
end Go.Proofs.Ytghdadkpbofbbaa
