/- Accounts of this seat's functions: lemmas, no statement of their own. No conditions. -/
import Derived.Test.YtghdadkpbofbbaaTXg
namespace Go.Proofs.Ytghdadkpbofbbaa
open Go Go.Vx
/-! ### FieldSilent -/
noncomputable abbrev bkN (e n : Nat → Int) : Body := .cells (bk168 e n ++ [.raw (.slice none 0 0)])
abbrev s1Keep : List Nat := [0, 1, 5, 6, 7, 8, 9]
noncomputable abbrev s1Body : Code := bodyAt Try.prog 7 6
noncomputable abbrev s1O (f1 : Nat → SV) (m1 : Nat) (f2 : Nat → SV) (m2 : Nat) (i : Int) : List SV := [.ro 38 m1 f1, .ro 38 m2 f2, .ptr 0 0, .ptr 1 0, .ptr 2 0, .ptr 3 0, .int .i64 i]
noncomputable abbrev s1S (f1 : Nat → SV) (m1 : Nat) (f2 : Nat → SV) (m2 : Nat) (i : Nat) : List (Nat × SV) := s1Keep.zip (s1O f1 m1 f2 m2 (i : Int))
noncomputable abbrev s1B (e1 n1 e2 n2 e n : Nat → Int) (l w : List (List Int)) : List Body := [.log w, bkN e1 n1, bkN e2 n2, bkV e n 4, .rows [.i64, .i64] l]
theorem s1_go (f1 : Nat → SV) (m1 : Nat) (a : Nat → Nat → Int) (m i : Nat) (e1 n1 e2 n2 e n : Nat → Int) (l w : List (List Int)) : runC gQ 300 128 [.br true, .br true] s1Body (s1S f1 m1 (rowsF a) m i) (s1B e1 n1 e2 n2 e n l w) s1Keep [0, 1, 2, 3, 5] =
    some (.normal, s1O f1 m1 (rowsF a) m ((i : Int) + 1), (s1B e1 n1 e2 n2 (scE (rX a i) (n40 e)) (scN (rX a i) (n128 n)) (l ++ scL (rX a i)) (w ++ scL (rX a i))).map some, [decide ((i : Int) < (m : Int)) = true, Fits .i64 (m : Int), decide ((i : Int) < 400) = true, Inv (n40 e) (n128 n), l.length < 1000000, w.length < 1099511627776, (0 : Int) ≤ (i : Int) ∧ (i : Int) < (m : Int), Fits .i64 ((i : Int) + 1)]) :=
  r3_parts4 (by kernel_rfl) (by kernel_rfl) (by kernel_rfl) (by kernel_rfl)
theorem s1_end (f1 : Nat → SV) (m1 : Nat) (f : Nat → SV) (m i : Nat) (e1 n1 e2 n2 e n : Nat → Int) (l w : List (List Int)) : runC gQ 300 128 [.br false] s1Body (s1S f1 m1 f m i) (s1B e1 n1 e2 n2 e n l w) s1Keep [0, 1, 2, 3, 4] =
    some (.exit 0, s1O f1 m1 f m (i : Int), (s1B e1 n1 e2 n2 e n l w).map some, [decide ((i : Int) < (m : Int)) = false, Fits .i64 (m : Int)]) :=
  r3_parts4 (by kernel_rfl) (by kernel_rfl) (by kernel_rfl) (by kernel_rfl)
theorem s1_most (f1 : Nat → SV) (m1 : Nat) (f : Nat → SV) (m i : Nat) (e1 n1 e2 n2 e n : Nat → Int) (l w : List (List Int)) : runC gQ 300 128 [.br true, .br false] s1Body (s1S f1 m1 f m i) (s1B e1 n1 e2 n2 e n l w) s1Keep [0, 1, 2, 3, 4] =
    some (.exit 0, s1O f1 m1 f m (i : Int), (s1B e1 n1 e2 n2 e n l w).map some, [decide ((i : Int) < (m : Int)) = true, Fits .i64 (m : Int), decide ((i : Int) < 400) = false]) :=
  r3_parts4 (by kernel_rfl) (by kernel_rfl) (by kernel_rfl) (by kernel_rfl)
def isNil (l : List SV) : Bool := match l with | [.raw (.slice none 0 0)] => true | _ => false
theorem isNil_eq {l : List SV} (h : isNil l = true) : l = [.raw (.slice none 0 0)] := by
  unfold isNil at h
  split at h
  · rfl
  · simp at h
noncomputable def s1G : LoopF := fun vals B => match vals, B with
  | [.ro 38 m1 f1, .ro 38 m f, .ptr 0 0, .ptr 1 0, .ptr 2 0, .ptr 3 0, .int .i64 0], [.log [], .cells c1, .cells c2, .cells cs] => match bankAs c1, bankAs c2, bankAs cs, isNil (c1.drop 168), isNil (c2.drop 168), isNil (cs.drop 168) with
    | some (e1, n1), some (e2, n2), some (le, ln), true, true, true => some ([(0, .ro 38 m1 f1), (5, .ptr 0 0), (6, .ptr 1 0), (7, .ptr 2 0), (8, .ptr 3 0)],
        s1B (atL e1) (atL n1) (atL e2) (atL n2) (eZ (aOf f) (atL le) (min m 400)) (nZ (aOf f) (atL ln) (min m 400)) (lZ (aOf f) [] (min m 400)) (lZ (aOf f) [] (min m 400)), [f = rowsF (aOf f), Fits .i64 (m : Int), ∀ i, i < m → factsC (f i), Inv (atL le) (atL ln)])
    | _, _, _, _, _, _ => none
  | _, _ => none
theorem ids_4 (k : Nat) : ∀ j : Nat, j < 4 → ([0, 1, 2, 3, k] : List Nat)[j]? = some j := fun j hj => by
  match j, hj with
  | 0, _ => rfl
  | 1, _ => rfl
  | 2, _ => rfl
  | 3, _ => rfl
theorem s1_loop : LoopGood gQ 128 (.loop s1Body) s1Keep 4 (.exit 0) (mkLoopN s1G) := by
  refine LoopGood.mkN (by decide) fun vals B S' B' C hG hC hlen w0 O hgl => ?_
  clear hlen
  unfold s1G at hG
  split at hG
  · rename_i m1 f1 m f c1 c2 cs
    split at hG
    · rename_i e1 n1 e2 n2 le ln h1 h2 hb d1 d2 hd
      have d1 := isNil_eq d1
      have d2 := isNil_eq d2
      have hd := isNil_eq hd
      simp only [Option.some.injEq, Prod.mk.injEq] at hG
      obtain ⟨rfl, rfl, rfl⟩ := hG
      simp only [allC_cons, allC_nil, and_true] at hC
      obtain ⟨hf, Fm, hr, hI⟩ := hC
      have R := rows_ok hf hr
      generalize ha : aOf f = a at *
      rw [hf]
      clear hf hr ha
      refine SimC.preI (B1 := [.log [], bkN (atL e1) (atL n1), bkN (atL e2) (atL n2), bkN (atL le) (atL ln)]) ?_ ⟨⟨BImp.refl _, fun _ h => by simp at h⟩, cells_bank h1 d1 rfl, cells_bank h2 d2 rfl, cells_bank hb hd rfl, trivial⟩
      refine SimC.adoptB (k := 3) (cs := bk168 (atL le) (atL ln)) (.rows [.i64, .i64] []) rfl rfl ?_
      show SimC _ _ _ _ _ (s1S f1 m1 (rowsF a) m 0) (s1B (atL e1) (atL n1) (atL e2) (atL n2) (eZ a (atL le) 0) (nZ a (atL ln) 0) (lZ a [] 0) (lZ a [] 0)) _ _ _ _
      have hNm : min m 400 ≤ m := Nat.min_le_left _ _
      have hN4 : min m 400 ≤ 400 := Nat.min_le_right _ _
      have hIz := Inv_Z R hI
      refine SimC.iter (g := gQ) (e := .exit 0) (S := fun i => s1S f1 m1 (rowsF a) m i) (B := fun i => s1B (atL e1) (atL n1) (atL e2) (atL n2) (eZ a (atL le) i) (nZ a (atL ln) i) (lZ a [] i) (lZ a [] i)) (N := min m 400) (fun i hi => ?_) ?_ (by simp) 0 (by omega)
      · have F1 : Fits .i64 ((i : Int) + 1) := fits_of (by omega) (by omega)
        have hl := lZ_len a [] i
        simp only [List.length_nil, Nat.zero_add] at hl
        refine SimC.run (B' := s1B (atL e1) (atL n1) (atL e2) (atL n2) (eZ a (atL le) (i + 1)) (nZ a (atL ln) (i + 1)) (lZ a [] (i + 1)) (lZ a [] (i + 1))) gQ_ok (by decide) (s1_go f1 m1 a m i _ _ _ _ _ _ _ _) ?_ (by decide) (ids_4 5) (by decide) (by simp) hgl
        simp only [allC_cons, allC_nil, and_true]
        exact ⟨decide_eq_true (by omega), Fm, decide_eq_true (by omega), Inv_n.2 (hIz i (by omega)), by omega, by omega, ⟨by omega, by omega⟩, F1⟩
      · by_cases h4 : m ≤ 400
        · rw [Nat.min_eq_left h4]
          exact SimC.weaken (SimC.run (B' := s1B (atL e1) (atL n1) (atL e2) (atL n2) (eZ a (atL le) m) (nZ a (atL ln) m) (lZ a [] m) (lZ a [] m)) gQ_ok (by decide) (s1_end f1 m1 _ m m _ _ _ _ _ _ _ _) (by simp only [allC_cons, allC_nil, and_true]; exact ⟨decide_eq_false (by omega), Fm⟩) (by decide) (ids_4 4) (by decide) (by simp) hgl) (sub_mkT (by simp; exact ⟨rfl, rfl, rfl, rfl, rfl⟩))
        · rw [Nat.min_eq_right (by omega)]
          exact SimC.weaken (SimC.run (B' := s1B (atL e1) (atL n1) (atL e2) (atL n2) (eZ a (atL le) 400) (nZ a (atL ln) 400) (lZ a [] 400) (lZ a [] 400)) gQ_ok (by decide) (s1_most f1 m1 _ m 400 _ _ _ _ _ _ _ _) (by simp only [allC_cons, allC_nil, and_true]; exact ⟨decide_eq_true (by omega), Fm, decide_eq_false (by omega)⟩) (by decide) (ids_4 4) (by decide) (by simp) hgl) (sub_mkT (by simp; exact ⟨rfl, rfl, rfl, rfl, rfl⟩))
    · simp at hG
  · simp at hG
/-! the script, with a Recorder and without -/
abbrev s2Keep : List Nat := [0, 5, 6, 7, 8, 10, 11]
noncomputable abbrev s2Body : Code := bodyAt Try.prog 7 11
noncomputable abbrev s2O (f : Nat → SV) (m : Nat) (t i : Int) : List SV := [.ro 38 m f, .ptr 0 0, .ptr 1 0, .ptr 2 0, .ptr 3 0, .int .i64 t, .int .i64 i]
noncomputable abbrev s2S (f : Nat → SV) (m : Nat) (t : Int) (i : Nat) : List (Nat × SV) := s2Keep.zip (s2O f m t (i : Int))
noncomputable abbrev s2B (ea na eb nb ec nc : Nat → Int) (la lb lc w : List (List Int)) : List Body := [.log w, bkV ea na 5, bkV eb nb 6, bkV ec nc 4, .rows [.i64, .i64] lc, .rows [.i64, .i64] la, .rows [.i64, .i64] lb]
theorem s2_go (a : Nat → Nat → Int) (m : Nat) (t : Int) (i : Nat) (ea na eb nb ec nc : Nat → Int) (la lb lc w : List (List Int)) : runC gQ 300 128 [.br true, .br true] s2Body (s2S (rowsF a) m t i) (s2B ea na eb nb ec nc la lb lc w) s2Keep [0, 1, 2, 3, 4, 7, 8] =
    some (.normal, s2O (rowsF a) m t ((i : Int) + 1), (s2B (scE (rX a i) (n40 ea)) (scN (rX a i) (n128 na)) (scE (rX a i) (n40 eb)) (scN (rX a i) (n128 nb)) ec nc (la ++ scL (rX a i)) (lb ++ scL (rX a i)) lc (w ++ scL (rX a i))).map some,
      [decide ((i : Int) < (m : Int)) = true, Fits .i64 (m : Int), decide ((i : Int) < 400) = true, Inv (n40 ea) (n128 na), la.length < 1000000, w.length < 1099511627776, (0 : Int) ≤ (i : Int) ∧ (i : Int) < (m : Int), Inv (n40 eb) (n128 nb), lb.length < 1000000, (0 : Int) ≤ (i : Int) ∧ (i : Int) < (m : Int), Fits .i64 ((i : Int) + 1)]) :=
  r3_parts4 (by kernel_rfl) (by kernel_rfl) (by kernel_rfl) (by kernel_rfl)
theorem s2_end (f : Nat → SV) (m : Nat) (t : Int) (i : Nat) (ea na eb nb ec nc : Nat → Int) (la lb lc w : List (List Int)) : runC gQ 300 128 [.br false] s2Body (s2S f m t i) (s2B ea na eb nb ec nc la lb lc w) s2Keep [0, 1, 2, 3, 4, 5, 6] =
    some (.exit 2, s2O f m t (i : Int), (s2B ea na eb nb ec nc la lb lc w).map some, [decide ((i : Int) < (m : Int)) = false, Fits .i64 (m : Int)]) :=
  r3_parts4 (by kernel_rfl) (by kernel_rfl) (by kernel_rfl) (by kernel_rfl)
theorem s2_most (f : Nat → SV) (m : Nat) (t : Int) (i : Nat) (ea na eb nb ec nc : Nat → Int) (la lb lc w : List (List Int)) : runC gQ 300 128 [.br true, .br false] s2Body (s2S f m t i) (s2B ea na eb nb ec nc la lb lc w) s2Keep [0, 1, 2, 3, 4, 5, 6] =
    some (.exit 2, s2O f m t (i : Int), (s2B ea na eb nb ec nc la lb lc w).map some, [decide ((i : Int) < (m : Int)) = true, Fits .i64 (m : Int), decide ((i : Int) < 400) = false]) :=
  r3_parts4 (by kernel_rfl) (by kernel_rfl) (by kernel_rfl) (by kernel_rfl)
def isOwn4 (l : List SV) : Bool := match l with | [.own 4] => true | _ => false
theorem isOwn4_eq {l : List SV} (h : isOwn4 l = true) : l = [.own 4] := by
  unfold isOwn4 at h
  split at h
  · rfl
  · simp at h
noncomputable def s2G : LoopF := fun vals B => match vals, B with
  | [.ro 38 m f, .ptr 0 0, .ptr 1 0, .ptr 2 0, .ptr 3 0, .int .i64 t, .int .i64 0], [.log w, .cells c1, .cells c2, .cells cs, .rows K lc] => match bankAs c1, bankAs c2, bankAs cs, isNil (c1.drop 168), isNil (c2.drop 168), isOwn4 (cs.drop 168), sameKs K [.i64, .i64] with
    | some (e1, n1), some (e2, n2), some (le, ln), true, true, true, true => some ([(5, .ptr 0 0), (6, .ptr 1 0), (7, .ptr 2 0), (8, .ptr 3 0), (10, .int .i64 t)],
        s2B (eZ (aOf f) (atL e1) (min m 400)) (nZ (aOf f) (atL n1) (min m 400)) (eZ (aOf f) (atL e2) (min m 400)) (nZ (aOf f) (atL n2) (min m 400)) (atL le) (atL ln) (lZ (aOf f) [] (min m 400)) (lZ (aOf f) [] (min m 400)) lc (lZ (aOf f) w (min m 400)),
        [f = rowsF (aOf f), Fits .i64 (m : Int), ∀ i, i < m → factsC (f i), Inv (atL e1) (atL n1), Inv (atL e2) (atL n2), w.length < 1000])
    | _, _, _, _, _, _, _ => none
  | _, _ => none
theorem ids_5 (k j : Nat) : ∀ i : Nat, i < 5 → ([0, 1, 2, 3, 4, k, j] : List Nat)[i]? = some i := fun i hi => by
  match i, hi with
  | 0, _ => rfl
  | 1, _ => rfl
  | 2, _ => rfl
  | 3, _ => rfl
  | 4, _ => rfl
theorem s2_loop : LoopGood gQ 128 (.loop s2Body) s2Keep 5 (.exit 2) (mkLoopN s2G) := by
  refine LoopGood.mkN (by decide) fun vals B S' B' C hG hC hlen w0 O hgl => ?_
  clear hlen
  unfold s2G at hG
  split at hG
  · rename_i m f t w c1 c2 cs K lc
    split at hG
    · rename_i e1 n1 e2 n2 le ln h1 h2 hb d1 d2 hd hK
      obtain rfl := sameKs_eq hK
      have d1 := isNil_eq d1
      have d2 := isNil_eq d2
      have hd := isOwn4_eq hd
      simp only [Option.some.injEq, Prod.mk.injEq] at hG
      obtain ⟨rfl, rfl, rfl⟩ := hG
      simp only [allC_cons, allC_nil, and_true] at hC
      obtain ⟨hf, Fm, hr, hI1, hI2, hw⟩ := hC
      have R := rows_ok hf hr
      generalize ha : aOf f = a at *
      rw [hf]
      clear hf hr ha
      refine SimC.preI (B1 := [.log w, bkN (atL e1) (atL n1), bkN (atL e2) (atL n2), bkV (atL le) (atL ln) 4, .rows [.i64, .i64] lc]) ?_ ⟨⟨BImp.refl _, fun _ h => by simp at h⟩, cells_bank h1 d1 rfl, cells_bank h2 d2 rfl, cells_bank hb hd rfl, ⟨BImp.refl _, fun _ h => by simp at h⟩, trivial⟩
      refine SimC.adoptB (k := 1) (cs := bk168 (atL e1) (atL n1)) (.rows [.i64, .i64] []) rfl rfl ?_
      refine SimC.adoptB (k := 2) (cs := bk168 (atL e2) (atL n2)) (.rows [.i64, .i64] []) rfl rfl ?_
      show SimC _ _ _ _ _ (s2S (rowsF a) m t 0) (s2B (eZ a (atL e1) 0) (nZ a (atL n1) 0) (eZ a (atL e2) 0) (nZ a (atL n2) 0) (atL le) (atL ln) (lZ a [] 0) (lZ a [] 0) lc (lZ a w 0)) _ _ _ _
      have hNm : min m 400 ≤ m := Nat.min_le_left _ _
      have hN4 : min m 400 ≤ 400 := Nat.min_le_right _ _
      have hIz1 := Inv_Z R hI1
      have hIz2 := Inv_Z R hI2
      refine SimC.iter (g := gQ) (e := .exit 2) (S := fun i => s2S (rowsF a) m t i) (B := fun i => s2B (eZ a (atL e1) i) (nZ a (atL n1) i) (eZ a (atL e2) i) (nZ a (atL n2) i) (atL le) (atL ln) (lZ a [] i) (lZ a [] i) lc (lZ a w i)) (N := min m 400) (fun i hi => ?_) ?_ (by simp) 0 (by omega)
      · have F1 : Fits .i64 ((i : Int) + 1) := fits_of (by omega) (by omega)
        have hl := lZ_len a [] i
        have hlw := lZ_len a w i
        simp only [List.length_nil, Nat.zero_add] at hl
        refine SimC.run (B' := s2B (eZ a (atL e1) (i + 1)) (nZ a (atL n1) (i + 1)) (eZ a (atL e2) (i + 1)) (nZ a (atL n2) (i + 1)) (atL le) (atL ln) (lZ a [] (i + 1)) (lZ a [] (i + 1)) lc (lZ a w (i + 1))) gQ_ok (by decide) (s2_go a m t i _ _ _ _ _ _ _ _ _ _) ?_ (by decide) (ids_5 7 8) (by decide) (by simp) hgl
        simp only [allC_cons, allC_nil, and_true]
        exact ⟨decide_eq_true (by omega), Fm, decide_eq_true (by omega), Inv_n.2 (hIz1 i (by omega)), by omega, by omega, ⟨by omega, by omega⟩, Inv_n.2 (hIz2 i (by omega)), by omega, ⟨by omega, by omega⟩, F1⟩
      · by_cases h4 : m ≤ 400
        · rw [Nat.min_eq_left h4]
          exact SimC.weaken (SimC.run (B' := s2B (eZ a (atL e1) m) (nZ a (atL n1) m) (eZ a (atL e2) m) (nZ a (atL n2) m) (atL le) (atL ln) (lZ a [] m) (lZ a [] m) lc (lZ a w m)) gQ_ok (by decide) (s2_end _ m t m _ _ _ _ _ _ _ _ _ _) (by simp only [allC_cons, allC_nil, and_true]; exact ⟨decide_eq_false (by omega), Fm⟩) (by decide) (ids_5 5 6) (by decide) (by simp) hgl) (sub_mkT (by simp; exact ⟨rfl, rfl, rfl, rfl, rfl⟩))
        · rw [Nat.min_eq_right (by omega)]
          exact SimC.weaken (SimC.run (B' := s2B (eZ a (atL e1) 400) (nZ a (atL n1) 400) (eZ a (atL e2) 400) (nZ a (atL n2) 400) (atL le) (atL ln) (lZ a [] 400) (lZ a [] 400) lc (lZ a w 400)) gQ_ok (by decide) (s2_most _ m t 400 _ _ _ _ _ _ _ _ _ _) (by simp only [allC_cons, allC_nil, and_true]; exact ⟨decide_eq_true (by omega), Fm, decide_eq_false (by omega)⟩) (by decide) (ids_5 5 6) (by decide) (by simp) hgl) (sub_mkT (by simp; exact ⟨rfl, rfl, rfl, rfl, rfl⟩))
    · simp at hG
  · simp at hG
end Go.Proofs.Ytghdadkpbofbbaa
