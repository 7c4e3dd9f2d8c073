/- Accounts of this seat's functions: lemmas, no statement of their own. No conditions. -/
import Derived.Test.YtibfgdbkobgemaaTPk
namespace Go.Proofs.Ytibfgdbkobgemaa
open Go Go.Vx
/-! ### PrimeQuiet -/
inductive TailQ where
  | logs | none' | other
def tailQ (l : List SV) : TailQ := match l with
  | [.ptr 2 0, .raw (.slice none 0 0)] => .logs
  | [.raw (.pointer none), .raw (.slice none 0 0)] => .none'
  | _ => .other
theorem tailQ_logs {l : List SV} (h : tailQ l = .logs) : l = [.ptr 2 0, .raw (.slice none 0 0)] := by
  unfold tailQ at h; split at h <;> first | rfl | simp at h
theorem tailQ_none {l : List SV} (h : tailQ l = .none') : l = [nilR, .raw (.slice none 0 0)] := by
  unfold tailQ at h; split at h <;> first | rfl | simp at h
abbrev quKeep : List Nat := [0, 3, 4, 5]
noncomputable abbrev quBody : Code := bodyAt Try.prog 10 4
noncomputable abbrev quO (a : Nat → Nat → Int) (m : Nat) (i : Int) : List SV := [.ro 37 m (rowsF a), .ptr 0 0, .ptr 1 0, .int .i64 i]
noncomputable abbrev quS (a : Nat → Nat → Int) (m i : Nat) : List (Nat × SV) := quKeep.zip (quO a m (i : Int))
noncomputable abbrev quB (ea na eb nb : Nat → Int) (la lb w : List (List Int)) : List Body := [bnV ea na (.ptr 2 0) 3, bnV eb nb nilR 4, .log w, .rows [.i64, .i64] la, .rows [.i64, .i64] lb]
theorem qu_go (a : Nat → Nat → Int) (m i : Nat) (ea na eb nb : Nat → Int) (la lb w : List (List Int)) : runC gm 300 62 [.br true, .br true, .br false, .br false] quBody (quS a m i) (quB ea na eb nb la lb w) quKeep [0, 1, 2, 5, 6] =
    some (.normal, quO a m ((i : Int) + 1), (quB (scE (rX a i) (n40 ea)) (scN (rX a i) (n136 na)) (scE (rX a i) (n40 eb)) (scN (rX a i) (n136 nb)) (la ++ scL (rX a i)) (lb ++ scL (rX a i)) (w ++ scL (rX a i))).map some, [decide ((i : Int) < (m : Int)) = true, Fits .i64 (m : Int), decide ((i : Int) < 3000) = true, Inv (n40 eb) (n136 nb), lb.length < 1000000, (0 : Int) ≤ (i : Int) ∧ (i : Int) < (m : Int), (!true) = false, Inv (n40 ea) (n136 na), la.length < 1000000, w.length < 1099511627776, (0 : Int) ≤ (i : Int) ∧ (i : Int) < (m : Int),
      (!true) = false, Fits .i64 ((i : Int) + 1)]) :=
  r3_parts4 (by kernel_rfl) (by kernel_rfl) (by kernel_rfl) (by kernel_rfl)
theorem qu_end (a : Nat → Nat → Int) (m i : Nat) (ea na eb nb : Nat → Int) (la lb w : List (List Int)) : runC gm 300 62 [.br false] quBody (quS a m i) (quB ea na eb nb la lb w) quKeep [0, 1, 2, 3, 4] =
    some (.exit 0, quO a m (i : Int), (quB ea na eb nb la lb w).map some, [decide ((i : Int) < (m : Int)) = false, Fits .i64 (m : Int)]) :=
  r3_parts4 (by kernel_rfl) (by kernel_rfl) (by kernel_rfl) (by kernel_rfl)
theorem qu_most (a : Nat → Nat → Int) (m i : Nat) (ea na eb nb : Nat → Int) (la lb w : List (List Int)) : runC gm 300 62 [.br true, .br false] quBody (quS a m i) (quB ea na eb nb la lb w) quKeep [0, 1, 2, 3, 4] =
    some (.exit 0, quO a m (i : Int), (quB ea na eb nb la lb w).map some, [decide ((i : Int) < (m : Int)) = true, Fits .i64 (m : Int), decide ((i : Int) < 3000) = false]) :=
  r3_parts4 (by kernel_rfl) (by kernel_rfl) (by kernel_rfl) (by kernel_rfl)
noncomputable def quG : LoopF := fun vals B => match vals, B with
  | [.ro 37 m f, .ptr 0 0, .ptr 1 0, .int .i64 0], [.cells cs, .cells cs2, .log []] => match bankAs cs, tailQ (cs.drop 176), bankAs cs2, tailQ (cs2.drop 176) with
    | some (le, ln), .logs, some (me, mn), .none' => some ([(3, .ptr 0 0), (4, .ptr 1 0)], quB (eZ (aOf f) (atL le) (min m 3000)) (nZ (aOf f) (atL ln) (min m 3000)) (eZ (aOf f) (atL me) (min m 3000)) (nZ (aOf f) (atL mn) (min m 3000)) (lZ (aOf f) [] (min m 3000)) (lZ (aOf f) [] (min m 3000)) (lZ (aOf f) [] (min m 3000)), [f = rowsF (aOf f), Fits .i64 (m : Int), ∀ i, i < m → factsC (f i), Inv (atL le) (atL ln), Inv (atL me) (atL mn)])
    | _, _, _, _ => none
  | _, _ => none
theorem ids_3 (k j : Nat) : ∀ i : Nat, i < 3 → ([0, 1, 2, k, j] : List Nat)[i]? = some i := fun i hi => by
  match i, hi with
  | 0, _ => rfl
  | 1, _ => rfl
  | 2, _ => rfl
theorem qu_loop : LoopGood gm 62 (.loop quBody) quKeep 3 (.exit 0) (mkLoopN quG) := by
  refine LoopGood.mkN (by decide) fun vals B S' B' C hG hC hlen w0 O hgl => ?_
  clear hlen
  unfold quG at hG
  split at hG
  · rename_i m f cs cs2
    split at hG
    · rename_i le ln me mn hb hd hb2 hd2
      have hd := tailQ_logs hd
      have hd2 := tailQ_none hd2
      simp only [Option.some.injEq, Prod.mk.injEq] at hG
      obtain ⟨rfl, rfl, rfl⟩ := hG
      simp only [allC_cons, allC_nil, and_true] at hC
      obtain ⟨hf, Fm, hr, hI, hI2⟩ := hC
      have R := rows_ok hf hr
      generalize ha : aOf f = a at *
      rw [hf]
      clear hf hr ha
      refine SimC.preI (B1 := [.cells ((bk176 (atL le) (atL ln) ++ [.ptr 2 0]) ++ [.raw (.slice none 0 0)]), .cells ((bk176 (atL me) (atL mn) ++ [nilR]) ++ [.raw (.slice none 0 0)]), .log []]) ?_ ⟨by rw [List.append_assoc]; exact cells_bank hb hd rfl rfl, by rw [List.append_assoc]; exact cells_bank hb2 hd2 rfl rfl, ⟨BImp.refl _, fun _ h => by simp at h⟩, trivial⟩
      refine SimC.adoptB (k := 0) (cs := bk176 (atL le) (atL ln) ++ [.ptr 2 0]) (.rows [.i64, .i64] []) rfl rfl ?_
      refine SimC.adoptB (k := 1) (cs := bk176 (atL me) (atL mn) ++ [nilR]) (.rows [.i64, .i64] []) rfl rfl ?_
      simp only [List.set_cons_zero, List.set_cons_succ, List.length_cons, List.length_nil, List.append_assoc, List.cons_append, List.nil_append]
      show SimC _ _ _ _ _ (quS a m 0) (quB (eZ a (atL le) 0) (nZ a (atL ln) 0) (eZ a (atL me) 0) (nZ a (atL mn) 0) (lZ a [] 0) (lZ a [] 0) (lZ a [] 0)) _ _ _ _
      have hNm : min m 3000 ≤ m := Nat.min_le_left _ _
      have hN4 : min m 3000 ≤ 3000 := Nat.min_le_right _ _
      have hIz := Inv_Z R hI
      have hIz2 := Inv_Z R hI2
      refine SimC.iter (g := gm) (e := .exit 0) (S := fun i => quS a m i) (B := fun i => quB (eZ a (atL le) i) (nZ a (atL ln) i) (eZ a (atL me) i) (nZ a (atL mn) i) (lZ a [] i) (lZ a [] i) (lZ a [] i)) (N := min m 3000) (fun i hi => ?_) ?_ (by simp) 0 (by omega)
      · have F1 : Fits .i64 ((i : Int) + 1) := fits_of (by omega) (by omega)
        have hl := lZ_len a [] i
        simp only [List.length_nil, Nat.zero_add] at hl
        refine SimC.run (B' := quB (eZ a (atL le) (i + 1)) (nZ a (atL ln) (i + 1)) (eZ a (atL me) (i + 1)) (nZ a (atL mn) (i + 1)) (lZ a [] (i + 1)) (lZ a [] (i + 1)) (lZ a [] (i + 1))) gm_ok (by decide) (qu_go a m i _ _ _ _ _ _ _) ?_ (by decide) (ids_3 5 6) (by decide) (by simp) hgl
        simp only [allC_cons, allC_nil, and_true]
        exact ⟨decide_eq_true (by omega), Fm, decide_eq_true (by omega), Inv_n.2 (hIz2 i (by omega)), by omega, ⟨by omega, by omega⟩, by simp, Inv_n.2 (hIz i (by omega)), by omega, by omega, ⟨by omega, by omega⟩, by simp, F1⟩
      · by_cases h4 : m ≤ 3000
        · rw [Nat.min_eq_left h4]
          exact SimC.weaken (SimC.run (B' := quB (eZ a (atL le) m) (nZ a (atL ln) m) (eZ a (atL me) m) (nZ a (atL mn) m) (lZ a [] m) (lZ a [] m) (lZ a [] m)) gm_ok (by decide) (qu_end a m m _ _ _ _ _ _ _) (by simp only [allC_cons, allC_nil, and_true]; exact ⟨decide_eq_false (by omega), Fm⟩) (by decide) (ids_3 3 4) (by decide) (by simp) hgl) (sub_mkT (by simp; exact ⟨rfl, rfl⟩))
        · rw [Nat.min_eq_right (by omega)]
          exact SimC.weaken (SimC.run (B' := quB (eZ a (atL le) 3000) (nZ a (atL ln) 3000) (eZ a (atL me) 3000) (nZ a (atL mn) 3000) (lZ a [] 3000) (lZ a [] 3000) (lZ a [] 3000)) gm_ok (by decide) (qu_most a m 3000 _ _ _ _ _ _ _) (by simp only [allC_cons, allC_nil, and_true]; exact ⟨decide_eq_true (by omega), Fm, decide_eq_false (by omega)⟩) (by decide) (ids_3 3 4) (by decide) (by simp) hgl) (sub_mkT (by simp; exact ⟨rfl, rfl⟩))
    · simp at hG
  · simp at hG
abbrev quT (e : Nat → Int) (q : Nat) : Prop := (!decide (listF 17 (bytesN (L5 (fun r => e (5 * q + r)))) 0 = listF 17 (bytesN (L5 (fun r => e (5 * q + r)))) 0)) = false
theorem quT_ok (e : Nat → Int) (q : Nat) : quT e q := by simp
theorem quiet_run (m : Nat) (a : Nat → Nat → Int) : runF gm 900 ([.loop 4 quKeep 3 (.exit 0) (mkLoopN quG)] ++ List.replicate 8 (.br false) ++ [.br true]) 10 [.ro 37 m (rowsF a)] [] [] =
    some (.bool true, [], [LoopGood gm 62 (.loop quBody) quKeep 3 (.exit 0) (mkLoopN quG), rowsF a = rowsF (rwA a), Fits .i64 (m : Int), ∀ i, i < m → factsC (rowsF a i), Inv (atL z40) (atL z136), Inv (atL z40) (atL z136), quT (eN a m) 0, quT (eN a m) 1, quT (eN a m) 2, quT (eN a m) 3, quT (eN a m) 4, quT (eN a m) 5, quT (eN a m) 6, quT (eN a m) 7, true = true, Inv (n40 (eN a m)) (n136 (nN a m)), lN a m = lN a m, (lN a m).length < 100000000]) :=
  run_parts (by kernel_rfl) (by kernel_rfl) (by kernel_rfl)
theorem quiet_ok (m : Nat) (a : Nat → Nat → Int) (hm : Fits .i64 (m : Int)) (hf : ∀ i, i < m → factsC (rowsF a i)) : FnOk gm 10 [.ro 37 m (rowsF a)] [] { val := .bool true } := by
  refine FnOk.pure gm_ok (quiet_run m a) ?_
  have hl : (lN a m).length ≤ ([] : List (List Int)).length + min m 3000 := lZ_len (rwA a) [] (min m 3000)
  have hN4 : min m 3000 ≤ 3000 := Nat.min_le_right _ _
  simp only [List.length_nil, Nat.zero_add] at hl
  have hL := qu_loop
  have R : RowsOk m (rwA a) := rows_ok (aOf_sc a).symm hf
  have hI := Inv_Z R Inv_z0 (min m 3000) (Nat.min_le_left _ _)
  have T := quT_ok (eN a m)
  simp only [allC_cons, allC_nil, and_true]
  exact ⟨hL, (aOf_sc a).symm, hm, hf, Inv_z0, Inv_z0, T 0, T 1, T 2, T 3, T 4, T 5, T 6, T 7, trivial, Inv_n.2 hI, trivial, by omega⟩
end Go.Proofs.Ytibfgdbkobgemaa
