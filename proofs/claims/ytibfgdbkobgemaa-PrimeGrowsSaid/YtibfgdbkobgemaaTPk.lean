/- Accounts of this seat's functions: lemmas, no statement of their own. No conditions. -/
import Derived.Test.YtibfgdbkobgemaaTPj
import Derived.Test.YtibfgdbkobgemaaV4
namespace Go.Proofs.Ytibfgdbkobgemaa
open Go Go.Vx
/-! ### scripts as rows -/
noncomputable abbrev rowsF (a : Nat → Nat → Int) : Nat → SV := fun i => rwV (a i)
def cellM (cs : List SV) (j : Nat) : Int := match cs[j]? with | some (.int _ n) => n | _ => 0
def aOf (f : Nat → SV) (i j : Nat) : Int := match f i with | .agg cs => cellM cs j | _ => 0
theorem aOf_sc (a : Nat → Nat → Int) : rowsF (aOf (rowsF a)) = rowsF a := funext fun i => by
  show SV.agg _ = SV.agg _
  congr 1
abbrev rX (a : Nat → Nat → Int) (i : Nat) : Nat → Int := atL (listF 37 (a i) 0)
abbrev n40 (e : Nat → Int) : Nat → Int := atL (listF 40 e 0)
abbrev n136 (n : Nat → Int) : Nat → Int := atL (listF 136 n 0)
noncomputable def eZ (a : Nat → Nat → Int) (e : Nat → Int) : Nat → (Nat → Int)
  | 0 => e
  | i + 1 => scE (rX a i) (n40 (eZ a e i))
noncomputable def nZ (a : Nat → Nat → Int) (n : Nat → Int) : Nat → (Nat → Int)
  | 0 => n
  | i + 1 => scN (rX a i) (n136 (nZ a n i))
def lZ (a : Nat → Nat → Int) (l : List (List Int)) : Nat → List (List Int)
  | 0 => l
  | i + 1 => lZ a l i ++ scL (rX a i)
theorem lZ_len (a : Nat → Nat → Int) (l : List (List Int)) : ∀ i, (lZ a l i).length ≤ l.length + i
  | 0 => by simp [lZ]
  | i + 1 => by have := lZ_len a l i; have := scL_len (rX a i); simp only [lZ, List.length_append]; omega
theorem Inv_n {e n : Nat → Int} : Inv (n40 e) (n136 n) ↔ Inv e n := by
  have h1 : ∀ q, q < 8 → L5 (fun r => n40 e (5 * q + r)) = L5 (fun r => e (5 * q + r)) := fun q hq => listF_eq0.2 fun r hr => atL_listF (a := e) (by omega)
  have h2 : ∀ q, q < 8 → ∀ j, j < 17 → n136 n (17 * q + j) = n (17 * q + j) := fun q hq j hj => atL_listF (a := n) (by omega)
  constructor
  · rintro ⟨N, hN⟩
    refine ⟨N, fun q hq => ?_⟩
    obtain ⟨a, b, c⟩ := hN q hq
    rw [h1 q hq] at a
    exact ⟨a, b, fun j hj => by rw [← h2 q hq j hj]; exact c j hj⟩
  · rintro ⟨N, hN⟩
    refine ⟨N, fun q hq => ?_⟩
    obtain ⟨a, b, c⟩ := hN q hq
    rw [← h1 q hq] at a
    exact ⟨a, b, fun j hj => by rw [h2 q hq j hj]; exact c j hj⟩
abbrev RowsOk (m : Nat) (a : Nat → Nat → Int) : Prop := ∀ i, i < m → factsL (svF rowK (a i) 0)
theorem row_facts2 {m : Nat} {a : Nat → Nat → Int} (h : RowsOk m a) {i : Nat} (hi : i < m) : (∀ j, j < 16 → Byte (rX a i (4 + j))) ∧ (∀ j, j < 17 → Byte (rX a i (20 + j))) := by
  obtain ⟨r1, r2⟩ := row_facts (h i hi)
  have g : ∀ j, j < 37 → rX a i j = a i j := fun j hj => atL_listF hj
  exact ⟨fun j hj => by rw [g _ (by omega)]; exact r1 j hj, fun j hj => by rw [g _ (by omega)]; exact r2 j hj⟩
theorem Inv_Z {m : Nat} {a : Nat → Nat → Int} (h : RowsOk m a) {e n : Nat → Int} (h0 : Inv e n) : ∀ i, i ≤ m → Inv (eZ a e i) (nZ a n i)
  | 0, _ => h0
  | i + 1, hi => by
    have ih := Inv_Z h h0 i (by omega)
    obtain ⟨r1, r2⟩ := row_facts2 h (i := i) (by omega)
    exact Inv_step (Inv_n.2 ih) r1 r2
theorem rows_ok {m : Nat} {f : Nat → SV} (h : f = rowsF (aOf f)) (hf : ∀ i, i < m → factsC (f i)) : RowsOk m (aOf f) := fun i hi => by
  have := hf i hi
  rw [h] at this
  exact this
/-! ### PrimePlays -/
abbrev plKeep : List Nat := [0, 3, 4]
noncomputable abbrev plBody : Code := bodyAt Try.prog 8 3
noncomputable abbrev plO (a : Nat → Nat → Int) (m : Nat) (i : Int) : List SV := [.ro 37 m (rowsF a), .ptr 0 0, .int .i64 i]
noncomputable abbrev plS (a : Nat → Nat → Int) (m i : Nat) : List (Nat × SV) := plKeep.zip (plO a m (i : Int))
noncomputable abbrev plB (e n : Nat → Int) (l w : List (List Int)) : List Body := [bnV e n (.ptr 1 0) 2, .log w, .rows [.i64, .i64] l]
theorem pl_go (a : Nat → Nat → Int) (m i : Nat) (e n : Nat → Int) (l w : List (List Int)) : runC gm 300 30 [.br true, .br true, .br false] plBody (plS a m i) (plB e n l w) plKeep [0, 1, 3] =
    some (.normal, plO a m ((i : Int) + 1), (plB (scE (rX a i) (n40 e)) (scN (rX a i) (n136 n)) (l ++ scL (rX a i)) (w ++ scL (rX a i))).map some, [decide ((i : Int) < (m : Int)) = true, Fits .i64 (m : Int), decide ((i : Int) < 3000) = true, Inv (n40 e) (n136 n), l.length < 1000000, w.length < 1099511627776, (0 : Int) ≤ (i : Int) ∧ (i : Int) < (m : Int),
      (!true) = false, Fits .i64 ((i : Int) + 1)]) :=
  r3_parts4 (by kernel_rfl) (by kernel_rfl) (by kernel_rfl) (by kernel_rfl)
theorem pl_end (a : Nat → Nat → Int) (m i : Nat) (e n : Nat → Int) (l w : List (List Int)) : runC gm 300 30 [.br false] plBody (plS a m i) (plB e n l w) plKeep [0, 1, 2] =
    some (.exit 0, plO a m (i : Int), (plB e n l w).map some, [decide ((i : Int) < (m : Int)) = false, Fits .i64 (m : Int)]) :=
  r3_parts4 (by kernel_rfl) (by kernel_rfl) (by kernel_rfl) (by kernel_rfl)
theorem pl_most (a : Nat → Nat → Int) (m i : Nat) (e n : Nat → Int) (l w : List (List Int)) : runC gm 300 30 [.br true, .br false] plBody (plS a m i) (plB e n l w) plKeep [0, 1, 2] =
    some (.exit 0, plO a m (i : Int), (plB e n l w).map some, [decide ((i : Int) < (m : Int)) = true, Fits .i64 (m : Int), decide ((i : Int) < 3000) = false]) :=
  r3_parts4 (by kernel_rfl) (by kernel_rfl) (by kernel_rfl) (by kernel_rfl)
noncomputable def plG : LoopF := fun vals B => match vals, B with
  | [.ro 37 m f, .ptr 0 0, .int .i64 0], [.cells cs, .log []] => match bankAs cs, tailK (cs.drop 176) with
    | some (le, ln), .first => some ([(3, .ptr 0 0)], plB (eZ (aOf f) (atL le) (min m 3000)) (nZ (aOf f) (atL ln) (min m 3000)) (lZ (aOf f) [] (min m 3000)) (lZ (aOf f) [] (min m 3000)), [f = rowsF (aOf f), Fits .i64 (m : Int), ∀ i, i < m → factsC (f i), Inv (atL le) (atL ln)])
    | _, _ => none
  | _, _ => none
theorem ids_01 (k : Nat) : ∀ j : Nat, j < 2 → ([0, 1, k] : List Nat)[j]? = some j := fun j hj => by
  match j, hj with
  | 0, _ => rfl
  | 1, _ => rfl
theorem pl_loop : LoopGood gm 30 (.loop plBody) plKeep 2 (.exit 0) (mkLoopN plG) := by
  refine LoopGood.mkN (by decide) fun vals B S' B' C hG hC hlen w0 O hgl => ?_
  clear hlen
  unfold plG at hG
  split at hG
  · rename_i m f cs
    split at hG
    · rename_i le ln hb hd
      have hd := tail_first hd
      simp only [Option.some.injEq, Prod.mk.injEq] at hG
      obtain ⟨rfl, rfl, rfl⟩ := hG
      simp only [allC_cons, allC_nil, and_true] at hC
      obtain ⟨hf, Fm, hr, hI⟩ := hC
      have R := rows_ok hf hr
      generalize ha : aOf f = a at *
      rw [hf]
      clear hf hr ha
      refine SimC.preI (B1 := [.cells ((bk176 (atL le) (atL ln) ++ [.ptr 1 0]) ++ [.raw (.slice none 0 0)]), .log []]) ?_ ⟨by rw [List.append_assoc]; exact cells_bank hb hd rfl rfl, ⟨BImp.refl _, fun _ h => by simp at h⟩, trivial⟩
      refine SimC.adoptB (k := 0) (cs := bk176 (atL le) (atL ln) ++ [.ptr 1 0]) (.rows [.i64, .i64] []) rfl rfl ?_
      have e0 : ([.cells ((bk176 (atL le) (atL ln) ++ [.ptr 1 0]) ++ [.raw (.slice none 0 0)]), .log []] : List Body).set 0 (.cells (bk176 (atL le) (atL ln) ++ [.ptr 1 0] ++ [.own ([.cells ((bk176 (atL le) (atL ln) ++ [.ptr 1 0]) ++ [.raw (.slice none 0 0)]), .log []] : List Body).length])) ++ [.rows [.i64, .i64] []] = plB (eZ a (atL le) 0) (nZ a (atL ln) 0) (lZ a [] 0) (lZ a [] 0) := by
        simp only [List.set_cons_zero, List.length_cons, List.length_nil, List.append_assoc, List.cons_append, List.nil_append]
        rfl
      rw [e0]
      show SimC _ _ _ _ _ (plS a m 0) (plB (eZ a (atL le) 0) (nZ a (atL ln) 0) (lZ a [] 0) (lZ a [] 0)) _ _ _ _
      have hNm : min m 3000 ≤ m := Nat.min_le_left _ _
      have hN4 : min m 3000 ≤ 3000 := Nat.min_le_right _ _
      have hIz := Inv_Z R hI
      refine SimC.iter (g := gm) (e := .exit 0) (S := fun i => plS a m i) (B := fun i => plB (eZ a (atL le) i) (nZ a (atL ln) i) (lZ a [] i) (lZ a [] i)) (N := min m 3000) (fun i hi => ?_) ?_ (by simp) 0 (by omega)
      · have F1 : Fits .i64 ((i : Int) + 1) := fits_of (by omega) (by omega)
        have hl := lZ_len a [] i
        simp only [List.length_nil, Nat.zero_add] at hl
        refine SimC.run (B' := plB (eZ a (atL le) (i + 1)) (nZ a (atL ln) (i + 1)) (lZ a [] (i + 1)) (lZ a [] (i + 1))) gm_ok (by decide) (pl_go a m i _ _ _ _) ?_ (by decide) (ids_01 3) (by decide) (by simp) hgl
        simp only [allC_cons, allC_nil, and_true]
        exact ⟨decide_eq_true (by omega), Fm, decide_eq_true (by omega), Inv_n.2 (hIz i (by omega)), by omega, by omega, ⟨by omega, by omega⟩, by simp, F1⟩
      · by_cases h4 : m ≤ 3000
        · rw [Nat.min_eq_left h4]
          exact SimC.weaken (SimC.run (B' := plB (eZ a (atL le) m) (nZ a (atL ln) m) (lZ a [] m) (lZ a [] m)) gm_ok (by decide) (pl_end a m m _ _ _ _) (by simp only [allC_cons, allC_nil, and_true]; exact ⟨decide_eq_false (by omega), Fm⟩) (by decide) (ids_01 2) (by decide) (by simp) hgl) (sub_mkT (by simp; exact rfl))
        · rw [Nat.min_eq_right (by omega)]
          exact SimC.weaken (SimC.run (B' := plB (eZ a (atL le) 3000) (nZ a (atL ln) 3000) (lZ a [] 3000) (lZ a [] 3000)) gm_ok (by decide) (pl_most a m 3000 _ _ _ _) (by simp only [allC_cons, allC_nil, and_true]; exact ⟨decide_eq_true (by omega), Fm, decide_eq_false (by omega)⟩) (by decide) (ids_01 2) (by decide) (by simp) hgl) (sub_mkT (by simp; exact rfl))
    · simp at hG
  · simp at hG
abbrev z40 : List Int := List.replicate 40 0
abbrev z136 : List Int := List.replicate 136 0
noncomputable abbrev rwA (a : Nat → Nat → Int) : Nat → Nat → Int := aOf (rowsF a)
noncomputable abbrev lN (a : Nat → Nat → Int) (m : Nat) : List (List Int) := lZ (rwA a) [] (min m 3000)
noncomputable abbrev eN (a : Nat → Nat → Int) (m : Nat) : Nat → Int := eZ (rwA a) (atL z40) (min m 3000)
noncomputable abbrev nN (a : Nat → Nat → Int) (m : Nat) : Nat → Int := nZ (rwA a) (atL z136) (min m 3000)
theorem is_z : Is (L5 fun _ => 0) 0 := ⟨⟨by decide, by decide, by decide, by decide, by decide⟩, by decide⟩
theorem Inv_z0 : Inv (atL z40) (atL z136) := by
  have h1 : ∀ q r, q < 8 → r < 5 → atL z40 (5 * q + r) = 0 := fun q r hq hr => by
    show (List.replicate 40 (0 : Int)).getD (5 * q + r) 0 = 0
    rw [List.getD_eq_getElem?_getD, List.getElem?_replicate]; split <;> rfl
  have h2 : ∀ q j, q < 8 → j < 17 → atL z136 (17 * q + j) = 0 := fun q j hq hj => by
    show (List.replicate 136 (0 : Int)).getD (17 * q + j) 0 = 0
    rw [List.getD_eq_getElem?_getD, List.getElem?_replicate]; split <;> rfl
  refine ⟨fun _ => 0, fun q hq => ?_⟩
  have e : L5 (fun r => atL z40 (5 * q + r)) = L5 (fun _ => 0) := listF_eq0.2 fun r hr => h1 q r hq hr
  rw [e]
  exact ⟨is_z, ⟨(by decide : (0 : Int) ≤ 0), (by decide : (0 : Int) < P5)⟩, fun j hj => by rw [h2 q j hq hj]; unfold byteN; simp⟩
theorem plays_run (m : Nat) (a : Nat → Nat → Int) : runF gm 900 [.loop 3 plKeep 2 (.exit 0) (mkLoopN plG), .br true] 8 [.ro 37 m (rowsF a)] [] [] =
    some (.bool true, [], [LoopGood gm 30 (.loop plBody) plKeep 2 (.exit 0) (mkLoopN plG), rowsF a = rowsF (rwA a), Fits .i64 (m : Int), ∀ i, i < m → factsC (rowsF a i), Inv (atL z40) (atL z136), true = true, Inv (n40 (eN a m)) (n136 (nN a m)), lN a m = lN a m, (lN a m).length < 100000000]) :=
  run_parts (by kernel_rfl) (by kernel_rfl) (by kernel_rfl)
theorem plays_ok (m : Nat) (a : Nat → Nat → Int) (hm : Fits .i64 (m : Int)) (hf : ∀ i, i < m → factsC (rowsF a i)) : FnOk gm 8 [.ro 37 m (rowsF a)] [] { val := .bool true } := by
  refine FnOk.pure gm_ok (plays_run m a) ?_
  have hl : (lN a m).length ≤ ([] : List (List Int)).length + min m 3000 := lZ_len (rwA a) [] (min m 3000)
  have hN4 : min m 3000 ≤ 3000 := Nat.min_le_right _ _
  simp only [List.length_nil, Nat.zero_add] at hl
  have hL := pl_loop
  have R : RowsOk m (rwA a) := rows_ok (aOf_sc a).symm hf
  have hI := Inv_Z R Inv_z0 (min m 3000) (Nat.min_le_left _ _)
  simp only [allC_cons, allC_nil, and_true]
  exact ⟨hL, (aOf_sc a).symm, hm, hf, Inv_z0, trivial, Inv_n.2 hI, trivial, by omega⟩
end Go.Proofs.Ytibfgdbkobgemaa
