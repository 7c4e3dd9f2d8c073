/- Accounts of this seat's functions: lemmas, no statement of their own. No conditions. -/
import Derived.Test.YtibfgdbkobgemaaTPl
namespace Go.Proofs.Ytibfgdbkobgemaa
open Go Go.Vx
/-! ### PrimeGrows -/
abbrev grR (k a b c : Int) : List Int := [k, a, b, c] ++ List.replicate 33 0
abbrev grT (b : Nat → Int) (c : Int) : List Int := [2, 0, 0, c] ++ List.replicate 16 0 ++ listF 17 b 0
noncomputable def eG (o : Int) (e : Nat → Int) : Nat → (Nat → Int)
  | 0 => e
  | k + 1 => scE (atL (grR 3 0 o 0)) (n40 (eG o e k))
noncomputable def nG (o : Int) (n : Nat → Int) : Nat → (Nat → Int)
  | 0 => n
  | k + 1 => scN (atL (grR 3 0 o 0)) (n136 (nG o n k))
def lG (o : Int) (l : List (List Int)) : Nat → List (List Int)
  | 0 => l
  | k + 1 => lG o l k ++ scL (atL (grR 3 0 o 0))
theorem lG_len (o : Int) (l : List (List Int)) : ∀ i, (lG o l i).length ≤ l.length + i
  | 0 => by simp [lG]
  | i + 1 => by have := lG_len o l i; have := scL_len (atL (grR 3 0 o 0)); simp only [lG, List.length_append]; omega
theorem grR_byte (k a b c : Int) : (∀ i, i < 16 → Byte (atL (grR k a b c) (4 + i))) ∧ (∀ i, i < 17 → Byte (atL (grR k a b c) (20 + i))) := by
  have h : ∀ i, 4 ≤ i → Byte (atL (grR k a b c) i) := fun i hi => by
    unfold atL grR
    rw [List.getD_eq_getElem?_getD, List.getElem?_append_right (by simpa using hi), List.getElem?_replicate]
    split <;> exact ⟨by decide, by decide⟩
  exact ⟨fun i _ => h _ (by omega), fun i _ => h _ (by omega)⟩
theorem grT_byte {b : Nat → Int} (hb : ∀ j, j < 17 → Byte (b j)) (c : Int) : (∀ i, i < 16 → Byte (atL (grT b c) (4 + i))) ∧ (∀ i, i < 17 → Byte (atL (grT b c) (20 + i))) := by
  refine ⟨fun i hi => ?_, fun i hi => ?_⟩
  · unfold atL grT
    rw [List.getD_eq_getElem?_getD, List.getElem?_append_left (by simp; omega), List.getElem?_append_right (by simp), List.getElem?_replicate]
    split <;> exact ⟨by decide, by decide⟩
  · have e : atL (grT b c) (20 + i) = b i := by
      unfold atL grT
      rw [List.getD_eq_getElem?_getD, List.getElem?_append_right (by simp)]
      simp only [List.length_append, List.length_cons, List.length_nil, List.length_replicate, Nat.zero_add, Nat.reduceAdd]
      rw [show 20 + i - 20 = i by omega, listF_get, if_pos hi, Nat.zero_add]; rfl
    rw [e]; exact hb i hi
theorem Inv_G {o : Int} {e n : Nat → Int} (h0 : Inv e n) : ∀ i, Inv (eG o e i) (nG o n i)
  | 0 => h0
  | i + 1 => Inv_step (Inv_n.2 (Inv_G h0 i)) (grR_byte 3 0 o 0).1 (grR_byte 3 0 o 0).2
abbrev gwKeep : List Nat := [2, 9, 10, 11]
noncomputable abbrev gwBody : Code := bodyAt Try.prog 9 8
abbrev gwO (T o i : Int) : List SV := [.int .i64 T, .ptr 0 0, .int .i64 o, .int .i64 i]
abbrev gwS (T o : Int) (i : Nat) : List (Nat × SV) := gwKeep.zip (gwO T o (i : Int))
theorem gw_go (T o : Int) (i : Nat) (e n : Nat → Int) (l w : List (List Int)) : runC gm 300 51 [.br true, .br true] gwBody (gwS T o i) (plB e n l w) gwKeep [0, 1, 3] =
    some (.normal, gwO T o ((i : Int) + 1), (plB (scE (atL (grR 3 0 o 0)) (n40 e)) (scN (atL (grR 3 0 o 0)) (n136 n)) (l ++ scL (atL (grR 3 0 o 0))) (w ++ scL (atL (grR 3 0 o 0)))).map some, [decide ((i : Int) < T) = true, decide ((i : Int) < 500) = true, Inv (n40 e) (n136 n), l.length < 1000000, w.length < 1099511627776, Fits .i64 ((i : Int) + 1)]) :=
  r3_parts4 (by kernel_rfl) (by kernel_rfl) (by kernel_rfl) (by kernel_rfl)
theorem gw_end (T o : Int) (i : Nat) (e n : Nat → Int) (l w : List (List Int)) : runC gm 300 51 [.br false] gwBody (gwS T o i) (plB e n l w) gwKeep [0, 1, 2] =
    some (.exit 0, gwO T o (i : Int), (plB e n l w).map some, [decide ((i : Int) < T) = false]) :=
  r3_parts4 (by kernel_rfl) (by kernel_rfl) (by kernel_rfl) (by kernel_rfl)
theorem gw_most (T o : Int) (i : Nat) (e n : Nat → Int) (l w : List (List Int)) : runC gm 300 51 [.br true, .br false] gwBody (gwS T o i) (plB e n l w) gwKeep [0, 1, 2] =
    some (.exit 0, gwO T o (i : Int), (plB e n l w).map some, [decide ((i : Int) < T) = true, decide ((i : Int) < 500) = false]) :=
  r3_parts4 (by kernel_rfl) (by kernel_rfl) (by kernel_rfl) (by kernel_rfl)
abbrev gwN (T : Int) : Nat := min T.toNat 500
noncomputable def gwG : LoopF := fun vals B => match vals, B with
  | [.int .i64 T, .ptr 0 0, .int .i64 o, .int .i64 0], [.cells cs, .log w, .rows K l] => match bankAs cs, tailK (cs.drop 176), sameKs K [.i64, .i64] with
    | some (le, ln), .logs, true => some ([(9, .ptr 0 0)], plB (eG o (atL le) (gwN T)) (nG o (atL ln) (gwN T)) (lG o l (gwN T)) (lG o w (gwN T)), [Inv (atL le) (atL ln), l.length < 1000, w.length < 1000])
    | _, _, _ => none
  | _, _ => none
theorem gw_loop : LoopGood gm 51 (.loop gwBody) gwKeep 2 (.exit 0) (mkLoopN gwG) := by
  refine LoopGood.mkN (by decide) fun vals B S' B' C hG hC hlen w0 O hgl => ?_
  clear hlen
  unfold gwG at hG
  split at hG
  · rename_i T o cs w K l
    split at hG
    · rename_i le ln hb hd hK
      obtain rfl := sameKs_eq hK
      have hd := tail_logs hd
      simp only [Option.some.injEq, Prod.mk.injEq] at hG
      obtain ⟨rfl, rfl, rfl⟩ := hG
      simp only [allC_cons, allC_nil, and_true] at hC
      obtain ⟨hI, h1, h2⟩ := hC
      refine SimC.preI (B1 := plB (atL le) (atL ln) l w) ?_ ⟨cells_bank hb hd rfl rfl, ⟨BImp.refl _, fun _ h => by simp at h⟩, ⟨BImp.refl _, fun _ h => by simp at h⟩, trivial⟩
      show SimC _ _ _ _ _ (gwS T o 0) (plB (eG o (atL le) 0) (nG o (atL ln) 0) (lG o l 0) (lG o w 0)) _ _ _ _
      have hN1 : gwN T ≤ T.toNat := Nat.min_le_left _ _
      have hN5 : gwN T ≤ 500 := Nat.min_le_right _ _
      have hIz := Inv_G (o := o) hI
      refine SimC.iter (g := gm) (e := .exit 0) (S := fun i => gwS T o i) (B := fun i => plB (eG o (atL le) i) (nG o (atL ln) i) (lG o l i) (lG o w i)) (N := gwN T) (fun i hi => ?_) ?_ (by simp) 0 (by omega)
      · have F1 : Fits .i64 ((i : Int) + 1) := fits_of (by omega) (by omega)
        have l1 := lG_len o l i
        have l2 := lG_len o w i
        refine SimC.run (B' := plB (eG o (atL le) (i + 1)) (nG o (atL ln) (i + 1)) (lG o l (i + 1)) (lG o w (i + 1))) gm_ok (by decide) (gw_go T o i _ _ _ _) ?_ (by decide) (ids_01 3) (by decide) (by simp) hgl
        simp only [allC_cons, allC_nil, and_true]
        exact ⟨decide_eq_true (by omega), decide_eq_true (by omega), Inv_n.2 (hIz i), by omega, by omega, F1⟩
      · by_cases h4 : T.toNat ≤ 500
        · have e : gwN T = T.toNat := Nat.min_eq_left h4
          rw [e]
          exact SimC.weaken (SimC.run (B' := plB (eG o (atL le) T.toNat) (nG o (atL ln) T.toNat) (lG o l T.toNat) (lG o w T.toNat)) gm_ok (by decide) (gw_end T o T.toNat _ _ _ _) (by simp only [allC_cons, allC_nil, and_true]; exact decide_eq_false (by omega)) (by decide) (ids_01 2) (by decide) (by simp) hgl) (sub_mkT (by simp; exact rfl))
        · have e : gwN T = 500 := Nat.min_eq_right (by omega)
          rw [e]
          exact SimC.weaken (SimC.run (B' := plB (eG o (atL le) 500) (nG o (atL ln) 500) (lG o l 500) (lG o w 500)) gm_ok (by decide) (gw_most T o 500 _ _ _ _) (by simp only [allC_cons, allC_nil, and_true]; exact ⟨decide_eq_true (by omega), decide_eq_false (by omega)⟩) (by decide) (ids_01 2) (by decide) (by simp) hgl) (sub_mkT (by simp; exact rfl))
    · simp at hG
  · simp at hG
section
variable (a b : Nat → Int) (T o : Int)
noncomputable abbrev g1E : Nat → Int := scE (atL (grT a 0)) (atL z40)
noncomputable abbrev g1N : Nat → Int := scN (atL (grT a 0)) (atL z136)
noncomputable abbrev g2E : Nat → Int := scE (atL (grT b 1)) (n40 (g1E a))
noncomputable abbrev g2N : Nat → Int := scN (atL (grT b 1)) (n136 (g1N a))
abbrev g2L : List (List Int) := scL (atL (grT a 0)) ++ scL (atL (grT b 1))
abbrev g2W : List (List Int) := ([] ++ scL (atL (grT a 0))) ++ scL (atL (grT b 1))
noncomputable abbrev g3E : Nat → Int := eG o (n40 (g2E a b)) (gwN T)
noncomputable abbrev g3N : Nat → Int := nG o (n136 (g2N a b)) (gwN T)
abbrev g3L : List (List Int) := lG o (g2L a b) (gwN T)
abbrev g3W : List (List Int) := lG o (g2W a b) (gwN T)
noncomputable abbrev g4E : Nat → Int := scE (atL (grR 4 0 0 2)) (n40 (g3E a b T o))
noncomputable abbrev g4N : Nat → Int := scN (atL (grR 4 0 0 2)) (n136 (g3N a b T o))
abbrev g4L : List (List Int) := g3L a b T o ++ scL (atL (grR 4 0 0 2))
abbrev g4W : List (List Int) := g3W a b T o ++ scL (atL (grR 4 0 0 2))
noncomputable abbrev g5E : Nat → Int := scE (atL (grR 4 2 1 3)) (n40 (g4E a b T o))
noncomputable abbrev g5N : Nat → Int := scN (atL (grR 4 2 1 3)) (n136 (g4N a b T o))
abbrev g5L : List (List Int) := g4L a b T o ++ scL (atL (grR 4 2 1 3))
abbrev g5W : List (List Int) := g4W a b T o ++ scL (atL (grR 4 2 1 3))
noncomputable abbrev g6E : Nat → Int := scE (atL (grR 3 3 2 4)) (n40 (g5E a b T o))
noncomputable abbrev g6N : Nat → Int := scN (atL (grR 3 3 2 4)) (n136 (g5N a b T o))
abbrev g6L : List (List Int) := g5L a b T o ++ scL (atL (grR 3 3 2 4))
abbrev g6W : List (List Int) := g5W a b T o ++ scL (atL (grR 3 3 2 4))
end
abbrev grC (a b : Nat → Int) (T o : Int) (s c : Bool) : List Prop :=
  [Inv (atL z40) (atL z136), ([] : List (List Int)).length < 1099511627776, Inv (n40 (g1E a)) (n136 (g1N a)), (scL (atL (grT a 0))).length < 1000000, ([] ++ scL (atL (grT a 0))).length < 1099511627776, s = c,
   LoopGood gm 51 (.loop gwBody) gwKeep 2 (.exit 0) (mkLoopN gwG), Inv (n40 (g2E a b)) (n136 (g2N a b)), (g2L a b).length < 1000, (g2W a b).length < 1000,
   Inv (n40 (g3E a b T o)) (n136 (g3N a b T o)), (g3L a b T o).length < 1000000, (g3W a b T o).length < 1099511627776,
   Inv (n40 (g4E a b T o)) (n136 (g4N a b T o)), (g4L a b T o).length < 1000000, (g4W a b T o).length < 1099511627776,
   Inv (n40 (g5E a b T o)) (n136 (g5N a b T o)), (g5L a b T o).length < 1000000, (g5W a b T o).length < 1099511627776,
   true = true, Inv (n40 (g6E a b T o)) (n136 (g6N a b T o)), g6W a b T o = g6L a b T o, (g6W a b T o).length < 100000000]
theorem grows_t (a b : Nat → Int) (T : Int) (s : Bool) : runF gm 900 [.br true, .loop 8 gwKeep 2 (.exit 0) (mkLoopN gwG), .br true] 9 [.agg (svF (List.replicate 17 .u8) a 0), .agg (svF (List.replicate 17 .u8) b 0), .int .i64 T, .sbool s] [] [] =
    some (.bool true, [], grC a b T 0 s true) :=
  run_parts (by kernel_rfl) (by kernel_rfl) (by kernel_rfl)
theorem grows_f (a b : Nat → Int) (T : Int) (s : Bool) : runF gm 900 [.br false, .loop 8 gwKeep 2 (.exit 0) (mkLoopN gwG), .br true] 9 [.agg (svF (List.replicate 17 .u8) a 0), .agg (svF (List.replicate 17 .u8) b 0), .int .i64 T, .sbool s] [] [] =
    some (.bool true, [], grC a b T 1 s false) :=
  run_parts (by kernel_rfl) (by kernel_rfl) (by kernel_rfl)
theorem lG_app (o : Int) (l : List (List Int)) : ∀ i, lG o l i = l ++ lG o [] i
  | 0 => by simp [lG]
  | i + 1 => by simp only [lG]; rw [lG_app o l i, List.append_assoc]
theorem gr_ok {a b : Nat → Int} (ha : ∀ j, j < 17 → Byte (a j)) (hb : ∀ j, j < 17 → Byte (b j)) (T o : Int) {s c : Bool} (h : s = c) : AllC (grC a b T o s c) := by
  have hL := gw_loop
  have i1 : Inv (g1E a) (g1N a) := Inv_step Inv_z0 (grT_byte ha 0).1 (grT_byte ha 0).2
  have i2 : Inv (g2E a b) (g2N a b) := Inv_step (Inv_n.2 i1) (grT_byte hb 1).1 (grT_byte hb 1).2
  have i3 : Inv (g3E a b T o) (g3N a b T o) := Inv_G (Inv_n.2 i2) _
  have i4 : Inv (g4E a b T o) (g4N a b T o) := Inv_step (Inv_n.2 i3) (grR_byte 4 0 0 2).1 (grR_byte 4 0 0 2).2
  have i5 : Inv (g5E a b T o) (g5N a b T o) := Inv_step (Inv_n.2 i4) (grR_byte 4 2 1 3).1 (grR_byte 4 2 1 3).2
  have i6 : Inv (g6E a b T o) (g6N a b T o) := Inv_step (Inv_n.2 i5) (grR_byte 3 3 2 4).1 (grR_byte 3 3 2 4).2
  have w2 : g2W a b = g2L a b := by simp [g2W, g2L]
  have w6 : g6W a b T o = g6L a b T o := by
    unfold g6W g6L g5W g5L g4W g4L g3W g3L
    rw [w2]
  have l1 := scL_len (atL (grT a 0))
  have l2 := scL_len (atL (grT b 1))
  have l4 := scL_len (atL (grR 4 0 0 2))
  have l5 := scL_len (atL (grR 4 2 1 3))
  have l6 := scL_len (atL (grR 3 3 2 4))
  have n2 : (g2L a b).length ≤ 2 := by simp only [g2L, List.length_append]; omega
  have m2 : (g2W a b).length ≤ 2 := by rw [w2]; exact n2
  have n3 : (g3L a b T o).length ≤ 502 := by
    have := lG_len o (g2L a b) (gwN T)
    have h5 : gwN T ≤ 500 := Nat.min_le_right _ _
    simp only [g3L]; omega
  have m3 : (g3W a b T o).length ≤ 502 := by rw [g3W, w2]; exact n3
  have n4 : (g4L a b T o).length ≤ 503 := by simp only [g4L, List.length_append]; omega
  have m4 : (g4W a b T o).length ≤ 503 := by simp only [g4W, List.length_append]; omega
  have n5 : (g5L a b T o).length ≤ 504 := by simp only [g5L, List.length_append] at *; omega
  have m5 : (g5W a b T o).length ≤ 504 := by simp only [g5W, List.length_append] at *; omega
  have m6 : (g6W a b T o).length ≤ 505 := by simp only [g6W, List.length_append] at *; omega
  simp only [grC, allC_cons, allC_nil, and_true]
  exact ⟨Inv_z0, by simp, Inv_n.2 i1, by omega, by rw [List.nil_append]; omega, h, hL, Inv_n.2 i2, by omega, by omega, Inv_n.2 i3, by omega, by omega, Inv_n.2 i4, by omega, by omega, Inv_n.2 i5, by omega, by omega, trivial, Inv_n.2 i6, w6, by omega⟩
theorem grows_ok (a : Nat → Int) (ha : ∀ (i : Nat) (q : IntKind), (List.replicate 17 IntKind.u8)[i]? = some q → Fits q (a i)) (b : Nat → Int) (hb : ∀ (i : Nat) (q : IntKind), (List.replicate 17 IntKind.u8)[i]? = some q → Fits q (b i)) (T : Int) (s : Bool) :
    FnOk gm 9 [.agg (svF (List.replicate 17 .u8) a 0), .agg (svF (List.replicate 17 .u8) b 0), .int .i64 T, .sbool s] [] { val := .bool true } := by
  have B : ∀ {f : Nat → Int}, (∀ (i : Nat) (q : IntKind), (List.replicate 17 IntKind.u8)[i]? = some q → Fits q (f i)) → ∀ j, j < 17 → Byte (f j) := fun h j hj => by
    have := h j .u8 (by rw [List.getElem?_replicate, if_pos hj])
    exact ⟨this.1, Int.lt_of_le_of_lt this.2 (by decide)⟩
  cases hs : s with
  | true => exact FnOk.pure gm_ok (grows_t a b T true) (gr_ok (B ha) (B hb) T 0 rfl)
  | false => exact FnOk.pure gm_ok (grows_f a b T false) (gr_ok (B ha) (B hb) T 1 rfl)
end Go.Proofs.Ytibfgdbkobgemaa
