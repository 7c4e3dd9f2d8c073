/- Accounts of this seat's functions: lemmas, no statement of their own. No conditions. -/
import Derived.Test.YtejcjdhplpjpjaaTQu
namespace Go.Proofs.Ytejcjdhplpjpjaa
open Go Go.Vx
/-! ### long -/
abbrev LB (d : Nat → List Int) (m : Nat) : Prop := ∀ i, i < m → (d i).length ≤ 140737488351232
noncomputable abbrev lC (f : Nat → SV) (m : Nat) : List Prop := [f = rowL (lOf f), Fits .i64 (m : Int), LB (lOf f) m]
noncomputable def lgG0 : LoopF := fun vals B => match vals, B with
  | [.ro 1 m f, .int .i64 0, .int .i64 0], [] => some ([], [], lC f m ++ [stp (lOf f) m = m])
  | _, _ => none
noncomputable def lgG1 : LoopF := fun vals B => match vals, B with
  | [.ro 1 m f, .int .i64 0, .int .i64 0], [] => some ([(2, .bool true)], [], lC f m ++ [stp (lOf f) m < m])
  | _, _ => none
theorem lgC_ok {m i : Nat} {x e : List Int} {b : Bool} (Fm : Fits .i64 (m : Int)) (hi : i < m) (hx : x.length ≤ 131072) (he : e.length ≤ 140737488351232) (hb : decide (131072 < x.length + e.length) = b) : AllC (lgC m i (x.length : Int) e b) := by
  simp only [lgC, allC_cons, allC_nil, and_true]
  refine ⟨Fm, decide_eq_true (by omega), fits_of (by omega) (by omega), fits_of (by omega) (by omega), ⟨by omega, by omega⟩, ?_⟩
  rw [← hb]
  exact decide_eq_decide.2 (by omega)
theorem q00 (k : List Nat) : ∀ j : Nat, j < 0 → k[j]? = some j := fun j hj => absurd hj (Nat.not_lt_zero j)
theorem lg_round {w0 : World} {O : Go.Vx.Own} (hgl : GlobOk gn w0 O) (d : Nat → List Int) (m : Nat) (Fm : Fits .i64 (m : Int)) (hl : LB d m) (i : Nat) (hi : i < stp d m) :
    SimC gn.P w0 O 23 lgBody (lgS d m ((xZ d i).length : Int) i) [] .normal (lgS d m ((xZ d (i + 1)).length : Int) (i + 1)) [] 0 := by
  have hle := stp_le d m
  have hs := stp_lt hi
  have hx := xZ_len (d := d) (m := m) i (by omega)
  have hm : (m : Int) ≤ 9223372036854775807 := Fm.2
  have e : ((xZ d (i + 1)).length : Int) = ((xZ d i).length : Int) + ((d i).length : Int) := by
    simp only [xZ, List.length_append]; omega
  rw [e]
  refine SimC.run (B' := []) gn_ok (by decide) (lg_go d m i _) (allC_append.2 ⟨lgC_ok Fm (by omega) hx (hl i (by omega)) (decide_eq_false (by omega)), ?_⟩) (by decide) (q00 _) (by decide) (by simp) hgl
  simp only [allC_cons, allC_nil, and_true]
  exact fits_of (by omega) (by omega)
theorem lg_loop0 : LoopGood gn 23 (.loop lgBody) lgKeep 0 (.exit 0) (mkLoopN lgG0) := by
  refine LoopGood.mkN (by decide) fun vals B S' B' C hG hC hlen w0 O hgl => ?_
  clear hlen
  unfold lgG0 at hG
  split at hG
  · rename_i m f
    simp only [Option.some.injEq, Prod.mk.injEq] at hG
    obtain ⟨rfl, rfl, rfl⟩ := hG
    simp only [lC, allC_append, allC_cons, allC_nil, and_true] at hC
    obtain ⟨⟨hf, Fm, hl⟩, hN⟩ := hC
    generalize lOf f = d at *
    rw [hf]
    clear hf
    show SimC _ _ _ _ _ (lgS d m ((xZ d 0).length : Int) 0) [] _ _ _ _
    refine SimC.iter (g := gn) (e := .exit 0) (S := fun i => lgS d m ((xZ d i).length : Int) i) (B := fun _ => []) (N := m) (fun i hi => lg_round hgl d m Fm hl i (by omega)) ?_ (by simp) 0 (by omega)
    exact SimC.weaken (SimC.run (B' := []) gn_ok (by decide) (lg_end d m m _) (by simp only [allC_cons, allC_nil, and_true]; exact ⟨Fm, decide_eq_false (by omega)⟩) (by decide) (q00 _) (by decide) (by simp) hgl) (sub_mkT (by simp))
  · simp at hG
theorem lg_loop1 : LoopGood gn 23 (.loop lgBody) lgKeep 0 .ret (mkLoopN lgG1) := by
  refine LoopGood.mkN (by decide) fun vals B S' B' C hG hC hlen w0 O hgl => ?_
  clear hlen
  unfold lgG1 at hG
  split at hG
  · rename_i m f
    simp only [Option.some.injEq, Prod.mk.injEq] at hG
    obtain ⟨rfl, rfl, rfl⟩ := hG
    simp only [lC, allC_append, allC_cons, allC_nil, and_true] at hC
    obtain ⟨⟨hf, Fm, hl⟩, hN⟩ := hC
    generalize lOf f = d at *
    rw [hf]
    clear hf
    show SimC _ _ _ _ _ (lgS d m ((xZ d 0).length : Int) 0) [] _ _ _ _
    refine SimC.iter (g := gn) (e := .ret) (S := fun i => lgS d m ((xZ d i).length : Int) i) (B := fun _ => []) (N := stp d m) (fun i hi => lg_round hgl d m Fm hl i hi) ?_ (by simp) 0 (by omega)
    exact SimC.weaken (SimC.run (B' := []) gn_ok (by decide) (lg_long d m (stp d m) _) (lgC_ok Fm hN (xZ_len _ (Nat.le_refl _)) (hl _ hN) (decide_eq_true (stp_at hN))) (by decide) (q00 _) (by decide) (by simp) hgl) (sub_mkT (by simp; exact rfl))
  · simp at hG
theorem long_run0 (d : Nat → List Int) (m : Nat) : runF gn 900 [.br false, .loop 5 lgKeep 0 (.exit 0) (mkLoopN lgG0)] 17 [.ro 1 m (rowL d)] [] [] =
    some (.bool false, [], [Fits .i64 (m : Int), decide ((400 : Int) < (m : Int)) = false, LoopGood gn 23 (.loop lgBody) lgKeep 0 (.exit 0) (mkLoopN lgG0)] ++ (lC (rowL d) m ++ [stp d m = m])) :=
  run_parts (by kernel_rfl) (by kernel_rfl) (by kernel_rfl)
theorem long_run1 (d : Nat → List Int) (m : Nat) : runF gn 900 [.br false, .loop 5 lgKeep 0 .ret (mkLoopN lgG1)] 17 [.ro 1 m (rowL d)] [] [] =
    some (.bool true, [], [Fits .i64 (m : Int), decide ((400 : Int) < (m : Int)) = false, LoopGood gn 23 (.loop lgBody) lgKeep 0 .ret (mkLoopN lgG1)] ++ (lC (rowL d) m ++ [stp d m < m])) :=
  run_parts (by kernel_rfl) (by kernel_rfl) (by kernel_rfl)
theorem long_run2 (d : Nat → List Int) (m : Nat) : runF gn 900 [.br true] 17 [.ro 1 m (rowL d)] [] [] =
    some (.bool true, [], [Fits .i64 (m : Int), decide ((400 : Int) < (m : Int)) = true]) :=
  run_parts (by kernel_rfl) (by kernel_rfl) (by kernel_rfl)
noncomputable def F17 : SumF := fun args B => match args, B with
  | [.ro 1 m f], [] => some { val := .sbool (decide (400 < m ∨ stp (lOf f) m < m)), C := lC f m }
  | _, _ => none
theorem acc17 : Acc gn 17 F17 := by
  intro args B out h hC
  unfold F17 at h
  split at h
  · rename_i m f
    simp only [Option.some.injEq] at h; subst h
    have hC2 := hC
    simp only [lC, allC_cons, allC_nil, and_true] at hC2
    obtain ⟨hf, Fm, hl⟩ := hC2
    generalize hd : lOf f = d at *
    have hc : AllC (lC (rowL d) m) := by
      simp only [lC, allC_cons, allC_nil, and_true]; exact ⟨rfl, Fm, hl⟩
    have hL0 := lg_loop0
    have hL1 := lg_loop1
    rw [hf]
    have hle := stp_le d m
    by_cases h4 : 400 < m
    · exact FnOk.toSb (b := true) (FnOk.pure gn_ok (long_run2 d m) (by simp only [allC_cons, allC_nil, and_true]; exact ⟨Fm, decide_eq_true (by omega)⟩)) (decide_eq_true (.inl h4)).symm
    · have h0 : decide ((400 : Int) < (m : Int)) = false := decide_eq_false (by omega)
      by_cases hs : stp d m < m
      · refine FnOk.toSb (b := true) (FnOk.pure gn_ok (long_run1 d m) ?_) (decide_eq_true (.inr hs)).symm
        refine allC_append.2 ⟨?_, allC_append.2 ⟨hc, ?_⟩⟩
        · simp only [allC_cons, allC_nil, and_true]; exact ⟨Fm, h0, hL1⟩
        · simp only [allC_cons, allC_nil, and_true]; exact hs
      · refine FnOk.toSb (b := false) (FnOk.pure gn_ok (long_run0 d m) ?_) (decide_eq_false (by omega)).symm
        refine allC_append.2 ⟨?_, allC_append.2 ⟨hc, ?_⟩⟩
        · simp only [allC_cons, allC_nil, and_true]; exact ⟨Fm, h0, hL0⟩
        · simp only [allC_cons, allC_nil, and_true]; omega
  · simp at h
end Go.Proofs.Ytejcjdhplpjpjaa
