/- Accounts of this seat's functions: lemmas, no statement of their own. No conditions. -/
import Derived.Test.YtghdadkpbofbbaaTXh
namespace Go.Proofs.Ytghdadkpbofbbaa
open Go Go.Vx
theorem dec_enc {x : List Int} {n : Int} (h : Is x n) : BS (L5 (fdecN (BS x))) = BS x := by
  have hM : 0 ≤ n % Q ∧ n % Q < Q := ⟨Int.emod_nonneg _ (by decide), Int.emod_lt_of_pos _ (by decide)⟩
  have e := bytes_eq h
  rw [e]
  generalize n % Q = M at *
  have wb : ∀ i, i < 32 → Byte (atL (listF 32 (byteN M) 0) i) := fun i hi => by
    rw [atL_listF hi]
    exact ⟨Int.emod_nonneg _ (by decide), Int.emod_lt_of_pos _ (by decide)⟩
  have W := is_dec wb
  have le32 : leN 32 (atL (listF 32 (byteN M) 0)) 0 = M := by
    rw [le_same (f := atL (listF 32 (byteN M) 0)) (g := byteN M) 32 0 fun j hj => by rw [Nat.zero_add]; exact atL_listF hj, leN_byte]
    have e1 : ((256 ^ 0 : Nat) : Int) = 1 := rfl
    rw [e1, Int.ediv_one, Int.emod_eq_of_lt hM.1 (Int.lt_trans hM.2 (by decide))]
  rw [le32, Int.emod_eq_of_lt hM.1 (Int.lt_trans hM.2 (by decide))] at W
  rw [bytes_eq W, Int.emod_eq_of_lt hM.1 hM.2]
noncomputable abbrev siE (a : Nat → Nat → Int) (m : Nat) : Nat → Int := eZ (rwA a) (atL z40) (min m 400)
noncomputable abbrev siN (a : Nat → Nat → Int) (m : Nat) : Nat → Int := nZ (rwA a) (atL z128) (min m 400)
abbrev siX (e : Nat → Int) (q : Nat) : List Int := L5 (fun r => e (5 * q + r))
abbrev siA (e : Nat → Int) (q : Nat) : Prop := (!decide (BS (siX e q) = BS (siX e q))) = false
abbrev siB (e : Nat → Int) (q : Nat) : Prop := (!decide (BS (L5 (fdecN (BS (siX e q)))) = BS (siX e q))) = false
noncomputable abbrev siL (a : Nat → Nat → Int) (m : Nat) : List (List Int) := lZ (rwA a) [] (min m 400)
noncomputable abbrev siW (a1 : Nat → Nat → Int) (m1 : Nat) (a2 : Nat → Nat → Int) (m2 : Nat) : List (List Int) := lZ (rwA a1) (siL a2 m2) (min m1 400)
noncomputable abbrev siC (m1 : Nat) (a1 : Nat → Nat → Int) (m2 : Nat) (a2 : Nat → Nat → Int) : List Prop :=
  [LoopGood gQ 128 (.loop s1Body) s1Keep 4 (.exit 0) (mkLoopN s1G), rowsF a2 = rowsF (rwA a2), Fits .i64 (m2 : Int), ∀ i, i < m2 → factsC (rowsF a2 i), Inv (atL z40) (atL z128),
   LoopGood gQ 128 (.loop s2Body) s2Keep 5 (.exit 2) (mkLoopN s2G), rowsF a1 = rowsF (rwA a1), Fits .i64 (m1 : Int), ∀ i, i < m1 → factsC (rowsF a1 i), Inv (n40 (atL z40)) (n128 (atL z128)), Inv (n40 (atL z40)) (n128 (atL z128)), (siL a2 m2).length < 1000,
   siA (siE a1 m1) 0, siB (siE a1 m1) 0, siA (siE a1 m1) 1, siB (siE a1 m1) 1, siA (siE a1 m1) 2, siB (siE a1 m1) 2, siA (siE a1 m1) 3, siB (siE a1 m1) 3, siA (siE a1 m1) 4, siB (siE a1 m1) 4, siA (siE a1 m1) 5, siB (siE a1 m1) 5, siA (siE a1 m1) 6, siB (siE a1 m1) 6, siA (siE a1 m1) 7, siB (siE a1 m1) 7,
   decide (((siW a1 m1 a2 m2).length : Int) = ((siW a1 m1 a2 m2).length : Int)) = true, decide (((siW a1 m1 a2 m2).length : Int) = ((siL a2 m2).length : Int) + ((siL a1 m1).length : Int)) = true, Fits .i64 (((siL a2 m2).length : Int) + ((siL a1 m1).length : Int)), Fits .i64 ((siL a1 m1).length : Int), decide (((siL a2 m2).length : Int) = ((siL a2 m2).length : Int)) = true, Fits .i64 ((siL a2 m2).length : Int)]
theorem silent_run (m1 : Nat) (a1 : Nat → Nat → Int) (m2 : Nat) (a2 : Nat → Nat → Int) : runF gQ 900 ([.loop 6 s1Keep 4 (.exit 0) (mkLoopN s1G), .loop 11 s2Keep 5 (.exit 2) (mkLoopN s2G)] ++ List.replicate 16 (.br false) ++ [.br true, .br true, .br true]) 7 [.ro 38 m1 (rowsF a1), .ro 38 m2 (rowsF a2)] [] [] = some (.sbool true, [], siC m1 a1 m2 a2) :=
  run_parts (by kernel_rfl) (by kernel_rfl) (by kernel_rfl)
theorem lZ_app (a : Nat → Nat → Int) (l : List (List Int)) : ∀ i, lZ a l i = l ++ lZ a [] i
  | 0 => by simp [lZ]
  | i + 1 => by simp only [lZ]; rw [lZ_app a l i, List.append_assoc]
theorem silent_ok (m1 : Nat) (a1 : Nat → Nat → Int) (h1 : Fits .i64 (m1 : Int)) (f1 : ∀ i, i < m1 → factsC (rowsF a1 i)) (m2 : Nat) (a2 : Nat → Nat → Int) (h2 : Fits .i64 (m2 : Int)) (f2 : ∀ i, i < m2 → factsC (rowsF a2 i)) : FnOk gQ 7 [.ro 38 m1 (rowsF a1), .ro 38 m2 (rowsF a2)] [] { val := .sbool true } := by
  refine FnOk.pure gQ_ok (silent_run m1 a1 m2 a2) ?_
  have l1 : (siL a1 m1).length ≤ 400 := by have := lZ_len (rwA a1) [] (min m1 400); simp only [List.length_nil, Nat.zero_add] at this; exact Nat.le_trans this (Nat.min_le_right _ _)
  have l2 : (siL a2 m2).length ≤ 400 := by have := lZ_len (rwA a2) [] (min m2 400); simp only [List.length_nil, Nat.zero_add] at this; exact Nat.le_trans this (Nat.min_le_right _ _)
  have lW : (siW a1 m1 a2 m2).length = (siL a2 m2).length + (siL a1 m1).length := by rw [siW, lZ_app, List.length_append]
  have R : RowsOk m1 (rwA a1) := rows_ok (aOf_sc a1).symm f1
  have hI := Inv_Z R Inv_z0 (min m1 400) (Nat.min_le_left _ _)
  obtain ⟨N, hN⟩ := hI
  have HA : ∀ q, siA (siE a1 m1) q := fun q => by simp
  have HB : ∀ q, q < 8 → siB (siE a1 m1) q := fun q hq => by
    have := dec_enc (hN q hq).1
    simp only [siB, Bool.not_eq_false', decide_eq_true_eq]
    exact this
  have hL1 := s1_loop
  have hL2 := s2_loop
  have F1 : Fits .i64 (((siL a2 m2).length : Int) + ((siL a1 m1).length : Int)) := fits_of (by omega) (by omega)
  have F2 : Fits .i64 ((siL a1 m1).length : Int) := fits_of (by omega) (by omega)
  have F3 : Fits .i64 ((siL a2 m2).length : Int) := fits_of (by omega) (by omega)
  have D2 : decide (((siW a1 m1 a2 m2).length : Int) = ((siL a2 m2).length : Int) + ((siL a1 m1).length : Int)) = true := decide_eq_true (by omega)
  simp only [siC, allC_cons, allC_nil, and_true]
  exact ⟨hL1, (aOf_sc a2).symm, h2, f2, Inv_z0, hL2, (aOf_sc a1).symm, h1, f1, Inv_n.2 Inv_z0, Inv_n.2 Inv_z0, by omega, HA 0, HB 0 (by decide), HA 1, HB 1 (by decide), HA 2, HB 2 (by decide), HA 3, HB 3 (by decide), HA 4, HB 4 (by decide), HA 5, HB 5 (by decide), HA 6, HB 6 (by decide), HA 7, HB 7 (by decide), by simp, D2, F1, F2, by simp, F3⟩
end Go.Proofs.Ytghdadkpbofbbaa
