/- Accounts of this seat's functions: lemmas, no statement of their own. No conditions. -/
import Derived.Test.YtghdadkpbofbbaaTXe
namespace Go.Proofs.Ytghdadkpbofbbaa
open Go Go.Vx
noncomputable def eY (a : Nat → Nat → Int) (N : Nat) (e : Nat → Int) : Nat → (Nat → Int)
  | 0 => e
  | k + 1 => eZ a (n40 (eY a N e k)) N
noncomputable def nY (a : Nat → Nat → Int) (N : Nat) (n : Nat → Int) : Nat → (Nat → Int)
  | 0 => n
  | k + 1 => nZ a (n128 (nY a N n k)) N
def lY (a : Nat → Nat → Int) (N : Nat) (l : List (List Int)) : Nat → List (List Int)
  | 0 => l
  | k + 1 => lZ a (lY a N l k) N
theorem lY_len (a : Nat → Nat → Int) (N : Nat) (l : List (List Int)) : ∀ k, (lY a N l k).length ≤ l.length + N * k
  | 0 => by simp [lY]
  | k + 1 => by have := lY_len a N l k; have := lZ_len a (lY a N l k) N; simp only [lY]; rw [Nat.mul_succ]; omega
theorem Inv_Y {m : Nat} {a : Nat → Nat → Int} (h : RowsOk m a) {N : Nat} (hN : N ≤ m) {e n : Nat → Int} (h0 : Inv e n) : ∀ k, Inv (eY a N e k) (nY a N n k)
  | 0 => h0
  | k + 1 => Inv_Z h (Inv_n.2 (Inv_Y h hN h0 k)) N hN
theorem go_go (f : Nat → SV) (m k : Nat) (T : Int) (e n : Nat → Int) (l : List (List Int)) : runC gQ 300 54 [.br true, .br true, .loop 10 giKeep 1 (.exit 4) (mkLoopN giG)] goBody (goS f m T k) (giB e n l) goKeep [0, 2] =
    some (.normal, goO f m T ((k : Int) + 1), (giB (eZ (aOf f) (n40 e) (min m 60)) (nZ (aOf f) (n128 n) (min m 60)) (lZ (aOf f) l (min m 60))).map some, [decide ((k : Int) ≤ T) = true, decide ((k : Int) < 20) = true, LoopGood gQ 54 (.loop giBody) giKeep 1 (.exit 4) (mkLoopN giG), f = rowsF (aOf f), Fits .i64 (m : Int), ∀ i, i < m → factsC (f i), Inv (n40 e) (n128 n), l.length < 100000, Fits .i64 ((k : Int) + 1)]) :=
  r3_parts4 (by kernel_rfl) (by kernel_rfl) (by kernel_rfl) (by kernel_rfl)
theorem go_end (f : Nat → SV) (m k : Nat) (T : Int) (e n : Nat → Int) (l : List (List Int)) : runC gQ 300 54 [.br false] goBody (goS f m T k) (giB e n l) goKeep [0, 1] =
    some (.exit 2, goO f m T (k : Int), (giB e n l).map some, [decide ((k : Int) ≤ T) = false]) :=
  r3_parts4 (by kernel_rfl) (by kernel_rfl) (by kernel_rfl) (by kernel_rfl)
theorem go_most (f : Nat → SV) (m k : Nat) (T : Int) (e n : Nat → Int) (l : List (List Int)) : runC gQ 300 54 [.br true, .br false] goBody (goS f m T k) (giB e n l) goKeep [0, 1] =
    some (.exit 2, goO f m T (k : Int), (giB e n l).map some, [decide ((k : Int) ≤ T) = true, decide ((k : Int) < 20) = false]) :=
  r3_parts4 (by kernel_rfl) (by kernel_rfl) (by kernel_rfl) (by kernel_rfl)
abbrev goN (T : Int) : Nat := min (T + 1).toNat 20
noncomputable def goG : LoopF := fun vals B => match vals, B with
  | [.ro 38 m f, .int .i64 T, .ptr 0 0, .int .i64 0], [.cells cs, .rows K l] => match bankAs cs, cs.drop 168, sameKs K [.i64, .i64] with
    | some (le, ln), [.own 1], true => some ([(7, .ptr 0 0)], giB (eY (aOf f) (min m 60) (atL le) (goN T)) (nY (aOf f) (min m 60) (atL ln) (goN T)) (lY (aOf f) (min m 60) l (goN T)), [f = rowsF (aOf f), Fits .i64 (m : Int), ∀ i, i < m → factsC (f i), Inv (atL le) (atL ln), l.length < 1000])
    | _, _, _ => none
  | _, _ => none
theorem go_loop : LoopGood gQ 54 (.loop goBody) goKeep 1 (.exit 2) (mkLoopN goG) := by
  refine LoopGood.mkN (by decide) fun vals B S' B' C hG hC hlen w0 O hgl => ?_
  clear hlen
  unfold goG at hG
  split at hG
  · rename_i m f T cs K l
    split at hG
    · rename_i le ln hb hd hK
      obtain rfl := sameKs_eq hK
      simp only [Option.some.injEq, Prod.mk.injEq] at hG
      obtain ⟨rfl, rfl, rfl⟩ := hG
      simp only [allC_cons, allC_nil, and_true] at hC
      obtain ⟨hf, Fm, hr, hI, hl0⟩ := hC
      have R := rows_ok hf hr
      have hN : min m 60 ≤ m := Nat.min_le_left _ _
      have hN6 : min m 60 ≤ 60 := Nat.min_le_right _ _
      have hIy := Inv_Y R hN hI
      have hly := lY_len (aOf f) (min m 60) l
      generalize hNN : min m 60 = N at *
      refine SimC.preI (B1 := giB (atL le) (atL ln) l) ?_ ⟨cells_bank hb hd rfl, ⟨BImp.refl _, fun _ h => by simp at h⟩, trivial⟩
      show SimC _ _ _ _ _ (goS f m T 0) (giB (eY (aOf f) N (atL le) 0) (nY (aOf f) N (atL ln) 0) (lY (aOf f) N l 0)) _ _ _ _
      have hK20 : goN T ≤ 20 := Nat.min_le_right _ _
      refine SimC.iter (g := gQ) (e := .exit 2) (S := fun k => goS f m T k) (B := fun k => giB (eY (aOf f) N (atL le) k) (nY (aOf f) N (atL ln) k) (lY (aOf f) N l k)) (N := goN T) (fun k hk => ?_) ?_ (by simp) 0 (by omega)
      · have F1 : Fits .i64 ((k : Int) + 1) := fits_of (by omega) (by omega)
        have hkT : k < (T + 1).toNat := Nat.lt_of_lt_of_le hk (Nat.min_le_left _ _)
        have hl : (lY (aOf f) N l k).length < 100000 := by
          have h1 := hly k
          have h2 : N * k ≤ 60 * 20 := Nat.mul_le_mul hN6 (by omega)
          omega
        refine SimC.run (B' := giB (eY (aOf f) N (atL le) (k + 1)) (nY (aOf f) N (atL ln) (k + 1)) (lY (aOf f) N l (k + 1))) gQ_ok (by decide) (by
          have := go_go f m k T (eY (aOf f) N (atL le) k) (nY (aOf f) N (atL ln) k) (lY (aOf f) N l k)
          rw [hNN] at this
          exact this) ?_ (by decide) (ids_0 2) (by decide) (by simp) hgl
        have hL := gi_loop
        simp only [allC_cons, allC_nil, and_true]
        exact ⟨decide_eq_true (by omega), decide_eq_true (by omega), hL, hf, Fm, hr, Inv_n.2 (hIy k), hl, F1⟩
      · by_cases hT : ((goN T : Nat) : Int) ≤ T
        · have e20 : goN T = 20 := by unfold goN at *; omega
          rw [e20] at hT ⊢
          exact SimC.weaken (SimC.run (B' := giB (eY (aOf f) N (atL le) 20) (nY (aOf f) N (atL ln) 20) (lY (aOf f) N l 20)) gQ_ok (by decide) (go_most f m 20 T _ _ _) (by simp only [allC_cons, allC_nil, and_true]; exact ⟨decide_eq_true hT, decide_eq_false (by omega)⟩) (by decide) (ids_0 1) (by decide) (by simp) hgl) (sub_mkT (by simp; exact rfl))
        · exact SimC.weaken (SimC.run (B' := giB (eY (aOf f) N (atL le) (goN T)) (nY (aOf f) N (atL ln) (goN T)) (lY (aOf f) N l (goN T))) gQ_ok (by decide) (go_end f m (goN T) T _ _ _) (by simp only [allC_cons, allC_nil, and_true]; exact decide_eq_false hT) (by decide) (ids_0 1) (by decide) (by simp) hgl) (sub_mkT (by simp; exact rfl))
    · simp at hG
  · simp at hG
end Go.Proofs.Ytghdadkpbofbbaa
