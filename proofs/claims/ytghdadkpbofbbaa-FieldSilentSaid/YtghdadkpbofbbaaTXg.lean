/- Accounts of this seat's functions: lemmas, no statement of their own. No conditions. -/
import Derived.Test.YtghdadkpbofbbaaTXf
namespace Go.Proofs.Ytghdadkpbofbbaa
open Go Go.Vx
abbrev bR (b : Nat → Int) (q : Nat) : List Int := [1, 0, 0, (q : Int)] ++ listF 32 (fun j => b (32 * q + j)) 0 ++ [0, 0]
noncomputable def eW (b : Nat → Int) : Nat → (Nat → Int)
  | 0 => atL z40
  | q + 1 => scE (atL (bR b q)) (n40 (eW b q))
noncomputable def nW (b : Nat → Int) : Nat → (Nat → Int)
  | 0 => atL z128
  | q + 1 => scN (atL (bR b q)) (n128 (nW b q))
def lW (b : Nat → Int) : Nat → List (List Int)
  | 0 => []
  | q + 1 => lW b q ++ scL (atL (bR b q))
noncomputable abbrev b256 (b : Nat → Int) : List SV := svF (List.replicate 256 .u8) b 0
theorem grows_run (b : Nat → Int) (m : Nat) (a : Nat → Nat → Int) (T : Int) : runF gQ 900 [.loop 7 goKeep 1 (.exit 2) (mkLoopN goG), .br true] 3 [.agg (b256 b), .ro 38 m (rowsF a), .int .i64 T] [] [] = some (.sbool true, [], [Inv (n40 (eW b 0)) (n128 (nW b 0)), Inv (n40 (eW b 1)) (n128 (nW b 1)), (lW b 1).length < 1000000, Inv (n40 (eW b 2)) (n128 (nW b 2)), (lW b 2).length < 1000000, Inv (n40 (eW b 3)) (n128 (nW b 3)), (lW b 3).length < 1000000, Inv (n40 (eW b 4)) (n128 (nW b 4)), (lW b 4).length < 1000000, Inv (n40 (eW b 5)) (n128 (nW b 5)), (lW b 5).length < 1000000, Inv (n40 (eW b 6)) (n128 (nW b 6)), (lW b 6).length < 1000000, Inv (n40 (eW b 7)) (n128 (nW b 7)), (lW b 7).length < 1000000, LoopGood gQ 54 (.loop goBody) goKeep 1 (.exit 2) (mkLoopN goG), rowsF a = rowsF (rwA a), Fits .i64 (m : Int), ∀ i, i < m → factsC (rowsF a i), Inv (n40 (eW b 8)) (n128 (nW b 8)), (lW b 8).length < 1000, true = true, Inv (n40 (eY (rwA a) (min m 60) (n40 (eW b 8)) (goN T))) (n128 (nY (rwA a) (min m 60) (n128 (nW b 8)) (goN T)))]) :=
  run_parts (by kernel_rfl) (by kernel_rfl) (by kernel_rfl)
theorem lW_len (b : Nat → Int) : ∀ q, (lW b q).length ≤ q
  | 0 => by simp [lW]
  | q + 1 => by have := lW_len b q; have := scL_len (atL (bR b q)); simp only [lW, List.length_append]; omega
theorem bR_at (b : Nat → Int) (q : Nat) : (∀ j, j < 32 → atL (bR b q) (4 + j) = b (32 * q + j)) ∧ atL (bR b q) 36 = 0 ∧ atL (bR b q) 37 = 0 := by
  refine ⟨fun j hj => ?_, ?_, ?_⟩
  · show (bR b q).getD (4 + j) 0 = _
    unfold bR
    rw [List.getD_eq_getElem?_getD, List.getElem?_append_left (by rw [List.length_append, listF_length]; simp; omega), List.getElem?_append_right (by simp)]
    simp only [List.length_cons, List.length_nil, Nat.zero_add, Nat.reduceAdd]
    rw [show 4 + j - 4 = j by omega, listF_get, if_pos hj, Nat.zero_add]; rfl
  · kernel_rfl
  · kernel_rfl
theorem Inv_W {b : Nat → Int} (hb : ∀ (i : Nat) (q : IntKind), (List.replicate 256 IntKind.u8)[i]? = some q → Fits q (b i)) : ∀ q, q ≤ 8 → Inv (eW b q) (nW b q)
  | 0, _ => Inv_z0
  | q + 1, hq => by
    obtain ⟨h1, h2, h3⟩ := bR_at b q
    refine Inv_step (Inv_n.2 (Inv_W hb q (by omega))) (fun i hi => ?_) (by rw [h2]; decide) (by rw [h3]; decide)
    rw [h1 i hi]
    have := hb (32 * q + i) .u8 (by rw [List.getElem?_replicate, if_pos (by omega)])
    exact ⟨this.1, Int.lt_of_le_of_lt this.2 (by decide)⟩
theorem grows_ok (b : Nat → Int) (hb : ∀ (i : Nat) (q : IntKind), (List.replicate 256 IntKind.u8)[i]? = some q → Fits q (b i)) (m : Nat) (a : Nat → Nat → Int) (hm : Fits .i64 (m : Int)) (hf : ∀ i, i < m → factsC (rowsF a i)) (T : Int) :
    FnOk gQ 3 [.agg (b256 b), .ro 38 m (rowsF a), .int .i64 T] [] { val := .sbool true } := by
  refine FnOk.pure gQ_ok (grows_run b m a T) ?_
  have IW := Inv_W hb
  have I : ∀ q, q ≤ 8 → Inv (n40 (eW b q)) (n128 (nW b q)) := fun q hq => Inv_n.2 (IW q hq)
  have L : ∀ q, q ≤ 8 → (lW b q).length < 1000000 := fun q hq => by have := lW_len b q; omega
  have R : RowsOk m (rwA a) := rows_ok (aOf_sc a).symm hf
  have hY := Inv_Y R (Nat.min_le_left m 60) (I 8 (by decide)) (goN T)
  have L8 : (lW b 8).length < 1000 := by have := lW_len b 8; omega
  have hL := go_loop
  simp only [allC_cons, allC_nil, and_true]
  exact ⟨I 0 (by decide), I 1 (by decide), L 1 (by decide), I 2 (by decide), L 2 (by decide), I 3 (by decide), L 3 (by decide), I 4 (by decide), L 4 (by decide), I 5 (by decide), L 5 (by decide), I 6 (by decide), L 6 (by decide), I 7 (by decide), L 7 (by decide), hL, (aOf_sc a).symm, hm, hf, I 8 (by decide), L8, trivial, Inv_n.2 hY⟩
end Go.Proofs.Ytghdadkpbofbbaa
