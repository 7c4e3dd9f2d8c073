/- Accounts of this seat's functions: lemmas, no statement of their own. No conditions. -/
import Derived.Test.YtibfgdbkobgemaaTA
namespace Go.Proofs.Ytibfgdbkobgemaa
open Go Go.Vx

theorem known_run : runF g4 400 (List.replicate 30 (.br true)) 15 [] [] [] =
    some (SV.sbool true, [], [(0 : Nat) < (1099511627776 : Nat), (1 : Nat) < (1099511627776 : Nat), true = true, true = true, true = true, true = true, true = true, true = true, true = true, true = true, true = true]) := by kernel_rfl
def F15 : SumF := fun args B => match args, B with
  | [], [] => some { val := .bool true }
  | _, _ => none
theorem ok15 : Acc g4 15 F15 := by
  intro args B out h _
  unfold F15 at h
  split at h
  · simp only [Option.some.injEq] at h; subst h
    exact (FnOk.pure g4_ok known_run (by simp [allC_cons, allC_nil])).val fun _ _ _ _ d => den_cell rfl (by
      have := denV_bool (l := false) (b := true) d rfl
      rw [this]; rfl) (by
      have := denV_bool (l := false) (b := true) d rfl
      rw [this]; simp [DenC])
  · simp at h
noncomputable def sum5 : FuncId → Option Sum := fun f => match f with
  | 15 => some (mkSumN F15)
  | f => sum4 f
noncomputable def g5 : Ctx := { P := Try.prog, sum := sum5, glob := fun _ => none }
theorem g5_ok : CtxU g5 := by
  refine CtxU.mk (fun f σ h => ?_) mixed noGo
  simp only [g5, sum5] at h
  split at h
  · simp only [Option.some.injEq] at h; subst h
    exact Acc.lift rfl rfl ok15
  · exact fun w0 O hG => (g4_ok w0 O hG).sums f σ h

/-! ### what the limbs are -/
abbrev L5 (f : Nat → Int) : List Int := listF 5 f 0
abbrev BS (x : List Int) : List Int := listF 17 (bytesN x) 0
/-- limbs of n -/
def Is (x : List Int) (n : Int) : Prop := Sett x ∧ V5 (atL x) % P5 = n % P5
theorem sub_mod (n q : Int) : (n - P5 * q) % P5 = n % P5 := Int.sub_mul_emod_self_left n P5 q
theorem is_block {l : List Int} (h : ∀ i, i < 17 → Byte (atL l i)) : Is (L5 (blockN l)) (leN 17 (atL l) 0) := by
  obtain ⟨h1, h2⟩ := numL_spec h
  obtain ⟨h3, q, h4⟩ := settled_spec h1
  refine ⟨h3, ?_⟩
  show V5 (settledN (numL (atL l))) % P5 = _
  rw [h4, sub_mod, h2]
theorem is_add {x y : List Int} {n m : Int} (hx : Is x n) (hy : Is y m) : Is (L5 (addN x y)) (n + m) := by
  obtain ⟨h1, h2⟩ := add_spec hx.1 hy.1
  obtain ⟨h3, q, h4⟩ := settled_spec h1
  refine ⟨h3, ?_⟩
  show V5 (settledN (addL (atL x) (atL y))) % P5 = _
  rw [h4, sub_mod, h2, Int.add_emod, hx.2, hy.2, ← Int.add_emod]
theorem is_mul {x y : List Int} {n m : Int} (hx : Is x n) (hy : Is y m) : Is (L5 (mulN x y)) (n * m) := by
  obtain ⟨h1, q', h2⟩ := mul_spec hx.1 hy.1
  obtain ⟨h3, q, h4⟩ := settled_spec h1
  refine ⟨h3, ?_⟩
  show V5 (settledN (mulL (atL x) (atL y))) % P5 = _
  rw [h4, sub_mod, h2, sub_mod, Int.mul_emod, hx.2, hy.2, ← Int.mul_emod]
theorem bytes_eq {x : List Int} {n : Int} (hx : Is x n) : BS x = listF 17 (byteN (n % P5)) 0 := by
  rw [← hx.2]; exact bytesN_spec hx.1
theorem eq_of {x y : List Int} {n m : Int} (hx : Is x n) (hy : Is y m) (h : n = m) : BS x = BS y := by
  rw [bytes_eq hx, bytes_eq hy, h]

/-! ### PrimeLaws -/
def eqC (x y : List Int) : Prop := (!decide (BS x = BS y)) = false
theorem laws_run (a b c : Nat → Int) : runF g5 300 [.br false, .br false, .br false, .br false, .br true] 3 [.agg (svF (List.replicate 17 .u8) a 0), .agg (svF (List.replicate 17 .u8) b 0), .agg (svF (List.replicate 17 .u8) c 0)] [] [] =
    (let A := L5 (blockN (listF 17 a 0)); let B := L5 (blockN (listF 17 b 0)); let C := L5 (blockN (listF 17 c 0))
    some (.bool true, [], [eqC (L5 (addN A B)) (L5 (addN B A)), eqC (L5 (addN (L5 (addN A B)) C)) (L5 (addN A (L5 (addN B C)))),
      eqC (L5 (mulN A B)) (L5 (mulN B A)), eqC (L5 (mulN (L5 (mulN A B)) C)) (L5 (mulN A (L5 (mulN B C)))),
      decide (BS (L5 (mulN A (L5 (addN B C)))) = BS (L5 (addN (L5 (mulN A B)) (L5 (mulN A C))))) = true])) := by kernel_rfl
theorem bytes_list {a : Nat → Int} (h : factsL (svF (List.replicate 17 .u8) a 0)) : ∀ i, i < 17 → Byte (atL (listF 17 a 0) i) := fun i hi => by
  rw [atL_listF hi]; exact facts8 h i hi
theorem laws_ok (a b c : Nat → Int) : FnOk g5 3 [.agg (svF (List.replicate 17 .u8) a 0), .agg (svF (List.replicate 17 .u8) b 0), .agg (svF (List.replicate 17 .u8) c 0)] [] { val := .bool true } := by
  refine FnOk.facts fun ⟨ha, hb, hc, _⟩ => ?_
  refine FnOk.pure g5_ok (laws_run a b c) ?_
  have iA := is_block (bytes_list ha)
  have iB := is_block (bytes_list hb)
  have iC := is_block (bytes_list hc)
  simp only [allC_cons, allC_nil, and_true, eqC]
  refine ⟨?_, ?_, ?_, ?_, ?_⟩
  · simp only [eq_of (is_add iA iB) (is_add iB iA) (Int.add_comm _ _), decide_true, Bool.not_true]
  · simp only [eq_of (is_add (is_add iA iB) iC) (is_add iA (is_add iB iC)) (Int.add_assoc _ _ _), decide_true, Bool.not_true]
  · simp only [eq_of (is_mul iA iB) (is_mul iB iA) (Int.mul_comm _ _), decide_true, Bool.not_true]
  · simp only [eq_of (is_mul (is_mul iA iB) iC) (is_mul iA (is_mul iB iC)) (Int.mul_assoc _ _ _), decide_true, Bool.not_true]
  · simp only [eq_of (is_mul iA (is_add iB iC)) (is_add (is_mul iA iB) (is_mul iA iC)) (Int.mul_add _ _ _), decide_true]
end Go.Proofs.Ytibfgdbkobgemaa
