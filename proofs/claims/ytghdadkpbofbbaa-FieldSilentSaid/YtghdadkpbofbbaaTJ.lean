/- Accounts of this seat's functions: lemmas, no statement of their own. No conditions. -/
import Derived.Test.YtghdadkpbofbbaaTI
namespace Go.Proofs.Ytghdadkpbofbbaa
open Go Go.Vx
/-! ### FieldInverts -/
abbrev eS (x y : List Int) : Bool := decide (BS (L5 (atL x)) = BS (L5 (atL y)))
theorem eS_eq {x y : List Int} {n m : Int} (hx : Is x n) (hy : Is y m) : eS x y = decide (n % Q = m % Q) := by
  unfold eS
  by_cases h : n % Q = m % Q
  · rw [decide_eq_true h]; exact decide_eq_true (eq_of (is_list hx) (is_list hy) h)
  · rw [decide_eq_false h]; exact decide_eq_false fun e => h (ne_of (is_list hx) (is_list hy) e)
abbrev vI (x : List Int) : List Int := L5 (finvN x)
noncomputable abbrev iA (x y : Nat → Int) : List SV := [.agg (b32 x), .agg (b32 y)]
theorem in_run1 (x y : Nat → Int) : runF gH 3000 [.br true, .br false, .br false, .br false, .br true, .br true, .br true] 6 (iA x y) [] [] =
    some (.sbool true, [], [(!eS (dE x) z5) = false, (!eS (vI (dE x)) z5) = false, eS (dE x) z5 = true, (!eS (vI (vI (dE x))) (dE x)) = false,
      eS (vI (mU (dE x) (dE y))) (mU (vI (dE x)) (vI (dE y))) = true, (eS (mU (dE x) (dE y)) z5 == true) = true, eS (dE x) z5 = true]) :=
  run_parts (by kernel_rfl) (by kernel_rfl) (by kernel_rfl)
theorem in_run0 (x y : Nat → Int) : runF gH 3000 [.br false, .br true, .br false, .br false, .br false, .br true, .br true] 6 (iA x y) [] [] =
    some (.sbool true, [], [(!eS (mU (dE x) (vI (dE x))) (kT 1)) = false, (!eS (dE x) z5) = true, eS (dE x) z5 = false, (!eS (vI (vI (dE x))) (dE x)) = false,
      eS (vI (mU (dE x) (dE y))) (mU (vI (dE x)) (vI (dE y))) = true, (eS (mU (dE x) (dE y)) z5 == eS (dE y) z5) = true, eS (dE x) z5 = false]) :=
  run_parts (by kernel_rfl) (by kernel_rfl) (by kernel_rfl)
theorem inverts_ok (x : Nat → Int) (hx : ∀ (i : Nat) (q : IntKind), (List.replicate 32 IntKind.u8)[i]? = some q → Fits q (x i)) (y : Nat → Int) (hy : ∀ (i : Nat) (q : IntKind), (List.replicate 32 IntKind.u8)[i]? = some q → Fits q (y i)) :
    FnOk gH 6 (iA x y) [] { val := .sbool true } := by
  have A : Is (dE x) (dV x) := is_dec (dec_byte hx)
  have B : Is (dE y) (dV y) := is_dec (dec_byte hy)
  have r1 := in_run1 x y
  have r0 := in_run0 x y
  generalize dE x = a at *
  generalize dE y = b at *
  generalize dV x = α at *
  generalize dV y = β at *
  have I := is_inv A
  have K := is_inv B
  have P := is_mul A B
  have Z := is_z
  have K1 : Is (kT 1) 1 := is_k (m := 1) (by decide)
  have eZ : eS a z5 = decide (α % Q = 0) := by rw [eS_eq A Z, Int.zero_emod]
  have eZb : eS b z5 = decide (β % Q = 0) := by rw [eS_eq B Z, Int.zero_emod]
  have eIZ : eS (vI a) z5 = decide (invP α % Q = 0) := by rw [eS_eq I Z, Int.zero_emod]
  have eII : eS (vI (vI a)) a = true := by rw [eS_eq (is_inv I) A]; exact decide_eq_true (inv_inv α)
  have ePI : eS (vI (mU a b)) (mU (vI a) (vI b)) = true := by rw [eS_eq (is_inv P) (is_mul I K), inv_prod]; exact decide_eq_true rfl
  have ePZ : eS (mU a b) z5 = decide (α * β % Q = 0) := by rw [eS_eq P Z, Int.zero_emod]
  have eM1 : eS (mU a (vI a)) (kT 1) = decide (α * invP α % Q = 1 % Q) := eS_eq (is_mul A I) K1
  by_cases h : α % Q = 0
  · refine FnOk.pure gH_ok r1 ?_
    have h1 : α * β % Q = 0 := by rw [Int.mul_emod, h, Int.zero_mul]; exact Int.zero_emod _
    simp only [allC_cons, allC_nil, and_true]
    rw [eZ, eIZ, eII, ePI, ePZ, decide_eq_true h, decide_eq_true (inv_zero h), decide_eq_true h1]
    exact ⟨rfl, rfl, rfl, rfl, rfl, rfl, rfl⟩
  · refine FnOk.pure gH_ok r0 ?_
    have h1 : α * invP α % Q = 1 % Q := (inv_mul h).trans (show (1 : Int) = 1 % Q by decide)
    have h2 : decide (α * β % Q = 0) = decide (β % Q = 0) := by
      by_cases hb : β % Q = 0
      · rw [decide_eq_true hb]; exact decide_eq_true (by rw [Int.mul_emod, hb, Int.mul_zero]; exact Int.zero_emod _)
      · rw [decide_eq_false hb]; exact decide_eq_false fun hp => (zmul_zero hp).elim h hb
    simp only [allC_cons, allC_nil, and_true]
    rw [eZ, eM1, eII, ePI, ePZ, eZb, decide_eq_false h, decide_eq_true h1, h2]
    exact ⟨rfl, rfl, rfl, rfl, rfl, beq_self_eq_true _, rfl⟩
end Go.Proofs.Ytghdadkpbofbbaa
