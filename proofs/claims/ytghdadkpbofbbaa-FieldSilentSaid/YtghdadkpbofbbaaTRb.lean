/- Accounts of this seat's functions: lemmas, no statement of their own. No conditions. -/
import Derived.Test.YtghdadkpbofbbaaTRa
namespace Go.Proofs.Ytghdadkpbofbbaa
open Go Go.Vx
/-! ### below the prime -/
theorem be_15 (t : Nat → Int) : runF gRp 600 [.br true] 50 [.agg (i16 t)] [] [] = some (.sbool (decide (t 15 < 32767)), [], [(!decide (t 15 = 32767)) = true]) :=
  run_parts (by kernel_rfl) (by kernel_rfl) (by kernel_rfl)
theorem be_14 (t : Nat → Int) : runF gRp 600 [.br false, .br true] 50 [.agg (i16 t)] [] [] = some (.sbool (decide (t 14 < 65535)), [], [(!decide (t 15 = 32767)) = false, (!decide (t 14 = 65535)) = true]) :=
  run_parts (by kernel_rfl) (by kernel_rfl) (by kernel_rfl)
theorem be_13 (t : Nat → Int) : runF gRp 600 [.br false, .br false, .br true] 50 [.agg (i16 t)] [] [] = some (.sbool (decide (t 13 < 65535)), [], [(!decide (t 15 = 32767)) = false, (!decide (t 14 = 65535)) = false, (!decide (t 13 = 65535)) = true]) :=
  run_parts (by kernel_rfl) (by kernel_rfl) (by kernel_rfl)
theorem be_12 (t : Nat → Int) : runF gRp 600 [.br false, .br false, .br false, .br true] 50 [.agg (i16 t)] [] [] = some (.sbool (decide (t 12 < 65535)), [], [(!decide (t 15 = 32767)) = false, (!decide (t 14 = 65535)) = false, (!decide (t 13 = 65535)) = false, (!decide (t 12 = 65535)) = true]) :=
  run_parts (by kernel_rfl) (by kernel_rfl) (by kernel_rfl)
theorem be_11 (t : Nat → Int) : runF gRp 600 [.br false, .br false, .br false, .br false, .br true] 50 [.agg (i16 t)] [] [] = some (.sbool (decide (t 11 < 65535)), [], [(!decide (t 15 = 32767)) = false, (!decide (t 14 = 65535)) = false, (!decide (t 13 = 65535)) = false, (!decide (t 12 = 65535)) = false, (!decide (t 11 = 65535)) = true]) :=
  run_parts (by kernel_rfl) (by kernel_rfl) (by kernel_rfl)
theorem be_10 (t : Nat → Int) : runF gRp 600 [.br false, .br false, .br false, .br false, .br false, .br true] 50 [.agg (i16 t)] [] [] = some (.sbool (decide (t 10 < 65535)), [], [(!decide (t 15 = 32767)) = false, (!decide (t 14 = 65535)) = false, (!decide (t 13 = 65535)) = false, (!decide (t 12 = 65535)) = false, (!decide (t 11 = 65535)) = false, (!decide (t 10 = 65535)) = true]) :=
  run_parts (by kernel_rfl) (by kernel_rfl) (by kernel_rfl)
theorem be_9 (t : Nat → Int) : runF gRp 600 [.br false, .br false, .br false, .br false, .br false, .br false, .br true] 50 [.agg (i16 t)] [] [] = some (.sbool (decide (t 9 < 65535)), [], [(!decide (t 15 = 32767)) = false, (!decide (t 14 = 65535)) = false, (!decide (t 13 = 65535)) = false, (!decide (t 12 = 65535)) = false, (!decide (t 11 = 65535)) = false, (!decide (t 10 = 65535)) = false, (!decide (t 9 = 65535)) = true]) :=
  run_parts (by kernel_rfl) (by kernel_rfl) (by kernel_rfl)
theorem be_8 (t : Nat → Int) : runF gRp 600 [.br false, .br false, .br false, .br false, .br false, .br false, .br false, .br true] 50 [.agg (i16 t)] [] [] = some (.sbool (decide (t 8 < 65535)), [], [(!decide (t 15 = 32767)) = false, (!decide (t 14 = 65535)) = false, (!decide (t 13 = 65535)) = false, (!decide (t 12 = 65535)) = false, (!decide (t 11 = 65535)) = false, (!decide (t 10 = 65535)) = false, (!decide (t 9 = 65535)) = false, (!decide (t 8 = 65535)) = true]) :=
  run_parts (by kernel_rfl) (by kernel_rfl) (by kernel_rfl)
theorem be_7 (t : Nat → Int) : runF gRp 600 [.br false, .br false, .br false, .br false, .br false, .br false, .br false, .br false, .br true] 50 [.agg (i16 t)] [] [] = some (.sbool (decide (t 7 < 65535)), [], [(!decide (t 15 = 32767)) = false, (!decide (t 14 = 65535)) = false, (!decide (t 13 = 65535)) = false, (!decide (t 12 = 65535)) = false, (!decide (t 11 = 65535)) = false, (!decide (t 10 = 65535)) = false, (!decide (t 9 = 65535)) = false, (!decide (t 8 = 65535)) = false, (!decide (t 7 = 65535)) = true]) :=
  run_parts (by kernel_rfl) (by kernel_rfl) (by kernel_rfl)
theorem be_6 (t : Nat → Int) : runF gRp 600 [.br false, .br false, .br false, .br false, .br false, .br false, .br false, .br false, .br false, .br true] 50 [.agg (i16 t)] [] [] = some (.sbool (decide (t 6 < 65535)), [], [(!decide (t 15 = 32767)) = false, (!decide (t 14 = 65535)) = false, (!decide (t 13 = 65535)) = false, (!decide (t 12 = 65535)) = false, (!decide (t 11 = 65535)) = false, (!decide (t 10 = 65535)) = false, (!decide (t 9 = 65535)) = false, (!decide (t 8 = 65535)) = false, (!decide (t 7 = 65535)) = false, (!decide (t 6 = 65535)) = true]) :=
  run_parts (by kernel_rfl) (by kernel_rfl) (by kernel_rfl)
theorem be_5 (t : Nat → Int) : runF gRp 600 [.br false, .br false, .br false, .br false, .br false, .br false, .br false, .br false, .br false, .br false, .br true] 50 [.agg (i16 t)] [] [] = some (.sbool (decide (t 5 < 65535)), [], [(!decide (t 15 = 32767)) = false, (!decide (t 14 = 65535)) = false, (!decide (t 13 = 65535)) = false, (!decide (t 12 = 65535)) = false, (!decide (t 11 = 65535)) = false, (!decide (t 10 = 65535)) = false, (!decide (t 9 = 65535)) = false, (!decide (t 8 = 65535)) = false, (!decide (t 7 = 65535)) = false, (!decide (t 6 = 65535)) = false, (!decide (t 5 = 65535)) = true]) :=
  run_parts (by kernel_rfl) (by kernel_rfl) (by kernel_rfl)
theorem be_4 (t : Nat → Int) : runF gRp 600 [.br false, .br false, .br false, .br false, .br false, .br false, .br false, .br false, .br false, .br false, .br false, .br true] 50 [.agg (i16 t)] [] [] = some (.sbool (decide (t 4 < 65535)), [], [(!decide (t 15 = 32767)) = false, (!decide (t 14 = 65535)) = false, (!decide (t 13 = 65535)) = false, (!decide (t 12 = 65535)) = false, (!decide (t 11 = 65535)) = false, (!decide (t 10 = 65535)) = false, (!decide (t 9 = 65535)) = false, (!decide (t 8 = 65535)) = false, (!decide (t 7 = 65535)) = false, (!decide (t 6 = 65535)) = false, (!decide (t 5 = 65535)) = false, (!decide (t 4 = 65535)) = true]) :=
  run_parts (by kernel_rfl) (by kernel_rfl) (by kernel_rfl)
theorem be_3 (t : Nat → Int) : runF gRp 600 [.br false, .br false, .br false, .br false, .br false, .br false, .br false, .br false, .br false, .br false, .br false, .br false, .br true] 50 [.agg (i16 t)] [] [] = some (.sbool (decide (t 3 < 65535)), [], [(!decide (t 15 = 32767)) = false, (!decide (t 14 = 65535)) = false, (!decide (t 13 = 65535)) = false, (!decide (t 12 = 65535)) = false, (!decide (t 11 = 65535)) = false, (!decide (t 10 = 65535)) = false, (!decide (t 9 = 65535)) = false, (!decide (t 8 = 65535)) = false, (!decide (t 7 = 65535)) = false, (!decide (t 6 = 65535)) = false, (!decide (t 5 = 65535)) = false, (!decide (t 4 = 65535)) = false, (!decide (t 3 = 65535)) = true]) :=
  run_parts (by kernel_rfl) (by kernel_rfl) (by kernel_rfl)
theorem be_2 (t : Nat → Int) : runF gRp 600 [.br false, .br false, .br false, .br false, .br false, .br false, .br false, .br false, .br false, .br false, .br false, .br false, .br false, .br true] 50 [.agg (i16 t)] [] [] = some (.sbool (decide (t 2 < 65535)), [], [(!decide (t 15 = 32767)) = false, (!decide (t 14 = 65535)) = false, (!decide (t 13 = 65535)) = false, (!decide (t 12 = 65535)) = false, (!decide (t 11 = 65535)) = false, (!decide (t 10 = 65535)) = false, (!decide (t 9 = 65535)) = false, (!decide (t 8 = 65535)) = false, (!decide (t 7 = 65535)) = false, (!decide (t 6 = 65535)) = false, (!decide (t 5 = 65535)) = false, (!decide (t 4 = 65535)) = false, (!decide (t 3 = 65535)) = false, (!decide (t 2 = 65535)) = true]) :=
  run_parts (by kernel_rfl) (by kernel_rfl) (by kernel_rfl)
theorem be_1 (t : Nat → Int) : runF gRp 600 [.br false, .br false, .br false, .br false, .br false, .br false, .br false, .br false, .br false, .br false, .br false, .br false, .br false, .br false, .br true] 50 [.agg (i16 t)] [] [] = some (.sbool (decide (t 1 < 65535)), [], [(!decide (t 15 = 32767)) = false, (!decide (t 14 = 65535)) = false, (!decide (t 13 = 65535)) = false, (!decide (t 12 = 65535)) = false, (!decide (t 11 = 65535)) = false, (!decide (t 10 = 65535)) = false, (!decide (t 9 = 65535)) = false, (!decide (t 8 = 65535)) = false, (!decide (t 7 = 65535)) = false, (!decide (t 6 = 65535)) = false, (!decide (t 5 = 65535)) = false, (!decide (t 4 = 65535)) = false, (!decide (t 3 = 65535)) = false, (!decide (t 2 = 65535)) = false, (!decide (t 1 = 65535)) = true]) :=
  run_parts (by kernel_rfl) (by kernel_rfl) (by kernel_rfl)
theorem be_0 (t : Nat → Int) : runF gRp 600 [.br false, .br false, .br false, .br false, .br false, .br false, .br false, .br false, .br false, .br false, .br false, .br false, .br false, .br false, .br false, .br true] 50 [.agg (i16 t)] [] [] = some (.sbool (decide (t 0 < 65517)), [], [(!decide (t 15 = 32767)) = false, (!decide (t 14 = 65535)) = false, (!decide (t 13 = 65535)) = false, (!decide (t 12 = 65535)) = false, (!decide (t 11 = 65535)) = false, (!decide (t 10 = 65535)) = false, (!decide (t 9 = 65535)) = false, (!decide (t 8 = 65535)) = false, (!decide (t 7 = 65535)) = false, (!decide (t 6 = 65535)) = false, (!decide (t 5 = 65535)) = false, (!decide (t 4 = 65535)) = false, (!decide (t 3 = 65535)) = false, (!decide (t 2 = 65535)) = false, (!decide (t 1 = 65535)) = false, (!decide (t 0 = 65517)) = true]) :=
  run_parts (by kernel_rfl) (by kernel_rfl) (by kernel_rfl)
theorem be_all (t : Nat → Int) : runF gRp 600 [.br false, .br false, .br false, .br false, .br false, .br false, .br false, .br false, .br false, .br false, .br false, .br false, .br false, .br false, .br false, .br false] 50 [.agg (i16 t)] [] [] = some (.bool false, [], [(!decide (t 15 = 32767)) = false, (!decide (t 14 = 65535)) = false, (!decide (t 13 = 65535)) = false, (!decide (t 12 = 65535)) = false, (!decide (t 11 = 65535)) = false, (!decide (t 10 = 65535)) = false, (!decide (t 9 = 65535)) = false, (!decide (t 8 = 65535)) = false, (!decide (t 7 = 65535)) = false, (!decide (t 6 = 65535)) = false, (!decide (t 5 = 65535)) = false, (!decide (t 4 = 65535)) = false, (!decide (t 3 = 65535)) = false, (!decide (t 2 = 65535)) = false, (!decide (t 1 = 65535)) = false, (!decide (t 0 = 65517)) = false]) :=
  run_parts (by kernel_rfl) (by kernel_rfl) (by kernel_rfl)
/-- digits as they should be -/
def DG (t : Nat → Int) : Prop := (∀ i, i < 16 → 0 ≤ t i ∧ t i < 65536) ∧ t 15 < 32768
def prD (i : Nat) : Int := if i = 0 then 65517 else if i = 15 then 32767 else 65535
/-- by the highest digit that differs -/
theorem hx_split : ∀ (n m : Nat) (f : Nat → Int) (i : Nat), hx (n + m) f i = hx n f i + ((65536 ^ n : Nat) : Int) * hx m f (i + n)
  | 0, m, f, i => by simp [hx]
  | n + 1, m, f, i => by
    rw [show n + 1 + m = (n + m) + 1 by omega]
    simp only [hx, hx_split n m f (i + 1)]
    rw [show i + 1 + n = i + (n + 1) by omega, Nat.pow_succ]
    have : (((65536 ^ n * 65536 : Nat)) : Int) = 65536 * ((65536 ^ n : Nat) : Int) := by omega
    rw [this, Int.mul_add, Int.mul_assoc]; omega
theorem hx_lt : ∀ (n : Nat) {f : Nat → Int} (i : Nat), (∀ j, j < n → 0 ≤ f (i + j) ∧ f (i + j) < 65536) → 0 ≤ hx n f i ∧ hx n f i < ((65536 ^ n : Nat) : Int)
  | 0, f, i, _ => by simp [hx]
  | n + 1, f, i, h => by
    have h0 := h 0 (by omega)
    rw [Nat.add_zero] at h0
    have h1 := hx_lt n (f := f) (i + 1) (fun j hj => by have := h (j + 1) (by omega); rw [show i + 1 + j = i + (j + 1) by omega]; exact this)
    simp only [hx, Nat.pow_succ]
    omega
theorem hx_prD : hx 16 prD 0 = Q := by kernel_rfl
theorem be_eq {t : Nat → Int} (h : DG t) {j : Nat} (hj : j < 16) (he : ∀ i, j < i → i < 16 → t i = prD i) (hne : t j ≠ prD j) : decide (t j < prD j) = decide (hx 16 t 0 < Q) := by
  obtain ⟨m, rfl⟩ : ∃ m, m = 15 - j := ⟨_, rfl⟩
  have e1 : hx 16 t 0 = hx j t 0 + ((65536 ^ j : Nat) : Int) * (t j + 65536 * hx (15 - j) t (j + 1)) := by
    have := hx_split j (15 - j + 1) t 0
    rw [show j + (15 - j + 1) = 16 by omega, Nat.zero_add] at this
    rw [this]; rfl
  have e2 : Q = hx j prD 0 + ((65536 ^ j : Nat) : Int) * (prD j + 65536 * hx (15 - j) prD (j + 1)) := by
    have := hx_split j (15 - j + 1) prD 0
    rw [show j + (15 - j + 1) = 16 by omega, Nat.zero_add, hx_prD] at this
    rw [this]; rfl
  have e3 : hx (15 - j) t (j + 1) = hx (15 - j) prD (j + 1) := hx_congr (15 - j) (j + 1) fun i hi => he _ (by omega) (by omega)
  have b1 := hx_lt j (f := t) 0 (fun i hi => by rw [Nat.zero_add]; exact h.1 i (by omega))
  have b2 := hx_lt j (f := prD) 0 (fun i hi => by unfold prD; split <;> (try split) <;> omega)
  rw [e1, e2, e3]
  generalize hx (15 - j) prD (j + 1) = Z
  generalize ((65536 ^ j : Nat) : Int) = K at *
  generalize hx j t 0 = A at *
  generalize hx j prD 0 = C at *
  generalize t j = x at *
  generalize prD j = y at *
  have hK : 0 < K := by omega
  rw [Int.mul_add, Int.mul_add]
  generalize K * (65536 * Z) = W
  by_cases hl : x < y
  · rw [decide_eq_true hl]
    symm
    apply decide_eq_true
    have : K * x + K ≤ K * y := by
      have := Int.mul_le_mul_of_nonneg_left (show x + 1 ≤ y by omega) (show 0 ≤ K by omega)
      rw [Int.mul_add, Int.mul_one] at this; exact this
    omega
  · rw [decide_eq_false hl]
    symm
    apply decide_eq_false
    have : K * y + K ≤ K * x := by
      have := Int.mul_le_mul_of_nonneg_left (show y + 1 ≤ x by omega) (show 0 ≤ K by omega)
      rw [Int.mul_add, Int.mul_one] at this; exact this
    omega
noncomputable def beF : SumF := fun args B => match args, B with
  | [.agg xs], [] => match numsAs (List.replicate 16 .i64) xs with
    | some l => some { val := .sbool (decide (hxL l < Q)), C := [DG (atL l)] }
    | none => none
  | _, _ => none
theorem be_ok {t : Nat → Int} (h : DG t) : FnOk gRp 50 [.agg (i16 t)] [] { val := .sbool (decide (hx 16 t 0 < Q)) } := by
  have q1 : ∀ {x y : Int}, x = y → (!decide (x = y)) = false := fun h => by simp [h]
  have q2 : ∀ {x y : Int}, x ≠ y → (!decide (x = y)) = true := fun h => by simp [h]
  by_cases n15 : t 15 = 32767
  case neg =>
    rw [← be_eq h (j := 15) (by decide) (fun i h1 h2 => by
      obtain h3 := (by omega : False)
      exact h3.elim) n15]
    exact FnOk.pure gRp_ok (be_15 t) (by simp only [allC_cons, allC_nil, and_true]; exact q2 n15)
  by_cases n14 : t 14 = 65535
  case neg =>
    rw [← be_eq h (j := 14) (by decide) (fun i h1 h2 => by
      obtain rfl := (by omega : i = 15)
      exact n15) n14]
    exact FnOk.pure gRp_ok (be_14 t) (by simp only [allC_cons, allC_nil, and_true]; exact ⟨q1 n15, q2 n14⟩)
  by_cases n13 : t 13 = 65535
  case neg =>
    rw [← be_eq h (j := 13) (by decide) (fun i h1 h2 => by
      obtain rfl | rfl := (by omega : i = 15 ∨ i = 14)
      · exact n15
      · exact n14) n13]
    exact FnOk.pure gRp_ok (be_13 t) (by simp only [allC_cons, allC_nil, and_true]; exact ⟨q1 n15, q1 n14, q2 n13⟩)
  by_cases n12 : t 12 = 65535
  case neg =>
    rw [← be_eq h (j := 12) (by decide) (fun i h1 h2 => by
      obtain rfl | rfl | rfl := (by omega : i = 15 ∨ i = 14 ∨ i = 13)
      · exact n15
      · exact n14
      · exact n13) n12]
    exact FnOk.pure gRp_ok (be_12 t) (by simp only [allC_cons, allC_nil, and_true]; exact ⟨q1 n15, q1 n14, q1 n13, q2 n12⟩)
  by_cases n11 : t 11 = 65535
  case neg =>
    rw [← be_eq h (j := 11) (by decide) (fun i h1 h2 => by
      obtain rfl | rfl | rfl | rfl := (by omega : i = 15 ∨ i = 14 ∨ i = 13 ∨ i = 12)
      · exact n15
      · exact n14
      · exact n13
      · exact n12) n11]
    exact FnOk.pure gRp_ok (be_11 t) (by simp only [allC_cons, allC_nil, and_true]; exact ⟨q1 n15, q1 n14, q1 n13, q1 n12, q2 n11⟩)
  by_cases n10 : t 10 = 65535
  case neg =>
    rw [← be_eq h (j := 10) (by decide) (fun i h1 h2 => by
      obtain rfl | rfl | rfl | rfl | rfl := (by omega : i = 15 ∨ i = 14 ∨ i = 13 ∨ i = 12 ∨ i = 11)
      · exact n15
      · exact n14
      · exact n13
      · exact n12
      · exact n11) n10]
    exact FnOk.pure gRp_ok (be_10 t) (by simp only [allC_cons, allC_nil, and_true]; exact ⟨q1 n15, q1 n14, q1 n13, q1 n12, q1 n11, q2 n10⟩)
  by_cases n9 : t 9 = 65535
  case neg =>
    rw [← be_eq h (j := 9) (by decide) (fun i h1 h2 => by
      obtain rfl | rfl | rfl | rfl | rfl | rfl := (by omega : i = 15 ∨ i = 14 ∨ i = 13 ∨ i = 12 ∨ i = 11 ∨ i = 10)
      · exact n15
      · exact n14
      · exact n13
      · exact n12
      · exact n11
      · exact n10) n9]
    exact FnOk.pure gRp_ok (be_9 t) (by simp only [allC_cons, allC_nil, and_true]; exact ⟨q1 n15, q1 n14, q1 n13, q1 n12, q1 n11, q1 n10, q2 n9⟩)
  by_cases n8 : t 8 = 65535
  case neg =>
    rw [← be_eq h (j := 8) (by decide) (fun i h1 h2 => by
      obtain rfl | rfl | rfl | rfl | rfl | rfl | rfl := (by omega : i = 15 ∨ i = 14 ∨ i = 13 ∨ i = 12 ∨ i = 11 ∨ i = 10 ∨ i = 9)
      · exact n15
      · exact n14
      · exact n13
      · exact n12
      · exact n11
      · exact n10
      · exact n9) n8]
    exact FnOk.pure gRp_ok (be_8 t) (by simp only [allC_cons, allC_nil, and_true]; exact ⟨q1 n15, q1 n14, q1 n13, q1 n12, q1 n11, q1 n10, q1 n9, q2 n8⟩)
  by_cases n7 : t 7 = 65535
  case neg =>
    rw [← be_eq h (j := 7) (by decide) (fun i h1 h2 => by
      obtain rfl | rfl | rfl | rfl | rfl | rfl | rfl | rfl := (by omega : i = 15 ∨ i = 14 ∨ i = 13 ∨ i = 12 ∨ i = 11 ∨ i = 10 ∨ i = 9 ∨ i = 8)
      · exact n15
      · exact n14
      · exact n13
      · exact n12
      · exact n11
      · exact n10
      · exact n9
      · exact n8) n7]
    exact FnOk.pure gRp_ok (be_7 t) (by simp only [allC_cons, allC_nil, and_true]; exact ⟨q1 n15, q1 n14, q1 n13, q1 n12, q1 n11, q1 n10, q1 n9, q1 n8, q2 n7⟩)
  by_cases n6 : t 6 = 65535
  case neg =>
    rw [← be_eq h (j := 6) (by decide) (fun i h1 h2 => by
      obtain rfl | rfl | rfl | rfl | rfl | rfl | rfl | rfl | rfl := (by omega : i = 15 ∨ i = 14 ∨ i = 13 ∨ i = 12 ∨ i = 11 ∨ i = 10 ∨ i = 9 ∨ i = 8 ∨ i = 7)
      · exact n15
      · exact n14
      · exact n13
      · exact n12
      · exact n11
      · exact n10
      · exact n9
      · exact n8
      · exact n7) n6]
    exact FnOk.pure gRp_ok (be_6 t) (by simp only [allC_cons, allC_nil, and_true]; exact ⟨q1 n15, q1 n14, q1 n13, q1 n12, q1 n11, q1 n10, q1 n9, q1 n8, q1 n7, q2 n6⟩)
  by_cases n5 : t 5 = 65535
  case neg =>
    rw [← be_eq h (j := 5) (by decide) (fun i h1 h2 => by
      obtain rfl | rfl | rfl | rfl | rfl | rfl | rfl | rfl | rfl | rfl := (by omega : i = 15 ∨ i = 14 ∨ i = 13 ∨ i = 12 ∨ i = 11 ∨ i = 10 ∨ i = 9 ∨ i = 8 ∨ i = 7 ∨ i = 6)
      · exact n15
      · exact n14
      · exact n13
      · exact n12
      · exact n11
      · exact n10
      · exact n9
      · exact n8
      · exact n7
      · exact n6) n5]
    exact FnOk.pure gRp_ok (be_5 t) (by simp only [allC_cons, allC_nil, and_true]; exact ⟨q1 n15, q1 n14, q1 n13, q1 n12, q1 n11, q1 n10, q1 n9, q1 n8, q1 n7, q1 n6, q2 n5⟩)
  by_cases n4 : t 4 = 65535
  case neg =>
    rw [← be_eq h (j := 4) (by decide) (fun i h1 h2 => by
      obtain rfl | rfl | rfl | rfl | rfl | rfl | rfl | rfl | rfl | rfl | rfl := (by omega : i = 15 ∨ i = 14 ∨ i = 13 ∨ i = 12 ∨ i = 11 ∨ i = 10 ∨ i = 9 ∨ i = 8 ∨ i = 7 ∨ i = 6 ∨ i = 5)
      · exact n15
      · exact n14
      · exact n13
      · exact n12
      · exact n11
      · exact n10
      · exact n9
      · exact n8
      · exact n7
      · exact n6
      · exact n5) n4]
    exact FnOk.pure gRp_ok (be_4 t) (by simp only [allC_cons, allC_nil, and_true]; exact ⟨q1 n15, q1 n14, q1 n13, q1 n12, q1 n11, q1 n10, q1 n9, q1 n8, q1 n7, q1 n6, q1 n5, q2 n4⟩)
  by_cases n3 : t 3 = 65535
  case neg =>
    rw [← be_eq h (j := 3) (by decide) (fun i h1 h2 => by
      obtain rfl | rfl | rfl | rfl | rfl | rfl | rfl | rfl | rfl | rfl | rfl | rfl := (by omega : i = 15 ∨ i = 14 ∨ i = 13 ∨ i = 12 ∨ i = 11 ∨ i = 10 ∨ i = 9 ∨ i = 8 ∨ i = 7 ∨ i = 6 ∨ i = 5 ∨ i = 4)
      · exact n15
      · exact n14
      · exact n13
      · exact n12
      · exact n11
      · exact n10
      · exact n9
      · exact n8
      · exact n7
      · exact n6
      · exact n5
      · exact n4) n3]
    exact FnOk.pure gRp_ok (be_3 t) (by simp only [allC_cons, allC_nil, and_true]; exact ⟨q1 n15, q1 n14, q1 n13, q1 n12, q1 n11, q1 n10, q1 n9, q1 n8, q1 n7, q1 n6, q1 n5, q1 n4, q2 n3⟩)
  by_cases n2 : t 2 = 65535
  case neg =>
    rw [← be_eq h (j := 2) (by decide) (fun i h1 h2 => by
      obtain rfl | rfl | rfl | rfl | rfl | rfl | rfl | rfl | rfl | rfl | rfl | rfl | rfl := (by omega : i = 15 ∨ i = 14 ∨ i = 13 ∨ i = 12 ∨ i = 11 ∨ i = 10 ∨ i = 9 ∨ i = 8 ∨ i = 7 ∨ i = 6 ∨ i = 5 ∨ i = 4 ∨ i = 3)
      · exact n15
      · exact n14
      · exact n13
      · exact n12
      · exact n11
      · exact n10
      · exact n9
      · exact n8
      · exact n7
      · exact n6
      · exact n5
      · exact n4
      · exact n3) n2]
    exact FnOk.pure gRp_ok (be_2 t) (by simp only [allC_cons, allC_nil, and_true]; exact ⟨q1 n15, q1 n14, q1 n13, q1 n12, q1 n11, q1 n10, q1 n9, q1 n8, q1 n7, q1 n6, q1 n5, q1 n4, q1 n3, q2 n2⟩)
  by_cases n1 : t 1 = 65535
  case neg =>
    rw [← be_eq h (j := 1) (by decide) (fun i h1 h2 => by
      obtain rfl | rfl | rfl | rfl | rfl | rfl | rfl | rfl | rfl | rfl | rfl | rfl | rfl | rfl := (by omega : i = 15 ∨ i = 14 ∨ i = 13 ∨ i = 12 ∨ i = 11 ∨ i = 10 ∨ i = 9 ∨ i = 8 ∨ i = 7 ∨ i = 6 ∨ i = 5 ∨ i = 4 ∨ i = 3 ∨ i = 2)
      · exact n15
      · exact n14
      · exact n13
      · exact n12
      · exact n11
      · exact n10
      · exact n9
      · exact n8
      · exact n7
      · exact n6
      · exact n5
      · exact n4
      · exact n3
      · exact n2) n1]
    exact FnOk.pure gRp_ok (be_1 t) (by simp only [allC_cons, allC_nil, and_true]; exact ⟨q1 n15, q1 n14, q1 n13, q1 n12, q1 n11, q1 n10, q1 n9, q1 n8, q1 n7, q1 n6, q1 n5, q1 n4, q1 n3, q1 n2, q2 n1⟩)
  by_cases n0 : t 0 = 65517
  case neg =>
    rw [← be_eq h (j := 0) (by decide) (fun i h1 h2 => by
      obtain rfl | rfl | rfl | rfl | rfl | rfl | rfl | rfl | rfl | rfl | rfl | rfl | rfl | rfl | rfl := (by omega : i = 15 ∨ i = 14 ∨ i = 13 ∨ i = 12 ∨ i = 11 ∨ i = 10 ∨ i = 9 ∨ i = 8 ∨ i = 7 ∨ i = 6 ∨ i = 5 ∨ i = 4 ∨ i = 3 ∨ i = 2 ∨ i = 1)
      · exact n15
      · exact n14
      · exact n13
      · exact n12
      · exact n11
      · exact n10
      · exact n9
      · exact n8
      · exact n7
      · exact n6
      · exact n5
      · exact n4
      · exact n3
      · exact n2
      · exact n1) n0]
    exact FnOk.pure gRp_ok (be_0 t) (by simp only [allC_cons, allC_nil, and_true]; exact ⟨q1 n15, q1 n14, q1 n13, q1 n12, q1 n11, q1 n10, q1 n9, q1 n8, q1 n7, q1 n6, q1 n5, q1 n4, q1 n3, q1 n2, q1 n1, q2 n0⟩)
  have e : hx 16 t 0 = Q := by
    rw [← hx_prD]
    refine hx_congr 16 0 fun i hi => ?_
    rw [Nat.zero_add]
    match i, hi with
    | 0, _ => exact n0
    | 1, _ => exact n1
    | 2, _ => exact n2
    | 3, _ => exact n3
    | 4, _ => exact n4
    | 5, _ => exact n5
    | 6, _ => exact n6
    | 7, _ => exact n7
    | 8, _ => exact n8
    | 9, _ => exact n9
    | 10, _ => exact n10
    | 11, _ => exact n11
    | 12, _ => exact n12
    | 13, _ => exact n13
    | 14, _ => exact n14
    | 15, _ => exact n15
    | i + 16, h => exact absurd h (by omega)
  rw [e, show decide (Q < Q) = false from decide_eq_false (by omega)]
  exact FnOk.toSb (b := false) (FnOk.pure gRp_ok (be_all t) (by simp only [allC_cons, allC_nil, and_true]; exact ⟨q1 n15, q1 n14, q1 n13, q1 n12, q1 n11, q1 n10, q1 n9, q1 n8, q1 n7, q1 n6, q1 n5, q1 n4, q1 n3, q1 n2, q1 n1, q1 n0⟩)) rfl
theorem acc_be : Acc gRp 50 beF := by
  intro args B out h hC
  unfold beF at h
  split at h
  · split at h
    · rename_i l hl
      simp only [Option.some.injEq] at h; subst h
      exact FnOk.imp (be_ok (hC _ (by simp))) ⟨nums_imp hl, trivial⟩
    · simp at h
  · simp at h
noncomputable abbrev gRa : Ctx := gRp.add [(49, c3F), (50, beF)]
theorem gRa_ok : CtxU gRa := gRp_ok.add mixed noGo (by
  intro x hx
  simp only [List.mem_cons, List.not_mem_nil, or_false] at hx
  rcases hx with rfl | rfl
  · exact acc_c3
  · exact acc_be)
end Go.Proofs.Ytghdadkpbofbbaa
