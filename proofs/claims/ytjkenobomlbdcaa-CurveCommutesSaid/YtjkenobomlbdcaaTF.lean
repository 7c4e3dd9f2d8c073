/- Accounts of this seat's functions: lemmas, no statement of their own. No conditions. -/
import Derived.Test.YtjkenobomlbdcaaTE
namespace Go.Proofs.Ytjkenobomlbdcaa
open Go Go.Vx
theorem atL_listF {n : Nat} {a : Nat → Int} {j : Nat} (hj : j < n) : atL (listF n a 0) j = a j := by
  unfold atL
  rw [List.getD_eq_getElem?_getD, listF_get, if_pos hj, Nat.zero_add]; rfl
/-! ### Swap -/
abbrev swP (s : Int) (x y : Nat → Int) (i : Nat) : Int := uxor (x i) (uand (uneg .u64 (umask s 1)) (uxor (x i) (y i)))
abbrev swQ (s : Int) (x y : Nat → Int) (i : Nat) : Int := uxor (y i) (uand (uneg .u64 (umask s 1)) (uxor (x i) (y i)))
theorem and_ones {n : Nat} (h : n < 2 ^ 64) : (18446744073709551615 : Nat) &&& n = n := by
  have := Nat.and_two_pow_sub_one_of_lt_two_pow h
  rw [Nat.and_comm]; exact this
theorem sw_odd {s x y : Int} (hs : 0 ≤ s) (h1 : s % 2 = 1) (hx : 0 ≤ x ∧ x < 18446744073709551616) (hy : 0 ≤ y ∧ y < 18446744073709551616) :
    uxor x (uand (uneg .u64 (umask s 1)) (uxor x y)) = y ∧ uxor y (uand (uneg .u64 (umask s 1)) (uxor x y)) = x := by
  have em : umask s 1 = 1 := by rw [show umask s 1 = s % 2 from umaskE s 1 hs]; exact h1
  have en : uneg .u64 1 = 18446744073709551615 := rfl
  obtain ⟨a, rfl⟩ := Int.eq_ofNat_of_zero_le hx.1
  obtain ⟨b, rfl⟩ := Int.eq_ofNat_of_zero_le hy.1
  have ha : a < 2 ^ 64 := by have := hx.2; omega
  have hb : b < 2 ^ 64 := by have := hy.2; omega
  rw [em, en]
  have o : ∀ x y : Nat, uxor (x : Int) (y : Int) = ((x ^^^ y : Nat) : Int) := fun _ _ => rfl
  have n : ∀ y : Nat, uand (18446744073709551615 : Int) (y : Int) = (((18446744073709551615 : Nat) &&& y : Nat) : Int) := fun _ => rfl
  rw [o, n, and_ones (Nat.xor_lt_two_pow ha hb), o, o]
  constructor
  · rw [← Nat.xor_assoc, Nat.xor_self, Nat.zero_xor]
  · rw [Nat.xor_comm a b, ← Nat.xor_assoc, Nat.xor_self, Nat.zero_xor]
theorem sw_even {s x y : Int} (hs : 0 ≤ s) (h1 : s % 2 = 0) (hx : 0 ≤ x ∧ x < 18446744073709551616) (hy : 0 ≤ y ∧ y < 18446744073709551616) :
    uxor x (uand (uneg .u64 (umask s 1)) (uxor x y)) = x ∧ uxor y (uand (uneg .u64 (umask s 1)) (uxor x y)) = y := by
  have em : umask s 1 = 0 := by rw [show umask s 1 = s % 2 from umaskE s 1 hs]; exact h1
  have en : uneg .u64 0 = 0 := rfl
  obtain ⟨a, rfl⟩ := Int.eq_ofNat_of_zero_le hx.1
  obtain ⟨b, rfl⟩ := Int.eq_ofNat_of_zero_le hy.1
  rw [em, en]
  have o : ∀ x y : Nat, uxor (x : Int) (y : Int) = ((x ^^^ y : Nat) : Int) := fun _ _ => rfl
  have n : ∀ y : Int, uand 0 y = 0 := fun y => by unfold uand; rw [show (0 : Int).toNat = 0 from rfl, Nat.zero_and]; rfl
  rw [n, show (0 : Int) = ((0 : Nat) : Int) from rfl, o, o, Nat.xor_zero, Nat.xor_zero]
  exact ⟨rfl, rfl⟩
theorem fs_u64 {la : List Int} (h : FS la) : ∀ i, i < 5 → 0 ≤ atL la i ∧ atL la i < 18446744073709551616 := fun i hi => by
  have := h.le i hi; omega
theorem Is_congr {x y : List Int} {n : Int} (hx : Is x n) (h : ∀ i, i < 5 → atL y i = atL x i) : Is y n := by
  obtain ⟨h1, h2⟩ := hx
  have e0 := h 0 (by decide)
  have e1 := h 1 (by decide)
  have e2 := h 2 (by decide)
  have e3 := h 3 (by decide)
  have e4 := h 4 (by decide)
  refine ⟨?_, ?_⟩
  · unfold FS at *; rw [e0, e1, e2, e3, e4]; exact h1
  · unfold W5 at *; rw [e0, e1, e2, e3, e4]; exact h2
/-- what stands behind a Swap -/
theorem is_swP {s : Int} {x y : List Int} {n m : Int} (hs : 0 ≤ s) (hx : Is x n) (hy : Is y m) : Is (listF 5 (swP s (atL x) (atL y)) 0) (if s % 2 = 1 then m else n) := by
  by_cases h : s % 2 = 1
  · rw [if_pos h]
    exact Is_congr hy fun i hi => by rw [atL_listF hi]; exact (sw_odd hs h (fs_u64 hx.1 i hi) (fs_u64 hy.1 i hi)).1
  · rw [if_neg h]
    exact Is_congr hx fun i hi => by rw [atL_listF hi]; exact (sw_even hs (by omega) (fs_u64 hx.1 i hi) (fs_u64 hy.1 i hi)).1
theorem is_swQ {s : Int} {x y : List Int} {n m : Int} (hs : 0 ≤ s) (hx : Is x n) (hy : Is y m) : Is (listF 5 (swQ s (atL x) (atL y)) 0) (if s % 2 = 1 then n else m) := by
  by_cases h : s % 2 = 1
  · rw [if_pos h]
    exact Is_congr hx fun i hi => by rw [atL_listF hi]; exact (sw_odd hs h (fs_u64 hx.1 i hi) (fs_u64 hy.1 i hi)).2
  · rw [if_neg h]
    exact Is_congr hy fun i hi => by rw [atL_listF hi]; exact (sw_even hs (by omega) (fs_u64 hx.1 i hi) (fs_u64 hy.1 i hi)).2
/-- the bit 1, as a literal -/
theorem sw_lit {x y : Int} (hx : 0 ≤ x ∧ x < 18446744073709551616) (hy : 0 ≤ y ∧ y < 18446744073709551616) : uxor x (umask (uxor x y) 18446744073709551615) = y ∧ uxor y (umask (uxor x y) 18446744073709551615) = x := by
  obtain ⟨a, rfl⟩ := Int.eq_ofNat_of_zero_le hx.1
  obtain ⟨b, rfl⟩ := Int.eq_ofNat_of_zero_le hy.1
  have ha : a < 2 ^ 64 := by have := hx.2; omega
  have hb : b < 2 ^ 64 := by have := hy.2; omega
  have o : ∀ x y : Nat, uxor (x : Int) (y : Int) = ((x ^^^ y : Nat) : Int) := fun _ _ => rfl
  have hl := Nat.xor_lt_two_pow ha hb
  have n : umask ((a ^^^ b : Nat) : Int) 18446744073709551615 = ((a ^^^ b : Nat) : Int) := by
    rw [show umask ((a ^^^ b : Nat) : Int) 18446744073709551615 = ((a ^^^ b : Nat) : Int) % 18446744073709551616 from umaskE _ 18446744073709551615 (Int.natCast_nonneg _)]
    omega
  rw [o, n, o, o]
  constructor
  · rw [← Nat.xor_assoc, Nat.xor_self, Nat.zero_xor]
  · rw [Nat.xor_comm a b, ← Nat.xor_assoc, Nat.xor_self, Nat.zero_xor]

/-! ### modulo Q -/
def mm (a b : Int) : Int := a * b % Q
def pwM (a : Int) : Nat → Int
  | 0 => a % Q
  | n + 1 => mm (mm (pwM a n) (pwM a n)) a
def invM (n : Int) : Int :=
  let y := pwM n 249
  let y1 := mm y y
  let y2 := mm (mm y1 y1) n
  let y3 := mm y2 y2
  let y4 := mm (mm y3 y3) n
  mm (mm y4 y4) n
theorem mm_of {a b c e : Int} (h1 : a % Q = c % Q) (h2 : b % Q = e % Q) : a * b % Q = mm c e % Q := by
  unfold mm
  rw [Int.emod_emod_of_dvd _ (Int.dvd_refl Q), Int.mul_emod, h1, h2, ← Int.mul_emod]
theorem pwM_eq (a : Int) : ∀ k, pwN a k % Q = pwM a k % Q
  | 0 => (Int.emod_emod_of_dvd _ (Int.dvd_refl Q)).symm
  | k + 1 => mm_of (mm_of (pwM_eq a k) (pwM_eq a k)) rfl
theorem invM_eq (n : Int) : invP n % Q = invM n % Q := by
  have h := pwM_eq n 249
  have h1 := mm_of h h
  have h2 := mm_of (mm_of h1 h1) (rfl : n % Q = n % Q)
  have h3 := mm_of h2 h2
  have h4 := mm_of (mm_of h3 h3) (rfl : n % Q = n % Q)
  exact mm_of (mm_of h4 h4) (rfl : n % Q = n % Q)
theorem is_invM {x : List Int} {n : Int} (hx : Is x n) : Is (L5 (finvN x)) (invM n) := ⟨(is_inv hx).1, by rw [(is_inv hx).2, invM_eq]⟩
end Go.Proofs.Ytjkenobomlbdcaa
