/- Accounts of this seat's functions: lemmas, no statement of their own. No conditions. -/
import Derived.Test.YtibfkpgdpldjbaaTX
namespace Go.Proofs.Ytibfkpgdpldjbaa
open Go Go.Vx
/-! ### the document's turn -/
theorem rt16 (x : Int) : runF g6 300 [] 42 [.int .i64 x, .lit .i64 16] [] [] =
    some (SV.int IntKind.i64 ((x * (65536 : Int)).tmod (4294967296 : Int) + (x * (65536 : Int)).tdiv (4294967296 : Int)), [], [Fits IntKind.i64 ((x * (65536 : Int)).tmod (4294967296 : Int) + (x * (65536 : Int)).tdiv (4294967296 : Int)), Fits IntKind.i64 (x * (65536 : Int)), Fits IntKind.i64 (x * (65536 : Int))]) := by kernel_rfl
theorem rt12 (x : Int) : runF g6 300 [] 42 [.int .i64 x, .lit .i64 12] [] [] =
    some (SV.int IntKind.i64 ((x * (4096 : Int)).tmod (4294967296 : Int) + (x * (4096 : Int)).tdiv (4294967296 : Int)), [], [Fits IntKind.i64 ((x * (4096 : Int)).tmod (4294967296 : Int) + (x * (4096 : Int)).tdiv (4294967296 : Int)), Fits IntKind.i64 (x * (4096 : Int)), Fits IntKind.i64 (x * (4096 : Int))]) := by kernel_rfl
theorem rt8 (x : Int) : runF g6 300 [] 42 [.int .i64 x, .lit .i64 8] [] [] =
    some (SV.int IntKind.i64 ((x * (256 : Int)).tmod (4294967296 : Int) + (x * (256 : Int)).tdiv (4294967296 : Int)), [], [Fits IntKind.i64 ((x * (256 : Int)).tmod (4294967296 : Int) + (x * (256 : Int)).tdiv (4294967296 : Int)), Fits IntKind.i64 (x * (256 : Int)), Fits IntKind.i64 (x * (256 : Int))]) := by kernel_rfl
theorem rt7 (x : Int) : runF g6 300 [] 42 [.int .i64 x, .lit .i64 7] [] [] =
    some (SV.int IntKind.i64 ((x * (128 : Int)).tmod (4294967296 : Int) + (x * (128 : Int)).tdiv (4294967296 : Int)), [], [Fits IntKind.i64 ((x * (128 : Int)).tmod (4294967296 : Int) + (x * (128 : Int)).tdiv (4294967296 : Int)), Fits IntKind.i64 (x * (128 : Int)), Fits IntKind.i64 (x * (128 : Int))]) := by kernel_rfl
theorem rot_nat {x p m : Nat} (hx : x < 2 ^ (p + m)) : (x * 2 ^ p % 2 ^ (p + m)) ||| (x / 2 ^ m) = x * 2 ^ p % 2 ^ (p + m) + x * 2 ^ p / 2 ^ (p + m) := by
  have e1 : x * 2 ^ p % 2 ^ (p + m) = 2 ^ p * (x % 2 ^ m) := by rw [Nat.pow_add, Nat.mul_comm x, Nat.mul_mod_mul_left]
  have e2 : x * 2 ^ p / 2 ^ (p + m) = x / 2 ^ m := by rw [Nat.pow_add, Nat.mul_comm x, Nat.mul_div_mul_left _ _ (Nat.two_pow_pos p)]
  have h : x / 2 ^ m < 2 ^ p := by rw [Nat.div_lt_iff_lt_mul (Nat.two_pow_pos m), ← Nat.pow_add]; exact hx
  rw [e1, e2, Nat.two_pow_add_eq_or_of_lt h]
theorem rot_int {x : Int} (h0 : 0 ≤ x) (h1 : x < 4294967296) (p m : Nat) (hpm : p + m = 32) : rotl (p : Int) (m : Int) x = (x * ((2 ^ p : Nat) : Int)).tmod 4294967296 + (x * ((2 ^ p : Nat) : Int)).tdiv 4294967296 := by
  obtain ⟨x, rfl⟩ := Int.eq_ofNat_of_zero_le h0
  have hx : x < 2 ^ (p + m) := by rw [hpm]; omega
  have hn := rot_nat hx
  rw [hpm] at hn
  unfold rotl ushl ushr uor
  rw [m32]
  simp only [Int.ofNat_eq_natCast, Int.toNat_natCast]
  rw [show (4294967296 : Nat) = 2 ^ 32 from rfl, hn]
  have hpos : (0 : Int) ≤ (x : Int) * ((2 ^ p : Nat) : Int) := by rw [← Int.natCast_mul]; omega
  rw [Int.tmod_eq_emod_of_nonneg hpos, Int.tdiv_eq_ediv_of_nonneg hpos, ← Int.natCast_mul]
  rfl
def F42 : SumF := fun args B => match args, B with
  | [.int .i64 x, .int .i64 16], [] => some { val := .int .i64 (rotl 16 16 x), C := [0 ≤ x, x < 4294967296] }
  | [.int .i64 x, .int .i64 12], [] => some { val := .int .i64 (rotl 12 20 x), C := [0 ≤ x, x < 4294967296] }
  | [.int .i64 x, .int .i64 8], [] => some { val := .int .i64 (rotl 8 24 x), C := [0 ≤ x, x < 4294967296] }
  | [.int .i64 x, .int .i64 7], [] => some { val := .int .i64 (rotl 7 25 x), C := [0 ≤ x, x < 4294967296] }
  | _, _ => none
theorem acc42 : Acc g6 42 F42 := by
  intro args B out h hC
  unfold F42 at h
  split at h
  · rename_i x
    simp only [Option.some.injEq] at h; subst h
    simp only [allC_cons, allC_nil, and_true] at hC
    obtain ⟨h0, h1⟩ := hC
    refine FnOk.imp (args' := [.int .i64 x, .lit .i64 16]) ?_ ⟨DenImp.refl _, DenImp.lit, trivial⟩
    have e := rot_int h0 h1 16 16 rfl
    have hp : (0 : Int) ≤ x * 65536 := by omega
    have F1 : Fits .i64 (x * 65536) := fits_of (by omega) (by omega)
    have F2 : Fits .i64 ((x * 65536).tmod 4294967296 + (x * 65536).tdiv 4294967296) := by
      rw [Int.tmod_eq_emod_of_nonneg hp, Int.tdiv_eq_ediv_of_nonneg hp]
      exact fits_of (by omega) (by omega)
    exact FnOk.val (FnOk.pure g6_ok (rt16 x) (by (simp only [allC_cons, allC_nil, and_true]; repeat' (with_reducible (first | refine And.intro ?_ ?_ | exact True.intro | assumption | omega | exact decide_eq_true (by first | assumption | omega) | exact decide_eq_false (by first | assumption | omega) | rfl | (simp; done)))))) fun _ _ _ _ d => by
      have e' : rotl 16 16 x = (x * 65536).tmod 4294967296 + (x * 65536).tdiv 4294967296 := e
      rw [e']; exact d
  · rename_i x
    simp only [Option.some.injEq] at h; subst h
    simp only [allC_cons, allC_nil, and_true] at hC
    obtain ⟨h0, h1⟩ := hC
    refine FnOk.imp (args' := [.int .i64 x, .lit .i64 12]) ?_ ⟨DenImp.refl _, DenImp.lit, trivial⟩
    have e := rot_int h0 h1 12 20 rfl
    have hp : (0 : Int) ≤ x * 4096 := by omega
    have F1 : Fits .i64 (x * 4096) := fits_of (by omega) (by omega)
    have F2 : Fits .i64 ((x * 4096).tmod 4294967296 + (x * 4096).tdiv 4294967296) := by
      rw [Int.tmod_eq_emod_of_nonneg hp, Int.tdiv_eq_ediv_of_nonneg hp]
      exact fits_of (by omega) (by omega)
    exact FnOk.val (FnOk.pure g6_ok (rt12 x) (by (simp only [allC_cons, allC_nil, and_true]; repeat' (with_reducible (first | refine And.intro ?_ ?_ | exact True.intro | assumption | omega | exact decide_eq_true (by first | assumption | omega) | exact decide_eq_false (by first | assumption | omega) | rfl | (simp; done)))))) fun _ _ _ _ d => by
      have e' : rotl 12 20 x = (x * 4096).tmod 4294967296 + (x * 4096).tdiv 4294967296 := e
      rw [e']; exact d
  · rename_i x
    simp only [Option.some.injEq] at h; subst h
    simp only [allC_cons, allC_nil, and_true] at hC
    obtain ⟨h0, h1⟩ := hC
    refine FnOk.imp (args' := [.int .i64 x, .lit .i64 8]) ?_ ⟨DenImp.refl _, DenImp.lit, trivial⟩
    have e := rot_int h0 h1 8 24 rfl
    have hp : (0 : Int) ≤ x * 256 := by omega
    have F1 : Fits .i64 (x * 256) := fits_of (by omega) (by omega)
    have F2 : Fits .i64 ((x * 256).tmod 4294967296 + (x * 256).tdiv 4294967296) := by
      rw [Int.tmod_eq_emod_of_nonneg hp, Int.tdiv_eq_ediv_of_nonneg hp]
      exact fits_of (by omega) (by omega)
    exact FnOk.val (FnOk.pure g6_ok (rt8 x) (by (simp only [allC_cons, allC_nil, and_true]; repeat' (with_reducible (first | refine And.intro ?_ ?_ | exact True.intro | assumption | omega | exact decide_eq_true (by first | assumption | omega) | exact decide_eq_false (by first | assumption | omega) | rfl | (simp; done)))))) fun _ _ _ _ d => by
      have e' : rotl 8 24 x = (x * 256).tmod 4294967296 + (x * 256).tdiv 4294967296 := e
      rw [e']; exact d
  · rename_i x
    simp only [Option.some.injEq] at h; subst h
    simp only [allC_cons, allC_nil, and_true] at hC
    obtain ⟨h0, h1⟩ := hC
    refine FnOk.imp (args' := [.int .i64 x, .lit .i64 7]) ?_ ⟨DenImp.refl _, DenImp.lit, trivial⟩
    have e := rot_int h0 h1 7 25 rfl
    have hp : (0 : Int) ≤ x * 128 := by omega
    have F1 : Fits .i64 (x * 128) := fits_of (by omega) (by omega)
    have F2 : Fits .i64 ((x * 128).tmod 4294967296 + (x * 128).tdiv 4294967296) := by
      rw [Int.tmod_eq_emod_of_nonneg hp, Int.tdiv_eq_ediv_of_nonneg hp]
      exact fits_of (by omega) (by omega)
    exact FnOk.val (FnOk.pure g6_ok (rt7 x) (by (simp only [allC_cons, allC_nil, and_true]; repeat' (with_reducible (first | refine And.intro ?_ ?_ | exact True.intro | assumption | omega | exact decide_eq_true (by first | assumption | omega) | exact decide_eq_false (by first | assumption | omega) | rfl | (simp; done)))))) fun _ _ _ _ d => by
      have e' : rotl 7 25 x = (x * 128).tmod 4294967296 + (x * 128).tdiv 4294967296 := e
      rw [e']; exact d
  · simp at h
end Go.Proofs.Ytibfkpgdpldjbaa
