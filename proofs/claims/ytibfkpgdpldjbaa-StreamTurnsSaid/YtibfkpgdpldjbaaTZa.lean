/- Accounts of this seat's functions: lemmas, no statement of their own. No conditions. -/
import Derived.Test.YtibfkpgdpldjbaaTZ
namespace Go.Proofs.Ytibfkpgdpldjbaa
open Go Go.Vx
/-- a word, as a number -/
def U (x : Int) : Prop := 0 ≤ x ∧ x < 4294967296
theorem U_nat {n : Nat} (h : n < 2 ^ 32) : U (Int.ofNat n) := ⟨by rw [Int.ofNat_eq_natCast]; omega, by rw [Int.ofNat_eq_natCast]; omega⟩
theorem U_uadd (a b : Int) : U (uadd .u32 a b) := U_nat (Nat.mod_lt _ (by decide))
theorem U_xor {a b : Int} (ha : U a) (hb : U b) : U (uxor a b) := U_nat (Nat.xor_lt_two_pow (by have := ha.1; have := ha.2; omega) (by have := hb.1; have := hb.2; omega))
theorem U_rotl {x : Int} (hx : U x) (n m : Int) : U (rotl n m x) := by
  refine U_nat (Nat.or_lt_two_pow ?_ ?_)
  · show (Int.ofNat _).toNat < _
    rw [Int.ofNat_eq_natCast, Int.toNat_natCast]
    exact Nat.mod_lt _ (by decide)
  · show (Int.ofNat _).toNat < _
    rw [Int.ofNat_eq_natCast, Int.toNat_natCast]
    have := hx.1; have := hx.2
    exact Nat.lt_of_le_of_lt (Nat.div_le_self _ _) (by omega)
theorem iadd {a b : Int} (ha : U a) (hb : U b) : (a + b).tmod M = uadd .u32 a b := by
  have h1 := ha.1; have h2 := hb.1
  rw [Int.tmod_eq_emod_of_nonneg (by omega)]
  unfold uadd
  rw [m32, Int.ofNat_eq_natCast]
  show (a + b) % 4294967296 = _
  omega
theorem U_fits {a b : Int} (ha : U a) (hb : U b) : Fits .i64 (a + b) := by
  have h1 := ha.1; have h2 := hb.1; have h3 := ha.2; have h4 := hb.2
  exact fits_of (by omega) (by omega)
theorem quarter_eq {a b c d : Int} (ha : U a) (hb : U b) (hc : U c) (hd : U d) : kA2 a b c d = qa a b c d ∧ kB2 a b c d = qb a b c d ∧ kC2 a b c d = qc a b c d ∧ kD2 a b c d = qd a b c d ∧ AllC (kC a b c d) ∧ U (qa a b c d) ∧ U (qb a b c d) ∧ U (qc a b c d) ∧ U (qd a b c d) := by
  have eA1 : kA1 a b = uadd .u32 a b := iadd ha hb
  have uA1 := U_uadd a b
  have xD1 := U_xor hd uA1
  have uD1 := U_rotl xD1 16 16
  have eC1 : kC1 a b c d = uadd .u32 c (rotl 16 16 (uxor d (uadd .u32 a b))) := by unfold kC1 kD1; rw [eA1]; exact iadd hc uD1
  have uC1 := U_uadd c (rotl 16 16 (uxor d (uadd .u32 a b)))
  have xB1 := U_xor hb uC1
  have uB1 := U_rotl xB1 12 20
  have eA2 : kA2 a b c d = qa a b c d := by unfold kA2 kB1; rw [eA1, eC1]; exact iadd uA1 uB1
  have uA2 : U (qa a b c d) := U_uadd _ _
  have xD2 := U_xor uD1 uA2
  have uD2 : U (qd a b c d) := U_rotl xD2 8 24
  have eD2 : kD2 a b c d = qd a b c d := by unfold kD2 kD1; rw [eA1, eA2]; rfl
  have eC2 : kC2 a b c d = qc a b c d := by unfold kC2; rw [eC1, eD2]; exact iadd uC1 uD2
  have uC2 : U (qc a b c d) := U_uadd _ _
  have xB2 := U_xor uB1 uC2
  have uB2 : U (qb a b c d) := U_rotl xB2 7 25
  have eB2 : kB2 a b c d = qb a b c d := by unfold kB2 kB1; rw [eC1, eC2]; rfl
  refine ⟨eA2, eB2, eC2, eD2, ?_, uA2, uB2, uC2, uD2⟩
  unfold kC
  rw [eA2, eC2, eD2]
  unfold kD1 kB1
  rw [eC1, eA1]
  simp only [allC_cons, allC_nil, and_true]
  exact ⟨U_fits ha hb, xD1.1, xD1.2, ⟨hd.1, uA1.1⟩, U_fits hc uD1, xB1.1, xB1.2, ⟨hb.1, uC1.1⟩, U_fits uA1 uB1, xD2.1, xD2.2, ⟨uD1.1, uA2.1⟩, U_fits uC1 uD2, xB2.1, xB2.2, ⟨uB1.1, uC2.1⟩⟩
end Go.Proofs.Ytibfkpgdpldjbaa
