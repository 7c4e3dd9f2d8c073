/- Accounts of this seat's functions: lemmas, no statement of their own. No conditions. -/
import Derived.Test.YtibfkpgdpldjbaaTZb
namespace Go.Proofs.Ytibfkpgdpldjbaa
theorem shl16 {c : Nat} (hc : c < 256) : c * 2 ^ 16 % 4294967296 = 2 ^ 16 * c := by
  have p : (2 : Nat) ^ 16 = 65536 := by decide
  rw [p]; exact (Nat.mod_eq_of_lt (Nat.lt_of_lt_of_le (Nat.mul_lt_mul_of_pos_right hc (by decide)) (by decide))).trans (Nat.mul_comm _ _)
theorem shl24 {c : Nat} (hc : c < 256) : c * 2 ^ 24 % 4294967296 = 2 ^ 24 * c := by
  have p : (2 : Nat) ^ 24 = 16777216 := by decide
  rw [p]; exact (Nat.mod_eq_of_lt (Nat.lt_of_lt_of_le (Nat.mul_lt_mul_of_pos_right hc (by decide)) (by decide))).trans (Nat.mul_comm _ _)
open Go Go.Vx
abbrev ww (a b c d : Int) : Int := a + 256 * b + 65536 * c + 16777216 * d
abbrev wwC (a b c d : Int) : List Prop := [Fits .i64 (ww a b c d), Fits .i64 (16777216 * d), Fits .i64 (a + 256 * b + 65536 * c), Fits .i64 (65536 * c), Fits .i64 (a + 256 * b), Fits .i64 (256 * b)]
def lad (k : Nat → Int) (c : Int) (n : Nat → Int) : Nat → Int := atL [1634760805, 857760878, 2036477234, 1797285236,
  ww (k 0) (k 1) (k 2) (k 3), ww (k 4) (k 5) (k 6) (k 7), ww (k 8) (k 9) (k 10) (k 11), ww (k 12) (k 13) (k 14) (k 15), ww (k 16) (k 17) (k 18) (k 19), ww (k 20) (k 21) (k 22) (k 23), ww (k 24) (k 25) (k 26) (k 27), ww (k 28) (k 29) (k 30) (k 31),
  c, ww (n 0) (n 1) (n 2) (n 3), ww (n 4) (n 5) (n 6) (n 7), ww (n 8) (n 9) (n 10) (n 11)]
def Byte (x : Int) : Prop := 0 ≤ x ∧ x < 256
theorem wd_nat {a b c d : Nat} (ha : a < 256) (hb : b < 256) (hc : c < 256) (hd : d < 256) : (((a ||| b * 2 ^ 8 % 4294967296) ||| c * 2 ^ 16 % 4294967296) ||| d * 2 ^ 24 % 4294967296) = a + 256 * b + 65536 * c + 16777216 * d := by
  have p8 : (2 : Nat) ^ 8 = 256 := rfl
  have p16 : (2 : Nat) ^ 16 = 65536 := rfl
  have p24 : (2 : Nat) ^ 24 = 16777216 := rfl
  have e1 : b * 2 ^ 8 % 4294967296 = 2 ^ 8 * b := by rw [p8]; omega
  have e2 : c * 2 ^ 16 % 4294967296 = 2 ^ 16 * c := shl16 hc
  have e3 : d * 2 ^ 24 % 4294967296 = 2 ^ 24 * d := shl24 hd
  rw [e1, e2, e3, Nat.or_comm a, ← Nat.two_pow_add_eq_or_of_lt (show a < 2 ^ 8 by rw [p8]; omega), Nat.or_comm _ (2 ^ 16 * c), ← Nat.two_pow_add_eq_or_of_lt (show 2 ^ 8 * b + a < 2 ^ 16 by rw [p8, p16]; omega), Nat.or_comm _ (2 ^ 24 * d), ← Nat.two_pow_add_eq_or_of_lt (show 2 ^ 16 * c + (2 ^ 8 * b + a) < 2 ^ 24 by rw [p8, p16, p24]; omega), p8, p16, p24]
  omega
theorem wd_ww {a b c d : Int} (ha : Byte a) (hb : Byte b) (hc : Byte c) (hd : Byte d) : wd a b c d = ww a b c d := by
  obtain ⟨a, rfl⟩ := Int.eq_ofNat_of_zero_le ha.1
  obtain ⟨b, rfl⟩ := Int.eq_ofNat_of_zero_le hb.1
  obtain ⟨c, rfl⟩ := Int.eq_ofNat_of_zero_le hc.1
  obtain ⟨d, rfl⟩ := Int.eq_ofNat_of_zero_le hd.1
  have := wd_nat (a := a) (b := b) (c := c) (d := d) (by have := ha.2; omega) (by have := hb.2; omega) (by have := hc.2; omega) (by have := hd.2; omega)
  have o : ∀ x y : Nat, uor (x : Int) (y : Int) = ((x ||| y : Nat) : Int) := fun _ _ => rfl
  have e8 : ∀ x : Nat, ushl .u32 (x : Int) 8 = ((x * 2 ^ 8 % 4294967296 : Nat) : Int) := fun x => by unfold ushl; rw [m32, Int.toNat_natCast, show ((8 : Int).toNat) = 8 from rfl, Int.ofNat_eq_natCast]
  have e16 : ∀ x : Nat, ushl .u32 (x : Int) 16 = ((x * 2 ^ 16 % 4294967296 : Nat) : Int) := fun x => by unfold ushl; rw [m32, Int.toNat_natCast, show ((16 : Int).toNat) = 16 from rfl, Int.ofNat_eq_natCast]
  have e24 : ∀ x : Nat, ushl .u32 (x : Int) 24 = ((x * 2 ^ 24 % 4294967296 : Nat) : Int) := fun x => by unfold ushl; rw [m32, Int.toNat_natCast, show ((24 : Int).toNat) = 24 from rfl, Int.ofNat_eq_natCast]
  unfold wd
  rw [e8, e16, e24, o, o, o, this]
  unfold ww
  omega
end Go.Proofs.Ytibfkpgdpldjbaa
