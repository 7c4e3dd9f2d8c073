/- Accounts of this seat's functions: lemmas, no statement of their own. No conditions. -/
import Derived.Test.YtibfgdbkobgemaaTB
namespace Go.Proofs.Ytibfgdbkobgemaa
open Go Go.Vx

/-! ### PrimeClamps -/
def clC (x : List Int) (i : Nat) (e : Int) : Prop := (!decide (bytesN x i = e)) = false
def keepE (a : Nat → Int) (i : Nat) : Int := if i % 4 = 3 then umask (a i) 15 else if i = 4 ∨ i = 8 ∨ i = 12 then uand (a i) 252 else umask (a i) 255
theorem clamps_run (a : Nat → Int) : runF g5 300 (List.replicate 17 (.br false)) 7 [.agg (svF (List.replicate 16 .u8) a 0)] [] [] =
    (let x := L5 (clampN (listF 16 a 0))
     some (SV.bool true, [], [clC x 16 0, clC x 0 (keepE a 0), clC x 1 (keepE a 1), clC x 2 (keepE a 2), clC x 3 (keepE a 3), clC x 4 (keepE a 4), clC x 5 (keepE a 5), clC x 6 (keepE a 6), clC x 7 (keepE a 7),
      clC x 8 (keepE a 8), clC x 9 (keepE a 9), clC x 10 (keepE a 10), clC x 11 (keepE a 11), clC x 12 (keepE a 12), clC x 13 (keepE a 13), clC x 14 (keepE a 14), clC x 15 (keepE a 15)])) := by kernel_rfl
theorem umask_byte {x : Int} (h : Byte x) (m : Nat) (hm : m < 256) : Byte (umask x (m : Int)) := by
  unfold Byte at *
  rw [umaskE x m h.1]
  have h1 := Int.emod_nonneg x (b := ((m + 1 : Nat) : Int)) (by omega)
  have h2 := Int.emod_lt_of_pos x (b := ((m + 1 : Nat) : Int)) (by omega)
  omega
theorem uand_byte {x : Int} (h : Byte x) (y : Int) : Byte (uand x y) := by
  unfold Byte at *
  obtain ⟨n, rfl⟩ := Int.eq_ofNat_of_zero_le h.1
  unfold uand
  have : ((n : Int).toNat &&& y.toNat) ≤ n := Nat.and_le_left
  simp only [Int.toNat_natCast, Int.ofNat_eq_natCast] at *
  omega
theorem clamp_bytes {f : Nat → Int} (h : ∀ i, i < 16 → Byte (f i)) : ∀ i, i < 17 → Byte (atL (clampL f) i) := by
  intro i hi
  match i, hi with
  | 0, _ => exact h 0 (by decide)
  | 1, _ => exact h 1 (by decide)
  | 2, _ => exact h 2 (by decide)
  | 3, _ => exact umask_byte (h 3 (by decide)) 15 (by decide)
  | 4, _ => exact uand_byte (h 4 (by decide)) 252
  | 5, _ => exact h 5 (by decide)
  | 6, _ => exact h 6 (by decide)
  | 7, _ => exact umask_byte (h 7 (by decide)) 15 (by decide)
  | 8, _ => exact uand_byte (h 8 (by decide)) 252
  | 9, _ => exact h 9 (by decide)
  | 10, _ => exact h 10 (by decide)
  | 11, _ => exact umask_byte (h 11 (by decide)) 15 (by decide)
  | 12, _ => exact uand_byte (h 12 (by decide)) 252
  | 13, _ => exact h 13 (by decide)
  | 14, _ => exact h 14 (by decide)
  | 15, _ => exact umask_byte (h 15 (by decide)) 15 (by decide)
  | 16, _ => exact show Byte 0 from ⟨by decide, by decide⟩
  | i + 17, h => exact absurd h (by omega)
theorem clamp_lt {f : Nat → Int} (h : ∀ i, i < 16 → Byte (f i)) : 0 ≤ leN 17 (atL (clampL f)) 0 ∧ leN 17 (atL (clampL f)) 0 < P5 := by
  have hb := clamp_bytes h
  have e := leN_add 16 1 (atL (clampL f)) 0
  have h1 := leN_nonneg 16 (f := atL (clampL f)) 0 (fun j hj => by rw [Nat.zero_add]; exact hb j (by omega))
  have e2 : leN 1 (atL (clampL f)) (0 + 16) = 0 := rfl
  rw [e2, Int.mul_zero, Int.add_zero] at e
  have e3 : ((256 ^ 16 : Nat) : Int) = 340282366920938463463374607431768211456 := rfl
  rw [e3] at h1
  rw [show (17 : Nat) = 16 + 1 from rfl, e]
  unfold P5
  omega
theorem bytesN_at {x : List Int} {n : Int} (hx : Is x n) {i : Nat} (hi : i < 17) : bytesN x i = byteN (n % P5) i := by
  have h := bytes_eq hx
  rw [listF_eq0] at h
  exact h i hi
theorem clamp_at {f : Nat → Int} (h : ∀ i, i < 16 → Byte (f i)) {l : List Int} (hl : ∀ i, i < 16 → atL l i = f i) {i : Nat} (hi : i < 17) : bytesN (L5 (clampN l)) i = atL (clampL (atL l)) i := by
  have h' : ∀ i, i < 16 → Byte (atL l i) := fun i hi => by rw [hl i hi]; exact h i hi
  have hb := clamp_bytes h'
  have hlt := clamp_lt h'
  rw [show clampN l = blockN (clampL (atL l)) from rfl, bytesN_at (is_block hb) hi, Int.emod_eq_of_lt hlt.1 hlt.2]
  have := byte_leN 17 (f := atL (clampL (atL l))) 0 (fun j hj => by rw [Nat.zero_add]; exact hb j hj) i hi
  rwa [Nat.zero_add] at this
theorem umask255 {x : Int} (h : Byte x) : umask x 255 = x := by
  unfold Byte at h
  rw [show umask x 255 = x % 256 from umaskE x 255 h.1]; omega
theorem clamps_ok (a : Nat → Int) : FnOk g5 7 [.agg (svF (List.replicate 16 .u8) a 0)] [] { val := .bool true } := by
  refine FnOk.facts fun ⟨ha, _⟩ => ?_
  refine FnOk.pure g5_ok (clamps_run a) ?_
  have hb : ∀ i, i < 16 → Byte (a i) := fun i hi => facts8 ha i hi
  have hl : ∀ i, i < 16 → atL (listF 16 a 0) i = a i := fun i hi => atL_listF hi
  have key : ∀ i e, i < 17 → atL (clampL (atL (listF 16 a 0))) i = e → clC (L5 (clampN (listF 16 a 0))) i e := fun i e hi he => by
    unfold clC
    rw [clamp_at hb hl hi, he]; simp
  simp only [allC_cons, allC_nil, and_true]
  refine ⟨key 16 _ (by decide) rfl, key 0 _ (by decide) ?_, key 1 _ (by decide) ?_, key 2 _ (by decide) ?_, key 3 _ (by decide) rfl, key 4 _ (by decide) rfl, key 5 _ (by decide) ?_, key 6 _ (by decide) ?_, key 7 _ (by decide) rfl,
    key 8 _ (by decide) rfl, key 9 _ (by decide) ?_, key 10 _ (by decide) ?_, key 11 _ (by decide) rfl, key 12 _ (by decide) rfl, key 13 _ (by decide) ?_, key 14 _ (by decide) ?_, key 15 _ (by decide) rfl⟩
  · exact (umask255 (hb 0 (by decide))).symm
  · exact (umask255 (hb 1 (by decide))).symm
  · exact (umask255 (hb 2 (by decide))).symm
  · exact (umask255 (hb 5 (by decide))).symm
  · exact (umask255 (hb 6 (by decide))).symm
  · exact (umask255 (hb 9 (by decide))).symm
  · exact (umask255 (hb 10 (by decide))).symm
  · exact (umask255 (hb 13 (by decide))).symm
  · exact (umask255 (hb 14 (by decide))).symm
end Go.Proofs.Ytibfgdbkobgemaa
