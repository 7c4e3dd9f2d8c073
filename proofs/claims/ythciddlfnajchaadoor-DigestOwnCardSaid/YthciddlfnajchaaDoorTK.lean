/- Accounts of this seat's functions: lemmas, no statement of their own. No conditions. -/
import Derived.Test.YthciddlfnajchaaDoorTI
namespace Go.Proofs.Tryd
open Go Go.Vx
/-! ### the document's turn -/
theorem rt16 (x : Int) : runF g1 300 [] 52 [.int .i64 x, .lit .i64 16] [] [] =
    some (.int .i64 (x.tdiv 65536 + x.tmod 65536 * 65536), [], [Fits .i64 (x.tdiv 65536 + x.tmod 65536 * 65536), Fits .i64 (x.tmod 65536 * 65536)]) := run_parts (by kernel_rfl) (by kernel_rfl) (by kernel_rfl)
theorem rt12 (x : Int) : runF g1 300 [] 52 [.int .i64 x, .lit .i64 12] [] [] =
    some (.int .i64 (x.tdiv 4096 + x.tmod 4096 * 1048576), [], [Fits .i64 (x.tdiv 4096 + x.tmod 4096 * 1048576), Fits .i64 (x.tmod 4096 * 1048576)]) := run_parts (by kernel_rfl) (by kernel_rfl) (by kernel_rfl)
theorem rt8 (x : Int) : runF g1 300 [] 52 [.int .i64 x, .lit .i64 8] [] [] =
    some (.int .i64 (x.tdiv 256 + x.tmod 256 * 16777216), [], [Fits .i64 (x.tdiv 256 + x.tmod 256 * 16777216), Fits .i64 (x.tmod 256 * 16777216)]) := run_parts (by kernel_rfl) (by kernel_rfl) (by kernel_rfl)
theorem rt7 (x : Int) : runF g1 300 [] 52 [.int .i64 x, .lit .i64 7] [] [] =
    some (.int .i64 (x.tdiv 128 + x.tmod 128 * 33554432), [], [Fits .i64 (x.tdiv 128 + x.tmod 128 * 33554432), Fits .i64 (x.tmod 128 * 33554432)]) := run_parts (by kernel_rfl) (by kernel_rfl) (by kernel_rfl)
abbrev U (x : Int) : Prop := 0 ≤ x ∧ x < 4294967296
theorem rot_nat {x p m : Nat} (hx : x < 2 ^ (p + m)) : (x * 2 ^ p % 2 ^ (p + m)) ||| (x / 2 ^ m) = x / 2 ^ m + x % 2 ^ m * 2 ^ p := by
  have e1 : x * 2 ^ p % 2 ^ (p + m) = 2 ^ p * (x % 2 ^ m) := by rw [Nat.pow_add, Nat.mul_comm x, Nat.mul_mod_mul_left]
  have h : x / 2 ^ m < 2 ^ p := by rw [Nat.div_lt_iff_lt_mul (Nat.two_pow_pos m), ← Nat.pow_add]; exact hx
  rw [e1, ← Nat.two_pow_add_eq_or_of_lt h, Nat.mul_comm, Nat.add_comm]
theorem rot_int {x : Int} (hx : U x) (p m : Nat) (hpm : p + m = 32) : rotl (p : Int) (m : Int) x = x.tdiv ((2 ^ m : Nat) : Int) + x.tmod ((2 ^ m : Nat) : Int) * ((2 ^ p : Nat) : Int) := by
  obtain ⟨h0, h1⟩ := hx
  obtain ⟨x, rfl⟩ := Int.eq_ofNat_of_zero_le h0
  have hx : x < 2 ^ (p + m) := by rw [hpm]; omega
  have hn := rot_nat hx
  rw [hpm] at hn
  unfold rotl ushl ushr uor
  rw [show modulus .u32 = 4294967296 from rfl]
  simp only [Int.ofNat_eq_natCast, Int.toNat_natCast]
  rw [show (4294967296 : Nat) = 2 ^ 32 from rfl, hn, Int.tdiv_eq_ediv_of_nonneg (by omega), Int.tmod_eq_emod_of_nonneg (by omega)]
  rfl
theorem rot_fits {x : Int} (hx : U x) (p m : Nat) (hpm : p + m = 32) : Fits .i64 (x.tmod ((2 ^ m : Nat) : Int) * ((2 ^ p : Nat) : Int)) ∧ Fits .i64 (x.tdiv ((2 ^ m : Nat) : Int) + x.tmod ((2 ^ m : Nat) : Int) * ((2 ^ p : Nat) : Int)) := by
  obtain ⟨h0, h1⟩ := hx
  obtain ⟨x, rfl⟩ := Int.eq_ofNat_of_zero_le h0
  have hx : x < 4294967296 := by omega
  rw [Int.tdiv_eq_ediv_of_nonneg (by omega), Int.tmod_eq_emod_of_nonneg (by omega)]
  have e : (2 : Nat) ^ m * 2 ^ p = 4294967296 := by rw [← Nat.pow_add, Nat.add_comm, hpm]
  have h1 : x % 2 ^ m * 2 ^ p ≤ 4294967296 := by rw [← e]; exact Nat.mul_le_mul_right _ (Nat.le_of_lt (Nat.mod_lt _ (Nat.two_pow_pos m)))
  have h2 : x / 2 ^ m ≤ 4294967296 := Nat.le_of_lt (Nat.lt_of_le_of_lt (Nat.div_le_self _ _) hx)
  have c1 : ((x : Int) % ((2 ^ m : Nat) : Int)) * ((2 ^ p : Nat) : Int) = ((x % 2 ^ m * 2 ^ p : Nat) : Int) := by push_cast; rfl
  have c2 : ((x : Int) / ((2 ^ m : Nat) : Int)) = ((x / 2 ^ m : Nat) : Int) := by push_cast; rfl
  rw [c1, c2]
  generalize x % 2 ^ m * 2 ^ p = r at *
  generalize x / 2 ^ m = q at *
  exact ⟨fits_of (by omega) (by omega), fits_of (by omega) (by omega)⟩
def F52 : SumF := fun args B => match args, B with
  | [.int .i64 x, .int .i64 16], [] => some { val := .int .i64 (rotl 16 16 x), C := [0 ≤ x ∧ x < 4294967296] }
  | [.int .i64 x, .int .i64 12], [] => some { val := .int .i64 (rotl 20 12 x), C := [0 ≤ x ∧ x < 4294967296] }
  | [.int .i64 x, .int .i64 8], [] => some { val := .int .i64 (rotl 24 8 x), C := [0 ≤ x ∧ x < 4294967296] }
  | [.int .i64 x, .int .i64 7], [] => some { val := .int .i64 (rotl 25 7 x), C := [0 ≤ x ∧ x < 4294967296] }
  | _, _ => none
theorem acc52 : Acc g1 52 F52 := by
  intro args B out h hC
  unfold F52 at h
  split at h
  · rename_i x
    simp only [Option.some.injEq] at h; subst h
    simp only [allC_cons, allC_nil, and_true] at hC
    refine FnOk.imp (args' := [.int .i64 x, .lit .i64 16]) ?_ ⟨DenImp.refl _, DenImp.lit, trivial⟩
    have e : rotl 16 16 x = x.tdiv 65536 + x.tmod 65536 * 65536 := rot_int hC 16 16 rfl
    have f := rot_fits hC 16 16 rfl
    rw [e]
    exact FnOk.val (FnOk.pure g1_ok (rt16 x) (by simp only [allC_cons, allC_nil, and_true]; exact ⟨f.2, f.1⟩)) fun _ _ _ _ d => d
  · rename_i x
    simp only [Option.some.injEq] at h; subst h
    simp only [allC_cons, allC_nil, and_true] at hC
    refine FnOk.imp (args' := [.int .i64 x, .lit .i64 12]) ?_ ⟨DenImp.refl _, DenImp.lit, trivial⟩
    have e : rotl 20 12 x = x.tdiv 4096 + x.tmod 4096 * 1048576 := rot_int hC 20 12 rfl
    have f := rot_fits hC 20 12 rfl
    rw [e]
    exact FnOk.val (FnOk.pure g1_ok (rt12 x) (by simp only [allC_cons, allC_nil, and_true]; exact ⟨f.2, f.1⟩)) fun _ _ _ _ d => d
  · rename_i x
    simp only [Option.some.injEq] at h; subst h
    simp only [allC_cons, allC_nil, and_true] at hC
    refine FnOk.imp (args' := [.int .i64 x, .lit .i64 8]) ?_ ⟨DenImp.refl _, DenImp.lit, trivial⟩
    have e : rotl 24 8 x = x.tdiv 256 + x.tmod 256 * 16777216 := rot_int hC 24 8 rfl
    have f := rot_fits hC 24 8 rfl
    rw [e]
    exact FnOk.val (FnOk.pure g1_ok (rt8 x) (by simp only [allC_cons, allC_nil, and_true]; exact ⟨f.2, f.1⟩)) fun _ _ _ _ d => d
  · rename_i x
    simp only [Option.some.injEq] at h; subst h
    simp only [allC_cons, allC_nil, and_true] at hC
    refine FnOk.imp (args' := [.int .i64 x, .lit .i64 7]) ?_ ⟨DenImp.refl _, DenImp.lit, trivial⟩
    have e : rotl 25 7 x = x.tdiv 128 + x.tmod 128 * 33554432 := rot_int hC 25 7 rfl
    have f := rot_fits hC 25 7 rfl
    rw [e]
    exact FnOk.val (FnOk.pure g1_ok (rt7 x) (by simp only [allC_cons, allC_nil, and_true]; exact ⟨f.2, f.1⟩)) fun _ _ _ _ d => d
  · simp at h
noncomputable abbrev gd1 : Ctx := g1.add [(52, F52)]
theorem gd1_ok : CtxU gd1 := g1_ok.add mixed noGo (by
  intro x hx
  simp only [List.mem_cons, List.not_mem_nil, or_false] at hx
  rcases hx with rfl
  exact acc52)
/-! ### the document's mixing -/
noncomputable abbrev a16 (x : Nat → Int) : List SV := svF (List.replicate 16 .i64) x 0
def mxP (a b c d : Nat) (v : Nat → Int) (x y : Int) (j : Nat) : Int :=
  bif Nat.beq j a then mxA (v a) (v b) (v c) (v d) x y else bif Nat.beq j b then mxB (v a) (v b) (v c) (v d) x y
  else bif Nat.beq j c then mxC (v a) (v b) (v c) (v d) x y else bif Nat.beq j d then mxD (v a) (v b) (v c) (v d) x y else v j
abbrev M : Int := 4294967296
abbrev kA1 (a b x : Int) : Int := (a + b + x).tmod M
abbrev kD1 (a b d x : Int) : Int := rotl 16 16 (uxor d (kA1 a b x))
abbrev kC1 (a b c d x : Int) : Int := (c + kD1 a b d x).tmod M
abbrev kB1 (a b c d x : Int) : Int := rotl 20 12 (uxor b (kC1 a b c d x))
abbrev kA2 (a b c d x y : Int) : Int := (kA1 a b x + kB1 a b c d x + y).tmod M
abbrev kD2 (a b c d x y : Int) : Int := rotl 24 8 (uxor (kD1 a b d x) (kA2 a b c d x y))
abbrev kC2 (a b c d x y : Int) : Int := (kC1 a b c d x + kD2 a b c d x y).tmod M
abbrev kB2 (a b c d x y : Int) : Int := rotl 25 7 (uxor (kB1 a b c d x) (kC2 a b c d x y))
def kP (a b c d : Nat) (v : Nat → Int) (x y : Int) (j : Nat) : Int :=
  bif Nat.beq j a then kA2 (v a) (v b) (v c) (v d) x y else bif Nat.beq j b then kB2 (v a) (v b) (v c) (v d) x y
  else bif Nat.beq j c then kC2 (v a) (v b) (v c) (v d) x y else bif Nat.beq j d then kD2 (v a) (v b) (v c) (v d) x y else v j
abbrev kC (a b c d x y : Int) : List Prop := [Fits .i64 (a + b + x), Fits .i64 (a + b), 0 ≤ uxor d (kA1 a b x) ∧ uxor d (kA1 a b x) < 4294967296, 0 ≤ d ∧ 0 ≤ kA1 a b x,
  Fits .i64 (c + kD1 a b d x), 0 ≤ uxor b (kC1 a b c d x) ∧ uxor b (kC1 a b c d x) < 4294967296, 0 ≤ b ∧ 0 ≤ kC1 a b c d x, Fits .i64 (kA1 a b x + kB1 a b c d x + y), Fits .i64 (kA1 a b x + kB1 a b c d x),
  0 ≤ uxor (kD1 a b d x) (kA2 a b c d x y) ∧ uxor (kD1 a b d x) (kA2 a b c d x y) < 4294967296, 0 ≤ kD1 a b d x ∧ 0 ≤ kA2 a b c d x y, Fits .i64 (kC1 a b c d x + kD2 a b c d x y),
  0 ≤ uxor (kB1 a b c d x) (kC2 a b c d x y) ∧ uxor (kB1 a b c d x) (kC2 a b c d x y) < 4294967296, 0 ≤ kB1 a b c d x ∧ 0 ≤ kC2 a b c d x y]
theorem mg0 (v : Nat → Int) (x y : Int) : runF gd1 900 [] 46 [.agg (a16 v), .lit .i64 0, .lit .i64 4, .lit .i64 8, .lit .i64 12, .int .i64 x, .int .i64 y] [] [] =
    some (.agg (a16 (kP 0 4 8 12 v x y)), [], kC (v 0) (v 4) (v 8) (v 12) x y) := run_parts (by kernel_rfl) (by kernel_rfl) (by kernel_rfl)
theorem mg1 (v : Nat → Int) (x y : Int) : runF gd1 900 [] 46 [.agg (a16 v), .lit .i64 1, .lit .i64 5, .lit .i64 9, .lit .i64 13, .int .i64 x, .int .i64 y] [] [] =
    some (.agg (a16 (kP 1 5 9 13 v x y)), [], kC (v 1) (v 5) (v 9) (v 13) x y) := run_parts (by kernel_rfl) (by kernel_rfl) (by kernel_rfl)
theorem mg2 (v : Nat → Int) (x y : Int) : runF gd1 900 [] 46 [.agg (a16 v), .lit .i64 2, .lit .i64 6, .lit .i64 10, .lit .i64 14, .int .i64 x, .int .i64 y] [] [] =
    some (.agg (a16 (kP 2 6 10 14 v x y)), [], kC (v 2) (v 6) (v 10) (v 14) x y) := run_parts (by kernel_rfl) (by kernel_rfl) (by kernel_rfl)
theorem mg3 (v : Nat → Int) (x y : Int) : runF gd1 900 [] 46 [.agg (a16 v), .lit .i64 3, .lit .i64 7, .lit .i64 11, .lit .i64 15, .int .i64 x, .int .i64 y] [] [] =
    some (.agg (a16 (kP 3 7 11 15 v x y)), [], kC (v 3) (v 7) (v 11) (v 15) x y) := run_parts (by kernel_rfl) (by kernel_rfl) (by kernel_rfl)
theorem mg4 (v : Nat → Int) (x y : Int) : runF gd1 900 [] 46 [.agg (a16 v), .lit .i64 0, .lit .i64 5, .lit .i64 10, .lit .i64 15, .int .i64 x, .int .i64 y] [] [] =
    some (.agg (a16 (kP 0 5 10 15 v x y)), [], kC (v 0) (v 5) (v 10) (v 15) x y) := run_parts (by kernel_rfl) (by kernel_rfl) (by kernel_rfl)
theorem mg5 (v : Nat → Int) (x y : Int) : runF gd1 900 [] 46 [.agg (a16 v), .lit .i64 1, .lit .i64 6, .lit .i64 11, .lit .i64 12, .int .i64 x, .int .i64 y] [] [] =
    some (.agg (a16 (kP 1 6 11 12 v x y)), [], kC (v 1) (v 6) (v 11) (v 12) x y) := run_parts (by kernel_rfl) (by kernel_rfl) (by kernel_rfl)
theorem mg6 (v : Nat → Int) (x y : Int) : runF gd1 900 [] 46 [.agg (a16 v), .lit .i64 2, .lit .i64 7, .lit .i64 8, .lit .i64 13, .int .i64 x, .int .i64 y] [] [] =
    some (.agg (a16 (kP 2 7 8 13 v x y)), [], kC (v 2) (v 7) (v 8) (v 13) x y) := run_parts (by kernel_rfl) (by kernel_rfl) (by kernel_rfl)
theorem mg7 (v : Nat → Int) (x y : Int) : runF gd1 900 [] 46 [.agg (a16 v), .lit .i64 3, .lit .i64 4, .lit .i64 9, .lit .i64 14, .int .i64 x, .int .i64 y] [] [] =
    some (.agg (a16 (kP 3 4 9 14 v x y)), [], kC (v 3) (v 4) (v 9) (v 14) x y) := run_parts (by kernel_rfl) (by kernel_rfl) (by kernel_rfl)
theorem U_nat {n : Nat} (h : n < 2 ^ 32) : U (Int.ofNat n) := ⟨by rw [Int.ofNat_eq_natCast]; omega, by rw [Int.ofNat_eq_natCast]; omega⟩
theorem U_uadd (a b : Int) : U (uadd .u32 a b) := U_nat (Nat.mod_lt _ (by decide))
theorem U_xor {a b : Int} (ha : U a) (hb : U b) : U (uxor a b) := U_nat (Nat.xor_lt_two_pow (by have := ha.1; have := ha.2; omega) (by have := hb.1; have := hb.2; omega))
theorem U_rotl {x : Int} (hx : U x) (n m : Int) : U (rotl n m x) := by
  refine U_nat (Nat.or_lt_two_pow ?_ ?_)
  · show (Int.ofNat _).toNat < _
    rw [Int.ofNat_eq_natCast, Int.toNat_natCast]
    exact Nat.mod_lt _ (by decide)
  · show (Int.ofNat _).toNat < _
    rw [Int.ofNat_eq_natCast, Int.toNat_natCast]
    have := hx.1; have := hx.2
    exact Nat.lt_of_le_of_lt (Nat.div_le_self _ _) (by omega)
theorem iadd {a b : Int} (ha : U a) (hb : U b) : (a + b).tmod M = uadd .u32 a b := by
  have h1 := ha.1; have h2 := hb.1
  rw [Int.tmod_eq_emod_of_nonneg (by omega)]
  unfold uadd
  rw [show modulus .u32 = 4294967296 from rfl, Int.ofNat_eq_natCast]
  show (a + b) % 4294967296 = _
  omega
theorem iadd3 {a b c : Int} (ha : U a) (hb : U b) (hc : U c) : (a + b + c).tmod M = uadd .u32 a (uadd .u32 b c) := by
  have h1 := ha.1; have h2 := hb.1; have h3 := hc.1
  rw [Int.tmod_eq_emod_of_nonneg (by omega)]
  unfold uadd
  rw [show modulus .u32 = 4294967296 from rfl, Int.ofNat_eq_natCast, Int.ofNat_eq_natCast]
  show (a + b + c) % 4294967296 = _
  omega
theorem U_fits {a b : Int} (ha : U a) (hb : U b) : Fits .i64 (a + b) := by
  have h1 := ha.1; have h2 := hb.1; have h3 := ha.2; have h4 := hb.2
  exact fits_of (by omega) (by omega)
theorem U_fits3 {a b c : Int} (ha : U a) (hb : U b) (hc : U c) : Fits .i64 (a + b + c) := by
  have h1 := ha.1; have h2 := hb.1; have h3 := ha.2; have h4 := hb.2; have h5 := hc.1; have h6 := hc.2
  exact fits_of (by omega) (by omega)
theorem mix_eq {a b c d x y : Int} (ha : U a) (hb : U b) (hc : U c) (hd : U d) (hx : U x) (hy : U y) : kA2 a b c d x y = mxA a b c d x y ∧ kB2 a b c d x y = mxB a b c d x y ∧ kC2 a b c d x y = mxC a b c d x y ∧ kD2 a b c d x y = mxD a b c d x y ∧ AllC (kC a b c d x y) ∧ U (mxA a b c d x y) ∧ U (mxB a b c d x y) ∧ U (mxC a b c d x y) ∧ U (mxD a b c d x y) := by
  have eA1 : kA1 a b x = uadd .u32 a (uadd .u32 b x) := iadd3 ha hb hx
  have uA1 := U_uadd a (uadd .u32 b x)
  have xD1 := U_xor hd uA1
  have uD1 := U_rotl xD1 16 16
  have eC1 : kC1 a b c d x = uadd .u32 c (rotl 16 16 (uxor d (uadd .u32 a (uadd .u32 b x)))) := by unfold kC1 kD1; rw [eA1]; exact iadd hc uD1
  have uC1 := U_uadd c (rotl 16 16 (uxor d (uadd .u32 a (uadd .u32 b x))))
  have xB1 := U_xor hb uC1
  have uB1 := U_rotl xB1 20 12
  have eA2 : kA2 a b c d x y = mxA a b c d x y := by unfold kA2 kB1; rw [eA1, eC1]; exact iadd3 uA1 uB1 hy
  have uA2 : U (mxA a b c d x y) := U_uadd _ _
  have xD2 := U_xor uD1 uA2
  have uD2 : U (mxD a b c d x y) := U_rotl xD2 24 8
  have eD2 : kD2 a b c d x y = mxD a b c d x y := by unfold kD2 kD1; rw [eA1, eA2]; rfl
  have eC2 : kC2 a b c d x y = mxC a b c d x y := by unfold kC2; rw [eC1, eD2]; exact iadd uC1 uD2
  have uC2 : U (mxC a b c d x y) := U_uadd _ _
  have xB2 := U_xor uB1 uC2
  have uB2 : U (mxB a b c d x y) := U_rotl xB2 25 7
  have eB2 : kB2 a b c d x y = mxB a b c d x y := by unfold kB2 kB1; rw [eC1, eC2]; rfl
  refine ⟨eA2, eB2, eC2, eD2, ?_, uA2, uB2, uC2, uD2⟩
  unfold kC
  rw [eA2, eC2, eD2]
  unfold kD1 kB1
  rw [eC1, eA1]
  simp only [allC_cons, allC_nil, and_true]
  exact ⟨U_fits3 ha hb hx, U_fits ha hb, xD1, ⟨hd.1, uA1.1⟩, U_fits hc uD1, xB1, ⟨hb.1, uC1.1⟩, U_fits3 uA1 uB1 hy, U_fits uA1 uB1, xD2, ⟨uD1.1, uA2.1⟩, U_fits uC1 uD2, xB2, ⟨uB1.1, uC2.1⟩⟩
theorem kP_eq {a b c d : Nat} {v : Nat → Int} {x y : Int} (ha : U (v a)) (hb : U (v b)) (hc : U (v c)) (hd : U (v d)) (hx : U x) (hy : U y) : kP a b c d v x y = mxP a b c d v x y := by
  obtain ⟨e1, e2, e3, e4, _⟩ := mix_eq ha hb hc hd hx hy
  funext j
  unfold kP mxP
  rw [e1, e2, e3, e4]
/-- sixteen words -/
def U16 (v : Nat → Int) : Prop := ∀ j, j < 16 → U (v j)
noncomputable def F46 : SumF := fun args B => match args, B with
  | [.agg vs, .int .i64 0, .int .i64 4, .int .i64 8, .int .i64 12, .int .i64 x, .int .i64 y], [] => match numsAs (List.replicate 16 .i64) vs with
    | some lv => some { val := .agg (a16 (mxP 0 4 8 12 (atL lv) x y)), C := [U16 (atL lv), U x, U y] }
    | none => none
  | [.agg vs, .int .i64 1, .int .i64 5, .int .i64 9, .int .i64 13, .int .i64 x, .int .i64 y], [] => match numsAs (List.replicate 16 .i64) vs with
    | some lv => some { val := .agg (a16 (mxP 1 5 9 13 (atL lv) x y)), C := [U16 (atL lv), U x, U y] }
    | none => none
  | [.agg vs, .int .i64 2, .int .i64 6, .int .i64 10, .int .i64 14, .int .i64 x, .int .i64 y], [] => match numsAs (List.replicate 16 .i64) vs with
    | some lv => some { val := .agg (a16 (mxP 2 6 10 14 (atL lv) x y)), C := [U16 (atL lv), U x, U y] }
    | none => none
  | [.agg vs, .int .i64 3, .int .i64 7, .int .i64 11, .int .i64 15, .int .i64 x, .int .i64 y], [] => match numsAs (List.replicate 16 .i64) vs with
    | some lv => some { val := .agg (a16 (mxP 3 7 11 15 (atL lv) x y)), C := [U16 (atL lv), U x, U y] }
    | none => none
  | [.agg vs, .int .i64 0, .int .i64 5, .int .i64 10, .int .i64 15, .int .i64 x, .int .i64 y], [] => match numsAs (List.replicate 16 .i64) vs with
    | some lv => some { val := .agg (a16 (mxP 0 5 10 15 (atL lv) x y)), C := [U16 (atL lv), U x, U y] }
    | none => none
  | [.agg vs, .int .i64 1, .int .i64 6, .int .i64 11, .int .i64 12, .int .i64 x, .int .i64 y], [] => match numsAs (List.replicate 16 .i64) vs with
    | some lv => some { val := .agg (a16 (mxP 1 6 11 12 (atL lv) x y)), C := [U16 (atL lv), U x, U y] }
    | none => none
  | [.agg vs, .int .i64 2, .int .i64 7, .int .i64 8, .int .i64 13, .int .i64 x, .int .i64 y], [] => match numsAs (List.replicate 16 .i64) vs with
    | some lv => some { val := .agg (a16 (mxP 2 7 8 13 (atL lv) x y)), C := [U16 (atL lv), U x, U y] }
    | none => none
  | [.agg vs, .int .i64 3, .int .i64 4, .int .i64 9, .int .i64 14, .int .i64 x, .int .i64 y], [] => match numsAs (List.replicate 16 .i64) vs with
    | some lv => some { val := .agg (a16 (mxP 3 4 9 14 (atL lv) x y)), C := [U16 (atL lv), U x, U y] }
    | none => none
  | _, _ => none
theorem acc46 : Acc gd1 46 F46 := by
  intro args B out h hC
  unfold F46 at h
  split at h
  · rename_i vs x y
    split at h
    · rename_i lv hv
      simp only [Option.some.injEq] at h; subst h
      simp only [allC_cons, allC_nil, and_true] at hC
      obtain ⟨hu, h5, h6⟩ := hC
      have h1 := hu 0 (by decide)
      have h2 := hu 4 (by decide)
      have h3 := hu 8 (by decide)
      have h4 := hu 12 (by decide)
      refine FnOk.imp (args' := [.agg (a16 (atL lv)), .lit .i64 0, .lit .i64 4, .lit .i64 8, .lit .i64 12, .int .i64 x, .int .i64 y]) ?_ ⟨nums_imp hv, DenImp.lit, DenImp.lit, DenImp.lit, DenImp.lit, DenImp.refl _, DenImp.refl _, trivial⟩
      rw [← kP_eq h1 h2 h3 h4 h5 h6]
      exact FnOk.val (FnOk.pure gd1_ok (mg0 (atL lv) x y) (mix_eq h1 h2 h3 h4 h5 h6).2.2.2.2.1) fun _ _ _ _ d => d
    · simp at h
  · rename_i vs x y
    split at h
    · rename_i lv hv
      simp only [Option.some.injEq] at h; subst h
      simp only [allC_cons, allC_nil, and_true] at hC
      obtain ⟨hu, h5, h6⟩ := hC
      have h1 := hu 1 (by decide)
      have h2 := hu 5 (by decide)
      have h3 := hu 9 (by decide)
      have h4 := hu 13 (by decide)
      refine FnOk.imp (args' := [.agg (a16 (atL lv)), .lit .i64 1, .lit .i64 5, .lit .i64 9, .lit .i64 13, .int .i64 x, .int .i64 y]) ?_ ⟨nums_imp hv, DenImp.lit, DenImp.lit, DenImp.lit, DenImp.lit, DenImp.refl _, DenImp.refl _, trivial⟩
      rw [← kP_eq h1 h2 h3 h4 h5 h6]
      exact FnOk.val (FnOk.pure gd1_ok (mg1 (atL lv) x y) (mix_eq h1 h2 h3 h4 h5 h6).2.2.2.2.1) fun _ _ _ _ d => d
    · simp at h
  · rename_i vs x y
    split at h
    · rename_i lv hv
      simp only [Option.some.injEq] at h; subst h
      simp only [allC_cons, allC_nil, and_true] at hC
      obtain ⟨hu, h5, h6⟩ := hC
      have h1 := hu 2 (by decide)
      have h2 := hu 6 (by decide)
      have h3 := hu 10 (by decide)
      have h4 := hu 14 (by decide)
      refine FnOk.imp (args' := [.agg (a16 (atL lv)), .lit .i64 2, .lit .i64 6, .lit .i64 10, .lit .i64 14, .int .i64 x, .int .i64 y]) ?_ ⟨nums_imp hv, DenImp.lit, DenImp.lit, DenImp.lit, DenImp.lit, DenImp.refl _, DenImp.refl _, trivial⟩
      rw [← kP_eq h1 h2 h3 h4 h5 h6]
      exact FnOk.val (FnOk.pure gd1_ok (mg2 (atL lv) x y) (mix_eq h1 h2 h3 h4 h5 h6).2.2.2.2.1) fun _ _ _ _ d => d
    · simp at h
  · rename_i vs x y
    split at h
    · rename_i lv hv
      simp only [Option.some.injEq] at h; subst h
      simp only [allC_cons, allC_nil, and_true] at hC
      obtain ⟨hu, h5, h6⟩ := hC
      have h1 := hu 3 (by decide)
      have h2 := hu 7 (by decide)
      have h3 := hu 11 (by decide)
      have h4 := hu 15 (by decide)
      refine FnOk.imp (args' := [.agg (a16 (atL lv)), .lit .i64 3, .lit .i64 7, .lit .i64 11, .lit .i64 15, .int .i64 x, .int .i64 y]) ?_ ⟨nums_imp hv, DenImp.lit, DenImp.lit, DenImp.lit, DenImp.lit, DenImp.refl _, DenImp.refl _, trivial⟩
      rw [← kP_eq h1 h2 h3 h4 h5 h6]
      exact FnOk.val (FnOk.pure gd1_ok (mg3 (atL lv) x y) (mix_eq h1 h2 h3 h4 h5 h6).2.2.2.2.1) fun _ _ _ _ d => d
    · simp at h
  · rename_i vs x y
    split at h
    · rename_i lv hv
      simp only [Option.some.injEq] at h; subst h
      simp only [allC_cons, allC_nil, and_true] at hC
      obtain ⟨hu, h5, h6⟩ := hC
      have h1 := hu 0 (by decide)
      have h2 := hu 5 (by decide)
      have h3 := hu 10 (by decide)
      have h4 := hu 15 (by decide)
      refine FnOk.imp (args' := [.agg (a16 (atL lv)), .lit .i64 0, .lit .i64 5, .lit .i64 10, .lit .i64 15, .int .i64 x, .int .i64 y]) ?_ ⟨nums_imp hv, DenImp.lit, DenImp.lit, DenImp.lit, DenImp.lit, DenImp.refl _, DenImp.refl _, trivial⟩
      rw [← kP_eq h1 h2 h3 h4 h5 h6]
      exact FnOk.val (FnOk.pure gd1_ok (mg4 (atL lv) x y) (mix_eq h1 h2 h3 h4 h5 h6).2.2.2.2.1) fun _ _ _ _ d => d
    · simp at h
  · rename_i vs x y
    split at h
    · rename_i lv hv
      simp only [Option.some.injEq] at h; subst h
      simp only [allC_cons, allC_nil, and_true] at hC
      obtain ⟨hu, h5, h6⟩ := hC
      have h1 := hu 1 (by decide)
      have h2 := hu 6 (by decide)
      have h3 := hu 11 (by decide)
      have h4 := hu 12 (by decide)
      refine FnOk.imp (args' := [.agg (a16 (atL lv)), .lit .i64 1, .lit .i64 6, .lit .i64 11, .lit .i64 12, .int .i64 x, .int .i64 y]) ?_ ⟨nums_imp hv, DenImp.lit, DenImp.lit, DenImp.lit, DenImp.lit, DenImp.refl _, DenImp.refl _, trivial⟩
      rw [← kP_eq h1 h2 h3 h4 h5 h6]
      exact FnOk.val (FnOk.pure gd1_ok (mg5 (atL lv) x y) (mix_eq h1 h2 h3 h4 h5 h6).2.2.2.2.1) fun _ _ _ _ d => d
    · simp at h
  · rename_i vs x y
    split at h
    · rename_i lv hv
      simp only [Option.some.injEq] at h; subst h
      simp only [allC_cons, allC_nil, and_true] at hC
      obtain ⟨hu, h5, h6⟩ := hC
      have h1 := hu 2 (by decide)
      have h2 := hu 7 (by decide)
      have h3 := hu 8 (by decide)
      have h4 := hu 13 (by decide)
      refine FnOk.imp (args' := [.agg (a16 (atL lv)), .lit .i64 2, .lit .i64 7, .lit .i64 8, .lit .i64 13, .int .i64 x, .int .i64 y]) ?_ ⟨nums_imp hv, DenImp.lit, DenImp.lit, DenImp.lit, DenImp.lit, DenImp.refl _, DenImp.refl _, trivial⟩
      rw [← kP_eq h1 h2 h3 h4 h5 h6]
      exact FnOk.val (FnOk.pure gd1_ok (mg6 (atL lv) x y) (mix_eq h1 h2 h3 h4 h5 h6).2.2.2.2.1) fun _ _ _ _ d => d
    · simp at h
  · rename_i vs x y
    split at h
    · rename_i lv hv
      simp only [Option.some.injEq] at h; subst h
      simp only [allC_cons, allC_nil, and_true] at hC
      obtain ⟨hu, h5, h6⟩ := hC
      have h1 := hu 3 (by decide)
      have h2 := hu 4 (by decide)
      have h3 := hu 9 (by decide)
      have h4 := hu 14 (by decide)
      refine FnOk.imp (args' := [.agg (a16 (atL lv)), .lit .i64 3, .lit .i64 4, .lit .i64 9, .lit .i64 14, .int .i64 x, .int .i64 y]) ?_ ⟨nums_imp hv, DenImp.lit, DenImp.lit, DenImp.lit, DenImp.lit, DenImp.refl _, DenImp.refl _, trivial⟩
      rw [← kP_eq h1 h2 h3 h4 h5 h6]
      exact FnOk.val (FnOk.pure gd1_ok (mg7 (atL lv) x y) (mix_eq h1 h2 h3 h4 h5 h6).2.2.2.2.1) fun _ _ _ _ d => d
    · simp at h
  · simp at h
noncomputable abbrev gd2 : Ctx := gd1.add [(46, F46)]
theorem gd2_ok : CtxU gd2 := gd1_ok.add mixed noGo (by
  intro x hx
  simp only [List.mem_cons, List.not_mem_nil, or_false] at hx
  rcases hx with rfl
  exact acc46)
end Go.Proofs.Tryd

namespace Go.Proofs.Tryd
open Go Go.Vx
/-! ### the document's press: the block's bytes as words -/
noncomputable abbrev fiBody : Code := bodyAt Tryd.prog 35 3
abbrev fiKeep : List Nat := [1, 2, 3, 4, 8, 9, 10]
noncomputable abbrev a8 (x : Nat → Int) : List SV := svF (List.replicate 8 .i64) x 0
def pw (e : Int) : Nat → Int
  | 0 => e
  | k + 1 => pw e k * 256
def pwC (e : Int) : Nat → List Prop
  | 0 => []
  | k + 1 => pwC e k ++ [Fits .i64 (pw e (k + 1))]
abbrev el (l : List Int) (o j i : Nat) : Int := l.getD (o + i + (j + 0)) 0
def bS (x : Nat → Int) (i : Nat) (e : Int) (j : Nat) : Int := bif Nat.beq j (i / 4) then x (i / 4) + pw e (i % 4) else x j
abbrev fiO (m o j n : Nat) (c : Int) (b : Bool) (i : Nat) : List SV := [.sl 0 m o 1 j n false, .int .i64 c, .sbool b, .ptr 1 0, .ptr 2 0, .ptr 3 0, .lit .i64 (i : Int)]
noncomputable abbrev fiB (l : List Int) (h r x : Nat → Int) : List Body := [.ints .u8 l, .cells (a8 h), .cells (a8 r), .cells (a16 x)]
abbrev fiC (l : List Int) (o j n i : Nat) (x : Nat → Int) : List Prop := (decide ((i : Int) < (n : Int)) = true) :: Fits .i64 (n : Int) :: (o + i + (j + 0) < l.length) :: (0 ≤ (i : Int) ∧ (i : Int) < (n : Int)) :: (pwC (el l o j i) (i % 4) ++ [Fits .i64 (x (i / 4) + pw (el l o j i) (i % 4))])
theorem fi_go0 (m o j n : Nat) (c : Int) (b : Bool) (l : List Int) (h r x : Nat → Int) : ∀ i, i < 16 → runC gd2 900 163 [.br true, .br true] fiBody (fiKeep.zip (fiO m o j n c b (i))) (fiB l h r x) fiKeep [0, 1, 2, 3] = some (.normal, fiO m o j n c b (i + 1), (fiB l h r (bS x (i) (el l o j (i)))).map some, fiC l o j n (i) x)
  | 0, _ => r3_parts4 (by kernel_rfl) (by kernel_rfl) (by kernel_rfl) (by kernel_rfl)
  | 1, _ => r3_parts4 (by kernel_rfl) (by kernel_rfl) (by kernel_rfl) (by kernel_rfl)
  | 2, _ => r3_parts4 (by kernel_rfl) (by kernel_rfl) (by kernel_rfl) (by kernel_rfl)
  | 3, _ => r3_parts4 (by kernel_rfl) (by kernel_rfl) (by kernel_rfl) (by kernel_rfl)
  | 4, _ => r3_parts4 (by kernel_rfl) (by kernel_rfl) (by kernel_rfl) (by kernel_rfl)
  | 5, _ => r3_parts4 (by kernel_rfl) (by kernel_rfl) (by kernel_rfl) (by kernel_rfl)
  | 6, _ => r3_parts4 (by kernel_rfl) (by kernel_rfl) (by kernel_rfl) (by kernel_rfl)
  | 7, _ => r3_parts4 (by kernel_rfl) (by kernel_rfl) (by kernel_rfl) (by kernel_rfl)
  | 8, _ => r3_parts4 (by kernel_rfl) (by kernel_rfl) (by kernel_rfl) (by kernel_rfl)
  | 9, _ => r3_parts4 (by kernel_rfl) (by kernel_rfl) (by kernel_rfl) (by kernel_rfl)
  | 10, _ => r3_parts4 (by kernel_rfl) (by kernel_rfl) (by kernel_rfl) (by kernel_rfl)
  | 11, _ => r3_parts4 (by kernel_rfl) (by kernel_rfl) (by kernel_rfl) (by kernel_rfl)
  | 12, _ => r3_parts4 (by kernel_rfl) (by kernel_rfl) (by kernel_rfl) (by kernel_rfl)
  | 13, _ => r3_parts4 (by kernel_rfl) (by kernel_rfl) (by kernel_rfl) (by kernel_rfl)
  | 14, _ => r3_parts4 (by kernel_rfl) (by kernel_rfl) (by kernel_rfl) (by kernel_rfl)
  | 15, _ => r3_parts4 (by kernel_rfl) (by kernel_rfl) (by kernel_rfl) (by kernel_rfl)
  | i + 16, h => absurd h (by omega)
theorem fi_go1 (m o j n : Nat) (c : Int) (b : Bool) (l : List Int) (h r x : Nat → Int) : ∀ i, i < 16 → runC gd2 900 163 [.br true, .br true] fiBody (fiKeep.zip (fiO m o j n c b (16 + i))) (fiB l h r x) fiKeep [0, 1, 2, 3] = some (.normal, fiO m o j n c b (16 + i + 1), (fiB l h r (bS x (16 + i) (el l o j (16 + i)))).map some, fiC l o j n (16 + i) x)
  | 0, _ => r3_parts4 (by kernel_rfl) (by kernel_rfl) (by kernel_rfl) (by kernel_rfl)
  | 1, _ => r3_parts4 (by kernel_rfl) (by kernel_rfl) (by kernel_rfl) (by kernel_rfl)
  | 2, _ => r3_parts4 (by kernel_rfl) (by kernel_rfl) (by kernel_rfl) (by kernel_rfl)
  | 3, _ => r3_parts4 (by kernel_rfl) (by kernel_rfl) (by kernel_rfl) (by kernel_rfl)
  | 4, _ => r3_parts4 (by kernel_rfl) (by kernel_rfl) (by kernel_rfl) (by kernel_rfl)
  | 5, _ => r3_parts4 (by kernel_rfl) (by kernel_rfl) (by kernel_rfl) (by kernel_rfl)
  | 6, _ => r3_parts4 (by kernel_rfl) (by kernel_rfl) (by kernel_rfl) (by kernel_rfl)
  | 7, _ => r3_parts4 (by kernel_rfl) (by kernel_rfl) (by kernel_rfl) (by kernel_rfl)
  | 8, _ => r3_parts4 (by kernel_rfl) (by kernel_rfl) (by kernel_rfl) (by kernel_rfl)
  | 9, _ => r3_parts4 (by kernel_rfl) (by kernel_rfl) (by kernel_rfl) (by kernel_rfl)
  | 10, _ => r3_parts4 (by kernel_rfl) (by kernel_rfl) (by kernel_rfl) (by kernel_rfl)
  | 11, _ => r3_parts4 (by kernel_rfl) (by kernel_rfl) (by kernel_rfl) (by kernel_rfl)
  | 12, _ => r3_parts4 (by kernel_rfl) (by kernel_rfl) (by kernel_rfl) (by kernel_rfl)
  | 13, _ => r3_parts4 (by kernel_rfl) (by kernel_rfl) (by kernel_rfl) (by kernel_rfl)
  | 14, _ => r3_parts4 (by kernel_rfl) (by kernel_rfl) (by kernel_rfl) (by kernel_rfl)
  | 15, _ => r3_parts4 (by kernel_rfl) (by kernel_rfl) (by kernel_rfl) (by kernel_rfl)
  | i + 16, h => absurd h (by omega)
theorem fi_go2 (m o j n : Nat) (c : Int) (b : Bool) (l : List Int) (h r x : Nat → Int) : ∀ i, i < 16 → runC gd2 900 163 [.br true, .br true] fiBody (fiKeep.zip (fiO m o j n c b (32 + i))) (fiB l h r x) fiKeep [0, 1, 2, 3] = some (.normal, fiO m o j n c b (32 + i + 1), (fiB l h r (bS x (32 + i) (el l o j (32 + i)))).map some, fiC l o j n (32 + i) x)
  | 0, _ => r3_parts4 (by kernel_rfl) (by kernel_rfl) (by kernel_rfl) (by kernel_rfl)
  | 1, _ => r3_parts4 (by kernel_rfl) (by kernel_rfl) (by kernel_rfl) (by kernel_rfl)
  | 2, _ => r3_parts4 (by kernel_rfl) (by kernel_rfl) (by kernel_rfl) (by kernel_rfl)
  | 3, _ => r3_parts4 (by kernel_rfl) (by kernel_rfl) (by kernel_rfl) (by kernel_rfl)
  | 4, _ => r3_parts4 (by kernel_rfl) (by kernel_rfl) (by kernel_rfl) (by kernel_rfl)
  | 5, _ => r3_parts4 (by kernel_rfl) (by kernel_rfl) (by kernel_rfl) (by kernel_rfl)
  | 6, _ => r3_parts4 (by kernel_rfl) (by kernel_rfl) (by kernel_rfl) (by kernel_rfl)
  | 7, _ => r3_parts4 (by kernel_rfl) (by kernel_rfl) (by kernel_rfl) (by kernel_rfl)
  | 8, _ => r3_parts4 (by kernel_rfl) (by kernel_rfl) (by kernel_rfl) (by kernel_rfl)
  | 9, _ => r3_parts4 (by kernel_rfl) (by kernel_rfl) (by kernel_rfl) (by kernel_rfl)
  | 10, _ => r3_parts4 (by kernel_rfl) (by kernel_rfl) (by kernel_rfl) (by kernel_rfl)
  | 11, _ => r3_parts4 (by kernel_rfl) (by kernel_rfl) (by kernel_rfl) (by kernel_rfl)
  | 12, _ => r3_parts4 (by kernel_rfl) (by kernel_rfl) (by kernel_rfl) (by kernel_rfl)
  | 13, _ => r3_parts4 (by kernel_rfl) (by kernel_rfl) (by kernel_rfl) (by kernel_rfl)
  | 14, _ => r3_parts4 (by kernel_rfl) (by kernel_rfl) (by kernel_rfl) (by kernel_rfl)
  | 15, _ => r3_parts4 (by kernel_rfl) (by kernel_rfl) (by kernel_rfl) (by kernel_rfl)
  | i + 16, h => absurd h (by omega)
theorem fi_go3 (m o j n : Nat) (c : Int) (b : Bool) (l : List Int) (h r x : Nat → Int) : ∀ i, i < 16 → runC gd2 900 163 [.br true, .br true] fiBody (fiKeep.zip (fiO m o j n c b (48 + i))) (fiB l h r x) fiKeep [0, 1, 2, 3] = some (.normal, fiO m o j n c b (48 + i + 1), (fiB l h r (bS x (48 + i) (el l o j (48 + i)))).map some, fiC l o j n (48 + i) x)
  | 0, _ => r3_parts4 (by kernel_rfl) (by kernel_rfl) (by kernel_rfl) (by kernel_rfl)
  | 1, _ => r3_parts4 (by kernel_rfl) (by kernel_rfl) (by kernel_rfl) (by kernel_rfl)
  | 2, _ => r3_parts4 (by kernel_rfl) (by kernel_rfl) (by kernel_rfl) (by kernel_rfl)
  | 3, _ => r3_parts4 (by kernel_rfl) (by kernel_rfl) (by kernel_rfl) (by kernel_rfl)
  | 4, _ => r3_parts4 (by kernel_rfl) (by kernel_rfl) (by kernel_rfl) (by kernel_rfl)
  | 5, _ => r3_parts4 (by kernel_rfl) (by kernel_rfl) (by kernel_rfl) (by kernel_rfl)
  | 6, _ => r3_parts4 (by kernel_rfl) (by kernel_rfl) (by kernel_rfl) (by kernel_rfl)
  | 7, _ => r3_parts4 (by kernel_rfl) (by kernel_rfl) (by kernel_rfl) (by kernel_rfl)
  | 8, _ => r3_parts4 (by kernel_rfl) (by kernel_rfl) (by kernel_rfl) (by kernel_rfl)
  | 9, _ => r3_parts4 (by kernel_rfl) (by kernel_rfl) (by kernel_rfl) (by kernel_rfl)
  | 10, _ => r3_parts4 (by kernel_rfl) (by kernel_rfl) (by kernel_rfl) (by kernel_rfl)
  | 11, _ => r3_parts4 (by kernel_rfl) (by kernel_rfl) (by kernel_rfl) (by kernel_rfl)
  | 12, _ => r3_parts4 (by kernel_rfl) (by kernel_rfl) (by kernel_rfl) (by kernel_rfl)
  | 13, _ => r3_parts4 (by kernel_rfl) (by kernel_rfl) (by kernel_rfl) (by kernel_rfl)
  | 14, _ => r3_parts4 (by kernel_rfl) (by kernel_rfl) (by kernel_rfl) (by kernel_rfl)
  | 15, _ => r3_parts4 (by kernel_rfl) (by kernel_rfl) (by kernel_rfl) (by kernel_rfl)
  | i + 16, h => absurd h (by omega)
theorem fi_go (m o j n : Nat) (c : Int) (b : Bool) (l : List Int) (h r x : Nat → Int) (i : Nat) (hi : i < 64) : runC gd2 900 163 [.br true, .br true] fiBody (fiKeep.zip (fiO m o j n c b (i))) (fiB l h r x) fiKeep [0, 1, 2, 3] = some (.normal, fiO m o j n c b (i + 1), (fiB l h r (bS x (i) (el l o j (i)))).map some, fiC l o j n (i) x) := by
  by_cases h1 : i < 16
  · exact fi_go0 m o j n c b l h r x i h1
  by_cases h2 : i < 32
  · have := fi_go1 m o j n c b l h r x (i - 16) (by omega)
    rwa [show 16 + (i - 16) = i by omega] at this
  by_cases h3 : i < 48
  · have := fi_go2 m o j n c b l h r x (i - 32) (by omega)
    rwa [show 32 + (i - 32) = i by omega] at this
  · have := fi_go3 m o j n c b l h r x (i - 48) (by omega)
    rwa [show 48 + (i - 48) = i by omega] at this
theorem fi_end (m o j n : Nat) (c : Int) (b : Bool) (l : List Int) (h r x : Nat → Int) (i : Nat) : runC gd2 900 163 [.br false, .br false] fiBody (fiKeep.zip (fiO m o j n c b i)) (fiB l h r x) fiKeep [0, 1, 2, 3] = some (.exit 0, fiO m o j n c b i, (fiB l h r x).map some, [decide ((i : Int) < (n : Int)) = false, Fits .i64 (n : Int)]) :=
  r3_parts4 (by kernel_rfl) (by kernel_rfl) (by kernel_rfl) (by kernel_rfl)
end Go.Proofs.Tryd
