/- Accounts of this seat's functions: lemmas, no statement of their own. No conditions. -/
import Derived.Test.YtjkenobomlbdcaaTS
namespace Go.Proofs.Ytjkenobomlbdcaa
open Go Go.Vx
/-! ### the two ladders -/
theorem kbit_eq {f : Nat → Int} (h : ∀ j, j < 32 → Byte (f j)) {i : Nat} (hi : i < 255) : kBit f i = kbZ (listF 32 f 0) (254 - (i : Int)) ∧ (kBit f i = 0 ∨ kBit f i = 1) := by
  obtain ⟨m, hm, hm2⟩ : ∃ m : Nat, 254 - (i : Int) = (m : Int) ∧ m < 256 := ⟨254 - i, by omega, by omega⟩
  have d8 : (m : Int).tdiv 8 = ((m / 8 : Nat) : Int) := by rw [Int.tdiv_eq_ediv_of_nonneg (Int.natCast_nonneg _)]; rfl
  have m8 : (m : Int).tmod 8 = ((m % 8 : Nat) : Int) := by rw [Int.tmod_eq_emod_of_nonneg (Int.natCast_nonneg _)]; rfl
  have hj : m / 8 < 32 := by omega
  have hv : (listF 32 f 0).getD (m / 8) 0 = f (m / 8) := atL_listF hj
  have hb := h _ hj
  have e1 : kBit f i = f (m / 8) / ((2 ^ (m % 8) : Nat) : Int) % 2 := by
    unfold kBit
    rw [hm, d8, m8, Int.toNat_natCast, hv, ushrE _ _ hb.1]
    exact umaskE _ 1 (Int.ediv_nonneg hb.1 (Int.natCast_nonneg _))
  have e2 : kbZ (listF 32 f 0) (254 - (i : Int)) = f (m / 8) / ((2 ^ (m % 8) : Nat) : Int) % 2 := by
    unfold kbZ
    rw [hm, show ((m : Int) / 8).toNat = m / 8 by omega, show ((m : Int) % 8).toNat = m % 8 by omega, hv]
  refine ⟨by rw [e1, e2], ?_⟩
  rw [e1]
  omega
theorem sw_sw (L : Lz) : sw4 (sw4 L) = L := rfl
theorem lzSw1 {s : Int} (h : s % 2 = 1) (L : Lz) : lzSw s L = sw4 L := by unfold lzSw; rw [if_pos h]
theorem lzSw0 {s : Int} (h : ¬ s % 2 = 1) (L : Lz) : lzSw s L = L := by unfold lzSw; rw [if_neg h]
theorem two_lad {f : Nat → Int} (h : ∀ j, j < 32 → Byte (f j)) {x : Int} (hx : InQ x) : ∀ i, i ≤ 255 →
    ((shZ f x 0 ⟨1, 0, x, 1⟩ i).1 = 0 ∨ (shZ f x 0 ⟨1, 0, x, 1⟩ i).1 = 1) ∧ rsZ f x i = lzSw (shZ f x 0 ⟨1, 0, x, 1⟩ i).1 (shZ f x 0 ⟨1, 0, x, 1⟩ i).2
  | 0, _ => ⟨.inl rfl, (lzSw0 (s := 0) (by decide) _).symm⟩
  | i + 1, hi => by
    obtain ⟨ht, ih⟩ := two_lad h hx i (by omega)
    obtain ⟨hb, hb01⟩ := kbit_eq h (i := i) (by omega)
    have hin := rsZ_in f hx i
    have hin2 : LQ (sw4 (rsZ f x i)) := ⟨hin.2.2.1, hin.2.2.2, hin.1, hin.2.1⟩
    refine ⟨hb01, ?_⟩
    show (bif decide (kbZ (listF 32 f 0) (254 - (i : Int)) = 1) then sw4 (stpR x (sw4 (rsZ f x i))) else stpR x (rsZ f x i)) = lzSw (kBit f i) (lzStep x (lzSw (uadd .u64 (shZ f x 0 ⟨1, 0, x, 1⟩ i).1 (kBit f i)) (shZ f x 0 ⟨1, 0, x, 1⟩ i).2))
    rw [← hb, stp_eq hx hin, stp_eq hx hin2]
    generalize (shZ f x 0 ⟨1, 0, x, 1⟩ i).1 = t at *
    generalize (shZ f x 0 ⟨1, 0, x, 1⟩ i).2 = M at *
    generalize kBit f i = b at *
    generalize rsZ f x i = R at *
    clear hb hin hin2
    rcases ht with rfl | rfl <;> rcases hb01 with rfl | rfl
    · rw [ih, lzSw0 (by decide), lzSw0 (by decide), lzSw0 (by decide)]; rfl
    · rw [ih, lzSw0 (by decide), lzSw1 (by decide), lzSw1 (by decide)]; rfl
    · rw [ih, lzSw1 (by decide), lzSw0 (by decide), lzSw1 (by decide)]; rfl
    · rw [ih, lzSw1 (by decide), lzSw1 (by decide), lzSw0 (by decide)]; rfl
theorem zEnd_rs {f : Nat → Int} (h : ∀ j, j < 32 → Byte (f j)) {x : Int} (hx : InQ x) : rsZ f x 255 = zEnd f x := (two_lad h hx 255 (Nat.le_refl _)).2
theorem inv_eq (b : Int) : b ^ (Qn - 2) % Q = invM b % Q := by rw [← invM_eq, invP_pow]
noncomputable def shared5F : SumF := fun args B => match args, B with
  | [.agg ks, .agg us], [] => match numsAs (List.replicate 32 .u8) ks, numsAs (List.replicate 32 .u8) us with
    | some lk, some lu => some { val := .agg (b32 (shF (atL lk) (atL lu))) }
    | _, _ => none
  | _, _ => none
theorem b32_congr {x y : Nat → Int} (h : ∀ i, i < 32 → x i = y i) : b32 x = b32 y := s32_congr h
/-- the document's clamped key is the other one -/
theorem rc_cl {k : Nat → Int} (hb : ∀ i, i < 32 → Byte (k i)) : listF 32 (kC k) 0 = listF 32 (rK k) 0 := by
  have h0 := hb 0 (by decide)
  have h31 := hb 31 (by decide)
  obtain ⟨a, ha⟩ := Int.eq_ofNat_of_zero_le h0.1
  obtain ⟨b, hb2⟩ := Int.eq_ofNat_of_zero_le h31.1
  obtain ⟨p1, p2, p3, p4, p5⟩ := cl_0 a (by have := h0.2; omega)
  obtain ⟨q1, q2, q3⟩ := cl_31 b (by have := h31.2; omega)
  have at0 : ∀ f : Nat → Int, atL (listF 32 f 0) 0 = f 0 := fun f => atL_listF (by decide)
  have at31 : ∀ f : Nat → Int, atL (listF 32 f 0) 31 = f 31 := fun f => atL_listF (by decide)
  refine listF_eq0.2 (by32 ?_ (fun i hi => by unfold kC rK; rw [clN_i _ i hi, rcN_i _ i hi]) ?_)
  · show uand (atL (listF 32 k 0) 0) 248 = usub .u8 (atL (listF 32 k 0) 0) (urem (atL (listF 32 k 0) 0) 8)
    rw [at0, ha]
    show ((a &&& 248 : Nat) : Int) = _
    rw [p5]; rfl
  · show uor (umask (atL (listF 32 k 0) 31) 127) 64 = uadd .u8 (urem (atL (listF 32 k 0) 31) 64) 64
    rw [at31, hb2]
    show (((b % 128) ||| 64 : Nat) : Int) = (((b % 64 + 64) % 256 : Nat) : Int)
    rw [q1]; omega
theorem kC_byte {k : Nat → Int} (hb : ∀ i, i < 32 → Byte (k i)) : ∀ i, i < 32 → Byte (kC k i) := fun i hi => by
  have h0 := hb 0 (by decide)
  have h31 := hb 31 (by decide)
  obtain ⟨a, ha⟩ := Int.eq_ofNat_of_zero_le h0.1
  obtain ⟨b, hb2⟩ := Int.eq_ofNat_of_zero_le h31.1
  obtain ⟨p1, p2, p3, p4, p5⟩ := cl_0 a (by have := h0.2; omega)
  obtain ⟨q1, q2, q3⟩ := cl_31 b (by have := h31.2; omega)
  by_cases e0 : i = 0
  · subst e0
    have : kC k 0 = ((a &&& 248 : Nat) : Int) := by unfold kC; rw [clN_0, atL_listF (by decide), ha]; rfl
    rw [this, p1]; have := h0.2; exact ⟨by omega, by omega⟩
  · by_cases e1 : i = 31
    · subst e1
      have : kC k 31 = (((b % 128) ||| 64 : Nat) : Int) := by unfold kC; rw [clN_31, atL_listF (by decide), hb2]; rfl
      rw [this, q1]; exact ⟨by omega, by omega⟩
    · obtain ⟨j, rfl⟩ : ∃ j, i = j + 1 := ⟨i - 1, by omega⟩
      unfold kC
      rw [clN_i _ j (by omega), atL_listF (by omega)]
      exact hb _ hi
theorem acc_sh5 : Acc gRh 22 shared5F := by
  intro args B out h _
  unfold shared5F at h
  split at h
  · split at h
    · rename_i lk lu hk hu
      simp only [Option.some.injEq] at h; subst h
      refine FnOk.imp (args' := [.agg (b32 (atL lk)), .agg (b32 (atL lu))]) ?_ ⟨nums_imp hk, nums_imp hu, trivial⟩
      refine FnOk.facts fun ⟨fk, fu, _⟩ => ?_
      have bk := facts8 fk
      have bu := facts8 fu
      generalize atL lk = k at *
      generalize atL lu = u at *
      have hXr : InQ (rX u) := modQ _
      have eX : rX' u = rX u := hxL_dgQ hXr
      have bL : ∀ j, j < 32 → Byte (atL (listF 32 (rK k) 0) j) := fun j hj => by
        rw [← rc_cl bk, atL_listF hj]; exact kC_byte bk j hj
      have eEnd : rEnd k u = zEnd (atL (listF 32 (kC k) 0)) (rX u) := by
        unfold rEnd
        rw [eX, zEnd_rs bL hXr, rc_cl bk]
      have hin : LQ (rEnd k u) := by unfold rEnd; rw [eX]; exact rsZ_in _ hXr _
      have eV : rV k u = shV (atL (listF 32 (kC k) 0)) (rX u) := by
        unfold rV shV mm
        rw [show hD (rEnd k u).a = (rEnd k u).a from hxL_dgQ hin.1, show hD (rEnd k u).b = (rEnd k u).b from hxL_dgQ hin.2.1, hxL_dgQ (modQ _), inv_eq, eEnd]
        rw [Int.mul_emod, Int.emod_emod_of_dvd _ (Int.dvd_refl Q), ← Int.mul_emod]
      have hr := rs_run k u
      rw [hxL_dgQ (show InQ (rV k u) from modQ _), eV] at hr
      have hA : Is (L5 (fdecN (listF 32 u 0))) (rX u) := by
        have bu' : ∀ i, i < 32 → Byte (atL (listF 32 u 0) i) := fun i hi => by rw [atL_listF hi]; exact bu i hi
        exact Is_mod (is_dec bu')
      have hs := shF_V (k := k) hA
      have eK : shK k = kC k := rfl
      rw [eK] at hs
      rw [b32_congr (fun i hi => (listF_eq0.1 hs i hi).symm)] at hr
      refine FnOk.pure gRh_ok hr ?_
      have g : ∀ N, dGx N := fun N => DG_dg N
      simp only [allC_cons, allC_nil, and_true]
      have e1 : i16 (atL (L16 (dgN (rX u)))) = i16 (dgN (rX' u)) := by rw [eX]; exact i16_L16 _
      exact ⟨⟨by decide, by decide⟩, ⟨by decide, by decide⟩, ⟨by decide, by decide⟩, rs_loop, trivial, e1, i16_L16 _, i16_L16 _, e1, i16_L16 _, by rw [eX]; exact hXr, g _, g _, g _, g _⟩
    · simp at h
  · simp at h
noncomputable abbrev gRi : Ctx := gRh.add [(22, shared5F)]
theorem gRi_ok : CtxU gRi := gRh_ok.add mixed noGo (by
  intro x hx
  simp only [List.mem_cons, List.not_mem_nil, or_false] at hx
  rcases hx with rfl
  exact acc_sh5)
end Go.Proofs.Ytjkenobomlbdcaa
