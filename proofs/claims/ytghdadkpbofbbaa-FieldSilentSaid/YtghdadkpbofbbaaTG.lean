/- Accounts of this seat's functions: lemmas, no statement of their own. No conditions. -/
import Derived.Test.YtghdadkpbofbbaaTF
namespace Go.Proofs.Ytghdadkpbofbbaa
open Go Go.Vx
/-! ### what the document fixes -/
abbrev kl (m : Int) : List Int := m :: List.replicate 31 0
abbrev kT (m : Int) : List Int := L5 (fdecN (kl m))
abbrev kE (x : List Int) (m : Int) : Prop := decide (BS x = kl m) = true
abbrev kSw (x y : Nat → Int) (i : Nat) : Int := uxor (x i) (umask (uxor (fdecN (kl 3) i) (fdecN (kl 4) i)) 18446744073709551615)
abbrev klog : List (List Int) := [[3, 6], [3, 3], [3, 1], [3, 4], [3, 2], [3, 5], [3, 7]]
theorem kn_run : runF gF 3000 (List.replicate 30 (.br true)) 12 [] [] [] =
    some (.sbool true, [], [(klog.take 0).length < 1099511627776, (klog.take 1).length < 1099511627776, (klog.take 2).length < 1099511627776, (klog.take 3).length < 1099511627776, (klog.take 4).length < 1099511627776, (klog.take 5).length < 1099511627776, (klog.take 6).length < 1099511627776,
      kE (L5 (kSw (fdecN (kl 4)) (fdecN (kl 3)))) 3, kE (L5 (kSw (fdecN (kl 3)) (fdecN (kl 4)))) 4, kE (L5 (fsclN (L5 (finvN (kT 2))) 20)) 10, kE (L5 (fsubN (kT 4) (kT 3))) 1, kE (L5 (fmulN (listF 5 (atL (kT 3)) 0) (listF 5 (atL (kT 3)) 0))) 9, kE (L5 (faddN (kT 3) (kT 4))) 7, kE (L5 (fmulN (kT 3) (kT 4))) 12]) :=
  run_parts (by kernel_rfl) (by kernel_rfl) (by kernel_rfl)
theorem kl_byte {m : Int} (h : 0 ≤ m ∧ m < 256) : ∀ i, i < 32 → Byte (atL (kl m) i) := fun i hi => by
  refine getD_byte _ i fun x hx => ?_
  simp only [kl, List.mem_cons, List.mem_replicate] at hx
  rcases hx with rfl | ⟨_, rfl⟩
  · exact h
  · exact ⟨by decide, by decide⟩
theorem kl_le {m : Int} (h : 0 ≤ m ∧ m < 256) : leN 32 (atL (kl m)) 0 = m := by
  show m + 256 * leN 31 (atL (kl m)) 1 = m
  have : leN 31 (atL (kl m)) 1 = 0 := rfl
  rw [this]; omega
theorem is_k {m : Int} (h : 0 ≤ m ∧ m < 256) : Is (kT m) m := by
  have := is_dec (l := kl m) (kl_byte h)
  rw [kl_le h] at this
  refine ⟨this.1, ?_⟩
  rw [this.2]
  rw [Int.emod_eq_of_lt (a := m) h.1 (by omega)]
theorem kE_of {x : List Int} {n m : Int} (hx : Is x n) (h : n % Q = m) (hm : listF 32 (byteN m) 0 = kl m) : kE x m := by
  unfold kE
  rw [bytes_eq hx, h, hm]
  exact decide_eq_true rfl
def F12 : SumF := fun args B => match args, B with
  | [], [] => some { val := .sbool true }
  | _, _ => none
theorem half_ten : invM 2 * 20 % Q = 10 := by kernel_rfl
theorem acc12 : Acc gF 12 F12 := by
  intro args B out h _
  unfold F12 at h
  split at h
  · simp only [Option.some.injEq] at h; subst h
    have h2 := is_k (m := 2) (by decide)
    have h3 := is_k (m := 3) (by decide)
    have h4 := is_k (m := 4) (by decide)
    have s4 : Is (L5 (kSw (fdecN (kl 4)) (fdecN (kl 3)))) 3 := Is_congr h3 fun i hi => by
      rw [atL_listF hi]
      have := (sw_lit (fs_u64 h3.1 i hi) (fs_u64 h4.1 i hi)).2
      rw [atL_listF hi, atL_listF hi] at this
      rw [atL_listF hi]
      exact this
    have s3 : Is (L5 (kSw (fdecN (kl 3)) (fdecN (kl 4)))) 4 := Is_congr h4 fun i hi => by
      rw [atL_listF hi]
      have := (sw_lit (fs_u64 h3.1 i hi) (fs_u64 h4.1 i hi)).1
      rw [atL_listF hi, atL_listF hi] at this
      rw [atL_listF hi]
      exact this
    refine FnOk.pure gF_ok kn_run ?_
    simp only [allC_cons, allC_nil, and_true]
    refine ⟨by decide, by decide, by decide, by decide, by decide, by decide, by decide, ?_, ?_, ?_, ?_, ?_, ?_, ?_⟩
    · exact kE_of s4 (by decide) (by kernel_rfl)
    · exact kE_of s3 (by decide) (by kernel_rfl)
    · exact kE_of (is_scl (is_invM h2) (by decide)) half_ten (by kernel_rfl)
    · exact kE_of (is_sub h4 h3) (by decide) (by kernel_rfl)
    · exact kE_of (is_mul (is_list h3) (is_list h3)) (by decide) (by kernel_rfl)
    · exact kE_of (is_add h3 h4) (by decide) (by kernel_rfl)
    · exact kE_of (is_mul h3 h4) (by decide) (by kernel_rfl)
  · simp at h
noncomputable abbrev gG : Ctx := gF.add [(12, F12)]
theorem gG_ok : CtxU gG := gF_ok.add mixed noGo (by
  intro x hx
  simp only [List.mem_cons, List.not_mem_nil, or_false] at hx
  rcases hx with rfl
  exact acc12)
end Go.Proofs.Ytghdadkpbofbbaa
