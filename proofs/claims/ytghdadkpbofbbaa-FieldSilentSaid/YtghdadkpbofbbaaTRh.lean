/- Accounts of this seat's functions: lemmas, no statement of their own. No conditions. -/
import Derived.Test.YtghdadkpbofbbaaTRg
import Derived.Test.YtghdadkpbofbbaaV4
namespace Go.Proofs.Ytghdadkpbofbbaa
open Go Go.Vx
noncomputable def powF : SumF := fun args B => match args, B with
  | [.agg xs, .own 0], [.ints .i64 l] => match numsAs (List.replicate 16 .i64) xs with
    | some la => some { val := .agg (i16 (dgN (pwZ l (hxL la) l.length))), upd := [(0, some (.ints .i64 l))], C := [DG (atL la), l.length < 1000000000] }
    | none => none
  | _, _ => none
theorem i16_L16 (x : Nat → Int) : i16 (atL (L16 x)) = i16 x := i16_congr fun i hi => atL_listF hi
theorem acc_pow : Acc gRe 48 powF := by
  intro args B out h hC
  unfold powF at h
  split at h
  · rename_i xs l
    split at h
    · rename_i la hl
      simp only [Option.some.injEq] at h; subst h
      have c1 : DG (atL la) := hC _ (by simp)
      have c2 : l.length < 1000000000 := hC _ (by simp)
      have hr := po_run l (atL la)
      rw [hxL_L16, show hx 16 (atL la) 0 = hxL la from rfl] at hr
      have hL := po_loop
      exact FnOk.imp (FnOk.run (out := { val := .agg (i16 (dgN (pwZ l (hxL la) l.length))), upd := [(0, some (.ints .i64 l))], C := [DG (atL la), l.length < 1000000000] }) (new := []) gRe_ok hr (by
        rw [allC_append]
        simp only [poR, allC_cons, allC_nil, and_true]
        exact ⟨⟨by decide, hL⟩, i16_L16 _, DG_L16 c1, c2⟩) (by simp [upto]) rfl (by simp) (by simp) (fun j hj => by
        match j, hj with
        | 0, _ => rfl)) ⟨nums_imp hl, DenImp.refl _, trivial⟩
    · simp at h
  · simp at h
noncomputable abbrev gRf : Ctx := gRe.add [(34, skF), (48, powF)]
theorem gRf_ok : CtxU gRf := gRe_ok.add mixed noGo (by
  intro x hx
  simp only [List.mem_cons, List.not_mem_nil, or_false] at hx
  rcases hx with rfl | rfl
  · exact acc_sk
  · exact acc_pow)
/-- the digits of 2^255 - 21 -/
abbrev vvB : List Int := [1, 1, 1, 1, 1, 1, 1, 1, 1, 1, 1, 1, 1, 1, 1, 1, 1, 1, 1, 1, 1, 1, 1, 1, 1, 1, 1, 1, 1, 1, 1, 1, 1, 1, 1, 1, 1, 1, 1, 1, 1, 1, 1, 1, 1, 1, 1, 1, 1, 1, 1, 1, 1, 1, 1, 1, 1, 1, 1, 1, 1, 1, 1, 1, 1, 1, 1, 1, 1, 1, 1, 1, 1, 1, 1, 1, 1, 1, 1, 1, 1, 1, 1, 1, 1, 1, 1, 1, 1, 1, 1, 1, 1, 1, 1, 1, 1, 1, 1, 1, 1, 1, 1, 1, 1, 1, 1, 1, 1, 1, 1, 1, 1, 1, 1, 1, 1, 1, 1, 1, 1, 1, 1, 1, 1, 1, 1, 1, 1, 1, 1, 1, 1, 1, 1, 1, 1, 1, 1, 1, 1, 1, 1, 1, 1, 1, 1, 1, 1, 1, 1, 1, 1, 1, 1, 1, 1, 1, 1, 1, 1, 1, 1, 1, 1, 1, 1, 1, 1, 1, 1, 1, 1, 1, 1, 1, 1, 1, 1, 1, 1, 1, 1, 1, 1, 1, 1, 1, 1, 1, 1, 1, 1, 1, 1, 1, 1, 1, 1, 1, 1, 1, 1, 1, 1, 1, 1, 1, 1, 1, 1, 1, 1, 1, 1, 1, 1, 1, 1, 1, 1, 1, 1, 1, 1, 1, 1, 1, 1, 1, 1, 1, 1, 1, 1, 1, 1, 1, 1, 1, 1, 1, 1, 1, 1, 1, 1, 1, 1, 1, 0, 1, 0, 1, 1]
def exZ (l : List Int) : Nat → Nat
  | 0 => 0
  | i + 1 => bif !decide (l.getD i 0 = 0) then 2 * exZ l i + 1 else 2 * exZ l i
theorem pwZ_ex (l : List Int) (A : Int) : ∀ i, pwZ l A i % Q = A ^ exZ l i % Q
  | 0 => by show (1 : Int) % Q = A ^ 0 % Q; rw [Int.pow_zero]
  | i + 1 => by
    have ih := pwZ_ex l A i
    have hs : pwZ l A i * pwZ l A i % Q = A ^ (2 * exZ l i) % Q := by
      rw [Int.mul_emod, ih, ← Int.mul_emod, ← Int.pow_add]; congr 2; omega
    simp only [pwZ, exZ]
    cases (!decide (l.getD i 0 = 0)) with
    | true =>
      simp only [cond_true]
      rw [hs, Int.emod_emod_of_dvd _ (Int.dvd_refl Q), Int.mul_emod, Int.emod_emod_of_dvd _ (Int.dvd_refl Q), ← Int.mul_emod, Int.pow_succ]
    | false =>
      simp only [cond_false]
      rw [hs, Int.emod_emod_of_dvd _ (Int.dvd_refl Q)]
theorem vvB_ex : exZ vvB 255 = Qn - 2 := by kernel_rfl
theorem vvZ (A : Int) : pwZ vvB A 255 = A ^ (Qn - 2) % Q := by
  rw [← vvB_ex, ← pwZ_ex]
  exact (Int.emod_eq_of_lt (pwZ_lt vvB A 255).1 (pwZ_lt vvB A 255).2).symm
abbrev vvP (a : Nat → Int) : Int := pwZ vvB (hxL (L16 a)) 255
end Go.Proofs.Ytghdadkpbofbbaa
