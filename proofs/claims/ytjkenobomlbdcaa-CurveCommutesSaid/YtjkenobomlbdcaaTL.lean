/- Accounts of this seat's functions: lemmas, no statement of their own. No conditions. -/
import Derived.Test.YtjkenobomlbdcaaTK
namespace Go.Proofs.Ytjkenobomlbdcaa
open Go Go.Vx
noncomputable abbrev gS : Ctx := gK.add [(13, sharedF)]
theorem gS_ok : CtxU gS := gK_ok.add mixed noGo (by
  intro x hx
  simp only [List.mem_cons, List.not_mem_nil, or_false] at hx
  rcases hx with rfl
  exact acc_shared)
/-! ### what the document fixes -/
theorem evC_len : evC.length = 5104 := by
  rw [evC_def]
  rw [List.length_append, lgM_len]; rfl
abbrev k31 : List Int := List.replicate 31 0 ++ [64]
abbrev shL (a b : Int) : Nat → Int := shF (atL (kl a)) (atL (kl b))
theorem kn_run : runF gS 3000 (List.replicate 30 (.br true)) 14 [] [] [] =
    some (.sbool (decide ((([] ++ evC ++ evC : List (List Int)).length : Int) = 10208)), [], [([] : List (List Int)).length < 1000000000, ([] ++ evC : List (List Int)).length < 1000000000,
      decide (listF 32 (clN (kl 7)) 0 = k31) = true, decide (listF 32 (shL 5 1) 0 = List.replicate 32 0) = true, decide (shL 0 9 31 = 116) = true, decide (shL 0 9 1 = 229) = true, decide (shL 0 9 0 = 47) = true]) :=
  run_parts (by kernel_rfl) (by kernel_rfl) (by kernel_rfl)
theorem V51 : shV (atL (listF 32 (shK (atL (kl 5))) 0)) 1 = 0 := by kernel_rfl
theorem V09_0 : byteN (shV (atL (listF 32 (shK (atL (kl 0))) 0)) 9) 0 = 47 := by kernel_rfl
theorem V09_1 : byteN (shV (atL (listF 32 (shK (atL (kl 0))) 0)) 9) 1 = 229 := by kernel_rfl
theorem V09_31 : byteN (shV (atL (listF 32 (shK (atL (kl 0))) 0)) 9) 31 = 116 := by kernel_rfl
theorem shL_eq (a : Int) {b : Int} (h : 0 ≤ b ∧ b < 256) : listF 32 (shL a b) 0 = listF 32 (byteN (shV (atL (listF 32 (shK (atL (kl a))) 0)) b)) 0 := shF_V (is_k h)
theorem listF_at {n : Nat} {f g : Nat → Int} (h : listF n f 0 = listF n g 0) {i : Nat} (hi : i < n) : f i = g i := by
  rw [← atL_listF (a := f) hi, ← atL_listF (a := g) hi, h]
def F14 : SumF := fun args B => match args, B with
  | [], [] => some { val := .sbool true }
  | _, _ => none
theorem acc14 : Acc gS 14 F14 := by
  intro args B out h _
  unfold F14 at h
  split at h
  · simp only [Option.some.injEq] at h; subst h
    have e1 := evC_len
    have e2 : decide ((([] ++ evC ++ evC : List (List Int)).length : Int) = 10208) = true := decide_eq_true (by rw [List.length_append, List.nil_append, e1]; rfl)
    have hr := kn_run
    rw [e2] at hr
    have h9 := shL_eq 0 (b := 9) (by decide)
    refine FnOk.pure gS_ok hr ?_
    simp only [allC_cons, allC_nil, and_true]
    refine ⟨by decide, by rw [List.nil_append, e1]; decide, decide_eq_true (by kernel_rfl), decide_eq_true ?_, decide_eq_true ?_, decide_eq_true ?_, decide_eq_true ?_⟩
    · rw [shL_eq 5 (by decide), V51]; kernel_rfl
    · rw [listF_at h9 (by decide), V09_31]
    · rw [listF_at h9 (by decide), V09_1]
    · rw [listF_at h9 (by decide), V09_0]
  · simp at h
noncomputable abbrev gN : Ctx := gS.add [(14, F14)]
theorem gN_ok : CtxU gN := gS_ok.add mixed noGo (by
  intro x hx
  simp only [List.mem_cons, List.not_mem_nil, or_false] at hx
  rcases hx with rfl
  exact acc14)
end Go.Proofs.Ytjkenobomlbdcaa
