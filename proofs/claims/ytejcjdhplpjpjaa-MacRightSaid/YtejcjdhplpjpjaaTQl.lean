/- Accounts of this seat's functions: lemmas, no statement of their own. No conditions. -/
import Derived.Test.YtejcjdhplpjpjaaTQk
import Derived.Test.YtejcjdhplpjpjaaV4
namespace Go.Proofs.Ytejcjdhplpjpjaa
open Go Go.Vx
/-! ### New; all accounts -/
noncomputable def F11 : SumF := fun args B => match args, B with
  | [.raw (.pointer none), .agg ks], [] => match numsAs (List.replicate 32 .u8) ks with
    | some lk => some { val := .ptr 0 0, new := [nwV (atL lk)] }
    | _ => none
  | _, _ => none
theorem acc11 : Acc gp 11 F11 := by
  intro args B out h hC
  unfold F11 at h
  split at h
  · split at h
    · rename_i lk hk
      simp only [Option.some.injEq] at h; subst h
      refine FnOk.imp (args' := [nilR, .agg (svF (List.replicate 32 .u8) (atL lk) 0)]) ?_ ⟨DenImp.refl _, nums_imp hk, trivial⟩
      exact FnOk.run (out := { val := .ptr 0 0, new := [nwV (atL lk)] }) (new := [1]) gp_ok (nw_run (atL lk)) (by simp [AllC]) (by simp [upto]) rfl (by simp) (by simp) (fun j hj => by
          match j, hj with
          | 0, _ => rfl)
    · simp at h
  · simp at h
noncomputable abbrev gn : Ctx := gw.add [(11, F11), (12, F12), (13, F13), (14, F14), (15, F15)]
theorem gn_ok : CtxU gn := gw_ok.add mixed noGo (by
  intro x hx
  simp only [List.mem_cons, List.not_mem_nil, or_false] at hx
  rcases hx with rfl | rfl | rfl | rfl | rfl
  · exact Acc.of (g := gp) rfl rfl acc11
  · exact acc12
  · exact acc13
  · exact acc14
  · exact Acc.of (g := gko) rfl rfl acc15)
/-! ### steps as rows -/
noncomputable abbrev rowY (p : Nat → Bool) (d : Nat → List Int) : Nat → SV := fun i => .agg [.sbool (p i), .roi .u8 (d i)]
def pOf (f : Nat → SV) (i : Nat) : Bool := match f i with | .agg [.sbool b, _] => b | _ => false
def dOf (f : Nat → SV) (i : Nat) : List Int := match f i with | .agg [_, .roi _ l] => l | _ => []
end Go.Proofs.Ytejcjdhplpjpjaa
