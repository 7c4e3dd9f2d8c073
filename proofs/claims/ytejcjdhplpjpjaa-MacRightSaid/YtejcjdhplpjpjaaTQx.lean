/- Accounts of this seat's functions: lemmas, no statement of their own. No conditions. -/
import Derived.Test.YtejcjdhplpjpjaaTQw
namespace Go.Proofs.Ytejcjdhplpjpjaa
open Go Go.Vx
/-! ### MacRight -/
def CK (k t : Nat → Int) (x : List Int) : Bool := decide ((if listF 16 (atL (DT (kk k) x)) 0 = listF 16 t 0 then (1 : Int) else 0) = 1)
noncomputable def F18c : SumF := fun args B => match args, B with
  | [.raw (.pointer none), .agg ks, .agg ts, .ro 1 m f], [] => match numsAs (List.replicate 32 .u8) ks, numsAs (List.replicate 16 .u8) ts with
    | some lk, some lt => some { val := .sbool (CK (atL lk) (atL lt) (xZ (lOf f) m)), C := oC f m }
    | _, _ => none
  | _, _ => none
theorem acc18c : Acc gs 18 F18c := by
  intro args B out h hC
  unfold F18c at h
  split at h
  · rename_i ks ts m f
    split at h
    · rename_i lk lt hk ht
      simp only [Option.some.injEq] at h; subst h
      have hC2 := hC
      simp only [oC, lC, allC_append, allC_cons, allC_nil, and_true] at hC2
      obtain ⟨⟨hf, Fm, hl⟩, hff⟩ := hC2
      rw [hf] at hff
      generalize lOf f = d at *
      have hc : AllC (oC (rowL d) m) := by
        simp only [oC, lC, allC_append, allC_cons, allC_nil, and_true]; exact ⟨⟨rfl, Fm, hl⟩, hff⟩
      refine FnOk.imp (args' := [nilR, .agg (svF (List.replicate 32 .u8) (atL lk) 0), .agg (svF (List.replicate 16 .u8) (atL lt) 0), .ro 1 m (rowL d)]) ?_ ⟨DenImp.refl _, nums_imp hk, nums_imp ht, by rw [hf]; exact DenImp.refl _, trivial⟩
      exact FnOk.val (C := oC (rowL d) m) (rd := []) (FnOk.pure gs_ok (check_run (atL lk) (atL lt) d m) hc) (fun _ _ _ _ h => h)
    · simp at h
  · simp at h
noncomputable abbrev gu : Ctx := gs.add [(18, F18c)]
theorem gu_ok : CtxU gu := gs_ok.add mixed noGo (by
  intro x hx
  simp only [List.mem_cons, List.not_mem_nil, or_false] at hx
  rcases hx with rfl
  exact acc18c)
end Go.Proofs.Ytejcjdhplpjpjaa
