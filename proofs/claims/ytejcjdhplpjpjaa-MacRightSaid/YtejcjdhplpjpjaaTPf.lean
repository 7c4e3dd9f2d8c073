/- Accounts of this seat's functions: lemmas, no statement of their own. No conditions. -/
import Derived.Test.YtejcjdhplpjpjaaTPe
namespace Go.Proofs.Ytejcjdhplpjpjaa
open Go Go.Vx
/-! Bytes, Sum -/
theorem zs_run (a s : Nat → Int) : runF gj 900 [] 45 [.agg (svF (List.replicate 17 .i64) a 0), .agg (svF (List.replicate 16 .u8) s 0)] [] [] =
    some (.agg (svF (List.replicate 16 .u8) (dsB a s) 0), [], dfL a s 16 0) :=
  run_parts (by kernel_rfl) (by kernel_rfl) (by kernel_rfl)
noncomputable def zsF : SumF := fun args B => match args, B with
  | [.agg xs, .agg ys], [] => match numsAs (List.replicate 17 .i64) xs, numsAs (List.replicate 16 .u8) ys with
    | some l, some m => some { val := .agg (svF (List.replicate 16 .u8) (byteN (leN 16 (atL l) 0 + leN 16 (atL m) 0)) 0), C := [NG (atL l)] }
    | _, _ => none
  | _, _ => none
theorem zs_acc : Acc gj 45 zsF := by
  intro args B out h hC
  unfold zsF at h
  split at h
  · split at h
    · rename_i l m hl hm
      simp only [Option.some.injEq] at h; subst h
      have n1 : NG (atL l) := hC _ (by simp)
      refine FnOk.imp (args' := [.agg (svF (List.replicate 17 .i64) (atL l) 0), .agg (svF (List.replicate 16 .u8) (atL m) 0)]) ?_ ⟨nums_imp hl, nums_imp hm, trivial⟩
      refine FnOk.facts fun ⟨_, f, _⟩ => ?_
      have hb := factB f
      have ha : ∀ j, j < 16 → Byte (atL l j) := fun j hj => n1.1 j (by omega)
      have hr := zs_run (atL l) (atL m)
      have e : svF (List.replicate 16 .u8) (dsB (atL l) (atL m)) 0 = svF (List.replicate 16 .u8) (byteN (leN 16 (atL l) 0 + leN 16 (atL m) 0)) 0 := svF_cg _ 0 fun j hj => by
        rw [Nat.zero_add]; rw [List.length_replicate] at hj; exact dsB_eq ha hb hj
      rw [e] at hr
      exact FnOk.val (FnOk.pure gj_ok hr (dfL_ok ha hb 16 0 (by omega))) (fun _ _ _ _ h => h)
    · simp at h
  · simp at h
noncomputable abbrev gk : Ctx := gj.add [(44, blF), (43, adF4), (42, mvF), (41, cpF), (45, zsF)]
theorem gk_ok : CtxU gk := gj_ok.add mixed noGo (by
  intro x hx
  simp only [List.mem_cons, List.not_mem_nil, or_false] at hx
  rcases hx with rfl | rfl | rfl | rfl | rfl
  · exact bl_acc
  · exact ad_acc
  · exact mv_acc
  · exact cp_acc
  · exact zs_acc)
end Go.Proofs.Ytejcjdhplpjpjaa
