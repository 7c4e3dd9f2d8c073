/- Accounts of this seat's functions: lemmas, no statement of their own. No conditions. -/
import Derived.Test.YtibfgdbkobgemaaTPe
namespace Go.Proofs.Ytibfgdbkobgemaa
open Go Go.Vx
/-! Bytes, Sum -/
theorem yb_run (b : Nat → Int) : runF gj 600 [] 35 [.agg (svF (List.replicate 17 .i64) b 0)] [] [] =
    some (.agg (svF (List.replicate 17 .u8) (fun j => scut .u8 (b j)) 0), [], []) :=
  run_parts (by kernel_rfl) (by kernel_rfl) (by kernel_rfl)
noncomputable def ybF : SumF := fun args B => match args, B with
  | [.agg xs], [] => match numsAs (List.replicate 17 .i64) xs with
    | some l => some { val := .agg (svF (List.replicate 17 .u8) (atL l) 0), C := [NG (atL l)] }
    | none => none
  | _, _ => none
theorem scut_byte {x : Int} (h : Byte x) : scut .u8 x = x := by
  unfold Byte at h
  show x % 256 = x
  omega
theorem yb_acc : Acc gj 35 ybF := by
  intro args B out h hC
  unfold ybF at h
  split at h
  · split at h
    · rename_i l hl
      simp only [Option.some.injEq] at h; subst h
      have n1 : NG (atL l) := hC _ (by simp)
      refine FnOk.imp (args' := [.agg (svF (List.replicate 17 .i64) (atL l) 0)]) ?_ ⟨nums_imp hl, trivial⟩
      have hr := yb_run (atL l)
      have e : svF (List.replicate 17 .u8) (fun j => scut .u8 (atL l j)) 0 = svF (List.replicate 17 .u8) (atL l) 0 := svF_cg _ 0 fun j hj => by
        rw [Nat.zero_add]; rw [List.length_replicate] at hj; exact scut_byte (n1.1 j hj)
      rw [e] at hr
      exact FnOk.val (FnOk.pure gj_ok hr (by simp [AllC])) (fun _ _ _ _ h => h)
    · simp at h
  · simp at h
theorem zs_run (a s : Nat → Int) : runF gj 900 [] 36 [.agg (svF (List.replicate 17 .i64) a 0), .agg (svF (List.replicate 16 .u8) s 0)] [] [] =
    some (.agg (svF (List.replicate 16 .u8) (dsB a s) 0), [], dfL a s 16 0) :=
  run_parts (by kernel_rfl) (by kernel_rfl) (by kernel_rfl)
noncomputable def zsF : SumF := fun args B => match args, B with
  | [.agg xs, .agg ys], [] => match numsAs (List.replicate 17 .i64) xs, numsAs (List.replicate 16 .u8) ys with
    | some l, some m => some { val := .agg (svF (List.replicate 16 .u8) (byteN (leN 16 (atL l) 0 + leN 16 (atL m) 0)) 0), C := [NG (atL l)] }
    | _, _ => none
  | _, _ => none
theorem zs_acc : Acc gj 36 zsF := by
  intro args B out h hC
  unfold zsF at h
  split at h
  · split at h
    · rename_i l m hl hm
      simp only [Option.some.injEq] at h; subst h
      have n1 : NG (atL l) := hC _ (by simp)
      refine FnOk.imp (args' := [.agg (svF (List.replicate 17 .i64) (atL l) 0), .agg (svF (List.replicate 16 .u8) (atL m) 0)]) ?_ ⟨nums_imp hl, nums_imp hm, trivial⟩
      refine FnOk.facts fun ⟨_, f, _⟩ => ?_
      have hb := factB f
      have ha : ∀ j, j < 16 → Byte (atL l j) := fun j hj => n1.1 j (by omega)
      have hr := zs_run (atL l) (atL m)
      have e : svF (List.replicate 16 .u8) (dsB (atL l) (atL m)) 0 = svF (List.replicate 16 .u8) (byteN (leN 16 (atL l) 0 + leN 16 (atL m) 0)) 0 := svF_cg _ 0 fun j hj => by
        rw [Nat.zero_add]; rw [List.length_replicate] at hj; exact dsB_eq ha hb hj
      rw [e] at hr
      exact FnOk.val (FnOk.pure gj_ok hr (dfL_ok ha hb 16 0 (by omega))) (fun _ _ _ _ h => h)
    · simp at h
  · simp at h
noncomputable abbrev gk : Ctx := gj.add [(31, blF), (32, adF4), (34, mvF), (30, cpF), (35, ybF), (36, zsF)]
theorem gk_ok : CtxU gk := gj_ok.add mixed noGo (by
  intro x hx
  simp only [List.mem_cons, List.not_mem_nil, or_false] at hx
  rcases hx with rfl | rfl | rfl | rfl | rfl | rfl
  · exact bl_acc
  · exact ad_acc
  · exact mv_acc
  · exact cp_acc
  · exact yb_acc
  · exact zs_acc)
end Go.Proofs.Ytibfgdbkobgemaa
