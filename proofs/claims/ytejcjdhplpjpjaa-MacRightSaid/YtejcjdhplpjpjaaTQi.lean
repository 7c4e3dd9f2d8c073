/- Accounts of this seat's functions: lemmas, no statement of their own. No conditions. -/
import Derived.Test.YtejcjdhplpjpjaaTQh
namespace Go.Proofs.Ytejcjdhplpjpjaa
open Go Go.Vx
/-! ### Of of one constant piece: what known asks -/
noncomputable def F16k : SumF := fun args B => match args, B with
  | [.raw (.pointer none), .agg ks, .sl 0 1 0 1 0 1 true], [.cells [.sl 1 15 0 1 0 15 true], .cells bs] =>
    match numsAs (List.replicate 32 .u8) ks, numsAs (List.replicate 15 .u8) bs with
    | some lk, some lb => some { val := .agg (svF (List.replicate 16 .u8) (ofX (atL lk) (atL lb)) 0), upd := [(0, some (.cells [.sl 1 15 0 1 0 15 true])), (1, some (.cells (svF (List.replicate 15 .u8) (atL lb) 0)))] }
    | _, _ => none
  | _, _ => none
theorem acc16k : Acc gp 16 F16k := by
  intro args B out h hC
  unfold F16k at h
  split at h
  · split at h
    · rename_i lk lb hk hb
      simp only [Option.some.injEq] at h; subst h
      refine FnOk.imp (args' := [nilR, .agg (svF (List.replicate 32 .u8) (atL lk) 0), .sl 0 1 0 1 0 1 true]) ?_ ⟨DenImp.refl _, nums_imp hk, DenImp.refl _, trivial⟩
      refine FnOk.preB (B' := [.cells [.sl 1 15 0 1 0 15 true], .cells (svF (List.replicate 15 .u8) (atL lb) 0)]) ?_ ⟨⟨BImp.refl _, fun l hl => by injection hl with hl; subst hl; intro d hd; simp at hd; subst hd; rfl⟩, cells_nums hb, trivial⟩ (fun j => by
        match j with
        | 0 => rfl
        | 1 => rfl
        | j + 2 => rfl)
      exact FnOk.run (new := []) gp_ok (of15_run (atL lk) (atL lb)) (by simp [AllC]) (by simp [upto]) rfl (by simp) (by simp) (fun j hj => by
          match j, hj with
          | 0, _ => rfl
          | 1, _ => rfl)
    · simp at h
  · simp at h
noncomputable abbrev gkn : Ctx := gp.add [(16, F16k), (47, eqArrF 16)]
theorem gkn_ok : CtxU gkn := gp_ok.add mixed noGo (by
  intro x hx
  simp only [List.mem_cons, List.not_mem_nil, or_false] at hx
  rcases hx with rfl | rfl
  · exact Acc.of rfl rfl acc16k
  · exact Acc.of (g := g0) rfl rfl acc47)
theorem ck_run (k t b : Nat → Int) : runF gkn 400 [] 18 [nilR, .agg (svF (List.replicate 32 .u8) k 0), .agg (svF (List.replicate 16 .u8) t 0), .sl 0 1 0 1 0 1 true] [.cells [.sl 1 15 0 1 0 15 true], .cells (svF (List.replicate 15 .u8) b 0)] [] =
    some (.sbool (decide ((if listF 16 (ofX (atL (listF 32 k 0)) (atL (listF 15 b 0))) 0 = listF 16 t 0 then (1 : Int) else 0) = 1)), [some (.cells [.sl 1 15 0 1 0 15 true]), some (.cells (svF (List.replicate 15 .u8) (atL (listF 15 b 0)) 0))], []) := run_parts (by kernel_rfl) (by kernel_rfl) (by kernel_rfl)
noncomputable def F18k : SumF := fun args B => match args, B with
  | [.raw (.pointer none), .agg ks, .agg ts, .sl 0 1 0 1 0 1 true], [.cells [.sl 1 15 0 1 0 15 true], .cells bs] =>
    match numsAs (List.replicate 32 .u8) ks, numsAs (List.replicate 16 .u8) ts, numsAs (List.replicate 15 .u8) bs with
    | some lk, some lt, some lb => some { val := .sbool (decide ((if listF 16 (ofX (atL (listF 32 (atL lk) 0)) (atL (listF 15 (atL lb) 0))) 0 = listF 16 (atL lt) 0 then (1 : Int) else 0) = 1)), upd := [(0, some (.cells [.sl 1 15 0 1 0 15 true])), (1, some (.cells (svF (List.replicate 15 .u8) (atL (listF 15 (atL lb) 0)) 0)))] }
    | _, _, _ => none
  | _, _ => none
theorem acc18k : Acc gkn 18 F18k := by
  intro args B out h hC
  unfold F18k at h
  split at h
  · split at h
    · rename_i lk lt lb hk ht hb
      simp only [Option.some.injEq] at h; subst h
      refine FnOk.imp (args' := [nilR, .agg (svF (List.replicate 32 .u8) (atL lk) 0), .agg (svF (List.replicate 16 .u8) (atL lt) 0), .sl 0 1 0 1 0 1 true]) ?_ ⟨DenImp.refl _, nums_imp hk, nums_imp ht, DenImp.refl _, trivial⟩
      refine FnOk.preB (B' := [.cells [.sl 1 15 0 1 0 15 true], .cells (svF (List.replicate 15 .u8) (atL lb) 0)]) ?_ ⟨⟨BImp.refl _, fun l hl => by injection hl with hl; subst hl; intro d hd; simp at hd; subst hd; rfl⟩, cells_nums hb, trivial⟩ (fun j => by
        match j with
        | 0 => rfl
        | 1 => rfl
        | j + 2 => rfl)
      exact FnOk.run (new := []) gkn_ok (ck_run (atL lk) (atL lt) (atL lb)) (by simp [AllC]) (by simp [upto]) rfl (by simp) (by simp) (fun j hj => by
          match j, hj with
          | 0, _ => rfl
          | 1, _ => rfl)
    · simp at h
  · simp at h
theorem cn_run : runF gp 2000 [] 46 [] [] [] = some (.agg ((List.range 32).map fun i : Nat => .lit .u8 (i : Int)), [], []) := by kernel_rfl
noncomputable def F46 : SumF := fun args B => match args, B with
  | [], [] => some { val := .agg ((List.range 32).map fun i : Nat => .lit .u8 (i : Int)) }
  | _, _ => none
theorem acc46 : Acc gp 46 F46 := by
  intro args B out h hC
  unfold F46 at h
  split at h
  · simp only [Option.some.injEq] at h; subst h
    exact FnOk.pure gp_ok cn_run (by simp [AllC])
  · simp at h
noncomputable abbrev gko : Ctx := gp.add [(18, F18k), (46, F46)]
theorem gko_ok : CtxU gko := gp_ok.add mixed noGo (by
  intro x hx
  simp only [List.mem_cons, List.not_mem_nil, or_false] at hx
  rcases hx with rfl | rfl
  · exact Acc.of (g := gkn) rfl rfl acc18k
  · exact Acc.of rfl rfl acc46)
end Go.Proofs.Ytejcjdhplpjpjaa
