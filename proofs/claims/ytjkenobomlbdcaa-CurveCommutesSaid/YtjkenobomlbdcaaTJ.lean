/- Accounts of this seat's functions: lemmas, no statement of their own. No conditions. -/
import Derived.Test.YtjkenobomlbdcaaTI
namespace Go.Proofs.Ytjkenobomlbdcaa
open Go Go.Vx
/-! ### Shared -/
abbrev kl (m : Int) : List Int := m :: List.replicate 31 0
/-- the ladder as it begins -/
abbrev shY (u : Nat → Int) : Nat → Int := atL (L5 (fdecN (listF 32 u 0)) ++ L5 (fdecN (kl 1)) ++ [0, 0, 0, 0, 0] ++ L5 (fdecN (listF 32 u 0)) ++ L5 (fdecN (kl 1)))
abbrev shK (k : Nat → Int) : Nat → Int := clN (listF 32 k 0)
def shEnd (k u : Nat → Int) : Ld :=
  let r := shN (atL (listF 32 (shK k) 0)) (yX (shY u)) 0 (yL (shY u)) 255
  ldSw r.1 r.2
def shF (k u : Nat → Int) : Nat → Int := fencN (L5 (fmulN (L5 (shEnd k u).a) (L5 (finvN (L5 (shEnd k u).b)))))
theorem sh_run (k u : Nat → Int) : runF gK 2000 [.loop 7 shKeep 3 (.exit 0) (mkLoopN shG)] 13 [.raw (.pointer none), .agg (b32 k), .agg (b32 u)] [] [] =
    some (.agg (b32 (shF k u)), [], [LoopGood gK 68 (.loop shBody) shKeep 3 (.exit 0) (mkLoopN shG)]) :=
  run_parts (by kernel_rfl) (by kernel_rfl) (by kernel_rfl)
abbrev end4 : List (List Int) := [[3, 7], [3, 7], [3, 6], [3, 3]]
theorem sl_run (k u : Nat → Int) (w : List (List Int)) : runF gK 2000 [.loop 7 shKeep 4 (.exit 0) (mkLoopN slG)] 13 [.ptr 0 0, .agg (b32 k), .agg (b32 u)] [.log w] [] =
    some (.agg (b32 (shF k u)), [some (.log (lgN (lgM w 255) end4))], [LoopGood gK 68 (.loop shBody) shKeep 4 (.exit 0) (mkLoopN slG), w.length < 1000000000, (lgM w 255).length < 1099511627776, (lgN (lgM w 255) (end4.take 1)).length < 1099511627776, (lgN (lgM w 255) (end4.take 3)).length < 1099511627776, (lgN (lgM w 255) (end4.take 2)).length < 1099511627776]) :=
  run_parts (by kernel_rfl) (by kernel_rfl) (by kernel_rfl)
/-- all that is logged of one call -/
theorem evC_ex : ∃ l : List (List Int), l = lgM [] 255 ++ end4 := ⟨_, rfl⟩
noncomputable def evC : List (List Int) := Classical.choose evC_ex
theorem evC_def : evC = lgM [] 255 ++ end4 := Classical.choose_spec evC_ex
theorem lgM_app (w : List (List Int)) : ∀ i, lgM w i = w ++ lgM [] i
  | 0 => by simp [lgM]
  | i + 1 => by rw [lgM, lgN_eq, lgM_app w i, lgM, lgN_eq, List.append_assoc]
theorem lg_all (w : List (List Int)) : lgN (lgM w 255) end4 = w ++ evC := by rw [lgN_eq, lgM_app w 255, List.append_assoc, evC_def]
noncomputable def sharedF : SumF := fun args B => match args, B with
  | [.raw (.pointer none), .agg ks, .agg us], [] => match numsAs (List.replicate 32 .u8) ks, numsAs (List.replicate 32 .u8) us with
    | some lk, some lu => some { val := .agg (b32 (shF (atL lk) (atL lu))) }
    | _, _ => none
  | [.ptr 0 0, .agg ks, .agg us], [.log w] => match numsAs (List.replicate 32 .u8) ks, numsAs (List.replicate 32 .u8) us with
    | some lk, some lu => some { val := .agg (b32 (shF (atL lk) (atL lu))), upd := [(0, some (.log (w ++ evC)))], C := [w.length < 1000000000] }
    | _, _ => none
  | _, _ => none
theorem acc_shared : Acc gK 13 sharedF := by
  intro args B out h hC
  unfold sharedF at h
  split at h
  · split at h
    · rename_i lk lu hk hu
      simp only [Option.some.injEq] at h; subst h
      have hL := sh_loop
      exact FnOk.imp (FnOk.pure gK_ok (sh_run (atL lk) (atL lu)) (by simp only [allC_cons, allC_nil, and_true]; exact hL)) ⟨DenImp.refl _, nums_imp hk, nums_imp hu, trivial⟩
    · simp at h
  · rename_i ks us w
    split at h
    · rename_i lk lu hk hu
      simp only [Option.some.injEq] at h; subst h
      simp only [allC_cons, allC_nil, and_true] at hC
      have hL := sl_loop
      have hl := lgM_len w 255
      have H : ∀ l : List (List Int), l.length ≤ 4 → (lgN (lgM w 255) l).length < 1099511627776 := fun l h4 => by rw [lgN_eq, List.length_append, hl]; omega
      have hr := sl_run (atL lk) (atL lu) w
      rw [lg_all] at hr
      exact FnOk.imp (FnOk.run (out := { val := .agg (b32 (shF (atL lk) (atL lu))), upd := [(0, some (.log (w ++ evC)))], C := [w.length < 1000000000] }) (new := []) gK_ok hr (by
        simp only [allC_cons, allC_nil, and_true]
        exact ⟨hL, hC, by omega, H _ (by decide), H _ (by decide), H _ (by decide)⟩) (by simp [upto]) rfl (by simp) (by simp) (fun j hj => by
        match j, hj with
        | 0, _ => rfl)) ⟨DenImp.refl _, nums_imp hk, nums_imp hu, trivial⟩
    · simp at h
  · simp at h
end Go.Proofs.Ytjkenobomlbdcaa
