/- Accounts of this seat's functions: lemmas, no statement of their own. No conditions. -/
import Derived.Test.YtjkenobomlbdcaaTV
namespace Go.Proofs.Ytjkenobomlbdcaa
open Go Go.Vx
theorem rw_run (l : List (List Int)) : runF gRj 900 [.loop 4 rvKeep 1 (.exit 0) (mkLoopN (rvG l))] 20 [] [] [10] = some (.own 0, [some (.rows [.i64, .i64] (lgN l end4))], [LoopGood gRj 15 (.loop rvBody) rvKeep 1 (.exit 0) (mkLoopN (rvG l)), ones = ones, l = lgM [] 255, rwL l 1, rwL l 2, rwL l 3, rwL l 4]) :=
  run_parts (by kernel_rfl) (by kernel_rfl) (by kernel_rfl)
noncomputable def F20 : SumF := fun args B => match args, B with
  | [], [] => some { val := .own 0, new := [.rows [.i64, .i64] evC] }
  | _, _ => none
theorem acc20 : Acc gRj 20 F20 := by
  intro args B out h _
  unfold F20 at h
  split at h
  · simp only [Option.some.injEq] at h; subst h
    obtain ⟨l, hl⟩ : ∃ l, l = lgM [] 255 := ⟨_, rfl⟩
    have hr := rw_run l
    have e : lgN l end4 = evC := by rw [hl, lg_all, List.nil_append]
    rw [e] at hr
    have hlen : l.length = 5100 := by rw [hl, lgM_len]; rfl
    have H : ∀ j, rwL l j := fun j => by
      unfold rwL
      rw [lgN_eq, List.length_append, List.length_take, hlen]
      have : end4.length = 4 := rfl
      omega
    refine FnOk.run (out := { val := .own 0, new := [.rows [.i64, .i64] evC] }) (new := [10]) gRj_ok hr ?_ (by simp [upto]) rfl (by simp) (by simp) fun j hj => ?_
    · simp only [allC_cons, allC_nil, and_true]
      exact ⟨rv_loop l, trivial, hl, H _, H _, H _, H _⟩
    · match j, hj with
      | 0, _ => rfl
      | j + 1, hj => exact absurd hj (by simp)
  · simp at h
/-! ### two lists of events that are one -/
abbrev leKeep : List Nat := [0, 1, 5]
noncomputable abbrev leBody : Code := bodyAt Try.prog 18 4
abbrev leS (i : Nat) : List (Nat × SV) := leKeep.zip [.own 0, .own 1, .int .i64 (i : Int)]
noncomputable abbrev leB (l : List (List Int)) : List Body := [.rows [.i64, .i64] l, .rows [.i64, .i64] l]
theorem le_go (i : Nat) (l : List (List Int)) : runC gRj 200 26 [.br true, .br false] leBody (leS i) (leB l) leKeep [0, 1] =
    some (.normal, [.own 0, .own 1, .int .i64 ((i : Int) + 1)], (leB l).map some, [Fits .i64 (l.length : Int), decide ((i : Int) < (l.length : Int)) = true, i < l.length, i < l.length, (0 : Int) ≤ (i : Int) ∧ (i : Int) < (l.length : Int), i < l.length, i < l.length, (0 : Int) ≤ (i : Int) ∧ (i : Int) < (l.length : Int),
      (!decide ([(l.getD i []).getD 0 0, (l.getD i []).getD 1 0] = [(l.getD i []).getD 0 0, (l.getD i []).getD 1 0])) = false, Fits .i64 ((i : Int) + 1)]) :=
  r3_parts4 (by kernel_rfl) (by kernel_rfl) (by kernel_rfl) (by kernel_rfl)
theorem le_end (i : Nat) (l : List (List Int)) : runC gRj 200 26 [.br false] leBody (leS i) (leB l) leKeep [0, 1] =
    some (.exit 0, [.own 0, .own 1, .int .i64 (i : Int)], (leB l).map some, [Fits .i64 (l.length : Int), decide ((i : Int) < (l.length : Int)) = false]) :=
  r3_parts4 (by kernel_rfl) (by kernel_rfl) (by kernel_rfl) (by kernel_rfl)
def leG : LoopF := fun vals B => match vals, B with
  | [.own 0, .own 1, .int .i64 0], [.rows K la, .rows K2 lb] => match sameKs K [.i64, .i64], sameKs K2 [.i64, .i64] with
    | true, true => some ([], [.rows [.i64, .i64] la, .rows [.i64, .i64] lb], [la = lb, la.length ≤ 140737488355328])
    | _, _ => none
  | _, _ => none
theorem le_loop : LoopGood gRj 26 (.loop leBody) leKeep 2 (.exit 0) (mkLoopN leG) := by
  refine LoopGood.mkN (by decide) fun vals B S' B' C hG hC hlen w0 O hgl => ?_
  clear hlen
  unfold leG at hG
  split at hG
  · rename_i K la K2 lb
    split at hG
    · rename_i hK hK2
      obtain rfl := sameKs_eq hK
      obtain rfl := sameKs_eq hK2
      simp only [Option.some.injEq, Prod.mk.injEq] at hG
      obtain ⟨rfl, rfl, rfl⟩ := hG
      simp only [allC_cons, allC_nil, and_true] at hC
      obtain ⟨rfl, h3⟩ := hC
      have j2 : ∀ j : Nat, j < 2 → ([0, 1] : List Nat)[j]? = some j := fun j hj => by
        match j, hj with
        | 0, _ => rfl
        | 1, _ => rfl
      have F1 : Fits .i64 (la.length : Int) := fits_small h3
      refine SimC.iter (g := gRj) (S := fun i => leS i) (B := fun _ => leB la) (N := la.length) (fun i hi => ?_) ?_ (by simp) 0 (by omega)
      · have F4 : Fits .i64 ((i : Int) + 1) := fits_of (by omega) (by omega)
        have q : (!decide ([(la.getD i []).getD 0 0, (la.getD i []).getD 1 0] = [(la.getD i []).getD 0 0, (la.getD i []).getD 1 0])) = false := by simp
        exact SimC.run (B' := leB la) gRj_ok (by decide) (le_go i la) (by (simp only [allC_cons, allC_nil, and_true]; repeat' (with_reducible (first | refine And.intro ?_ ?_ | exact True.intro | assumption | omega | exact decide_eq_true (by first | assumption | omega) | exact decide_eq_false (by first | assumption | omega) | rfl | (simp; done))))) (by decide) j2 (by decide) (by simp) hgl
      · exact SimC.weaken (SimC.run (B' := leB la) gRj_ok (by decide) (le_end la.length la) (by (simp only [allC_cons, allC_nil, and_true]; repeat' (with_reducible (first | refine And.intro ?_ ?_ | exact True.intro | assumption | omega | exact decide_eq_true (by first | assumption | omega) | exact decide_eq_false (by first | assumption | omega) | rfl | (simp; done))))) (by decide) j2 (by decide) (by simp) hgl) (fun t => .inr (by simp [mkT, tget, Tr.get_lf]))
    · simp at hG
  · simp at hG
theorem ev_run (la lb : List (List Int)) : runF gRj 200 [.br false, .loop 4 leKeep 2 (.exit 0) (mkLoopN leG)] 18 [.own 0, .own 1] [.rows [.i64, .i64] la, .rows [.i64, .i64] lb] [] =
    some (.bool true, [some (.rows [.i64, .i64] la), some (.rows [.i64, .i64] lb)], [Fits .i64 (lb.length : Int), Fits .i64 (la.length : Int), (!decide ((la.length : Int) = (lb.length : Int))) = false, LoopGood gRj 26 (.loop leBody) leKeep 2 (.exit 0) (mkLoopN leG), la = lb, la.length ≤ 140737488355328]) :=
  run_parts (by kernel_rfl) (by kernel_rfl) (by kernel_rfl)
def F18 : SumF := fun args B => match args, B with
  | [.own 0, .own 1], [.rows K la, .rows K2 lb] => match sameKs K [.i64, .i64], sameKs K2 [.i64, .i64] with
    | true, true => some { val := .sbool true, C := [la = lb, la.length ≤ 140737488355328] }
    | _, _ => none
  | _, _ => none
theorem acc18 : Acc gRj 18 F18 := by
  intro args B out h hC
  unfold F18 at h
  split at h
  · rename_i K la K2 lb
    split at h
    · rename_i hK hK2
      obtain rfl := sameKs_eq hK
      obtain rfl := sameKs_eq hK2
      simp only [Option.some.injEq] at h; subst h
      simp only [allC_cons, allC_nil, and_true] at hC
      obtain ⟨rfl, hl⟩ := hC
      have F1 : Fits .i64 (la.length : Int) := fits_small hl
      have hL := le_loop
      refine FnOk.toSb (b := true) ?_ rfl
      refine FnOk.run (out := { val := .bool true }) (new := []) gRj_ok (ev_run _ _) (by (simp only [allC_cons, allC_nil, and_true]; repeat' (with_reducible (first | refine And.intro ?_ ?_ | exact True.intro | assumption | omega | exact decide_eq_true (by first | assumption | omega) | exact decide_eq_false (by first | assumption | omega) | rfl | (simp; done))))) (by simp [upto]) rfl (by simp) (by simp) fun j hj => ?_
      match j, hj with
      | 0, _ => rfl
      | 1, _ => rfl
      | j + 2, hj => exact absurd hj (by simp)
    · simp at h
  · simp at h
noncomputable abbrev gRk : Ctx := gRj.add [(20, F20), (18, F18)]
theorem gRk_ok : CtxU gRk := gRj_ok.add mixed noGo (by
  intro x hx
  simp only [List.mem_cons, List.not_mem_nil, or_false] at hx
  rcases hx with rfl | rfl
  · exact acc20
  · exact acc18)
end Go.Proofs.Ytjkenobomlbdcaa
