/- Accounts of this seat's functions: lemmas, no statement of their own. No conditions. -/
import Derived.Test.YtjkenobomlbdcaaTY
namespace Go.Proofs.Ytjkenobomlbdcaa
open Go Go.Vx
/-! ### CurveShares -/
abbrev lfV (off len : Nat) : SV := .sl 0 0 off 2 0 len false
abbrev lfS (off len i : Nat) : List (Nat × SV) := leKeep.zip [lfV off len, .own 1, .int .i64 (i : Int)]
noncomputable abbrev lfB (la lb : List (List Int)) : List Body := [.rows [.i64, .i64] la, .rows [.i64, .i64] lb]
theorem lf_go (off len i : Nat) (la lb : List (List Int)) : runC gRj 200 26 [.br true, .br false] leBody (lfS off len i) (lfB la lb) leKeep [0, 1] =
    some (.normal, [lfV off len, .own 1, .int .i64 ((i : Int) + 1)], (lfB la lb).map some, [Fits .i64 (len : Int), decide ((i : Int) < (len : Int)) = true, i < lb.length, i < lb.length, (0 : Int) ≤ (i : Int) ∧ (i : Int) < (lb.length : Int), off + i < la.length, off + i < la.length, (0 : Int) ≤ (i : Int) ∧ (i : Int) < (len : Int),
      (!decide ([(la.getD (off + i) []).getD 0 0, (la.getD (off + i) []).getD 1 0] = [(lb.getD i []).getD 0 0, (lb.getD i []).getD 1 0])) = false, Fits .i64 ((i : Int) + 1)]) :=
  r3_parts4 (by kernel_rfl) (by kernel_rfl) (by kernel_rfl) (by kernel_rfl)
theorem lf_end (off len i : Nat) (la lb : List (List Int)) : runC gRj 200 26 [.br false] leBody (lfS off len i) (lfB la lb) leKeep [0, 1] =
    some (.exit 0, [lfV off len, .own 1, .int .i64 (i : Int)], (lfB la lb).map some, [Fits .i64 (len : Int), decide ((i : Int) < (len : Int)) = false]) :=
  r3_parts4 (by kernel_rfl) (by kernel_rfl) (by kernel_rfl) (by kernel_rfl)
def lfG : LoopF := fun vals B => match vals, B with
  | [.sl 0 0 off 2 0 len false, .own 1, .int .i64 0], [.rows K la, .rows K2 lb] => match sameKs K [.i64, .i64], sameKs K2 [.i64, .i64] with
    | true, true => some ([], [.rows [.i64, .i64] la, .rows [.i64, .i64] lb], [la.drop off = lb, len = lb.length, lb.length ≤ 140737488355328])
    | _, _ => none
  | _, _ => none
theorem lf_loop : LoopGood gRj 26 (.loop leBody) leKeep 2 (.exit 0) (mkLoopN lfG) := by
  refine LoopGood.mkN (by decide) fun vals B S' B' C hG hC hlen w0 O hgl => ?_
  clear hlen
  unfold lfG at hG
  split at hG
  · rename_i off len K la K2 lb
    split at hG
    · rename_i hK hK2
      obtain rfl := sameKs_eq hK
      obtain rfl := sameKs_eq hK2
      simp only [Option.some.injEq, Prod.mk.injEq] at hG
      obtain ⟨rfl, rfl, rfl⟩ := hG
      simp only [allC_cons, allC_nil, and_true] at hC
      obtain ⟨h1, rfl, h3⟩ := hC
      have j2 : ∀ j : Nat, j < 2 → ([0, 1] : List Nat)[j]? = some j := fun j hj => by
        match j, hj with
        | 0, _ => rfl
        | 1, _ => rfl
      have F1 : Fits .i64 (lb.length : Int) := fits_small h3
      have hd : lb.length = la.length - off := by rw [← h1, List.length_drop]
      have hg : ∀ i, i < lb.length → off + i < la.length ∧ la.getD (off + i) [] = lb.getD i [] := fun i hi => by
        refine ⟨by omega, ?_⟩
        rw [← h1, List.getD_eq_getElem?_getD, List.getD_eq_getElem?_getD, List.getElem?_drop]
      refine SimC.iter (g := gRj) (S := fun i => lfS off lb.length i) (B := fun _ => lfB la lb) (N := lb.length) (fun i hi => ?_) ?_ (by simp) 0 (by omega)
      · have F4 : Fits .i64 ((i : Int) + 1) := fits_of (by omega) (by omega)
        obtain ⟨g1, g2⟩ := hg i hi
        have q : (!decide ([(la.getD (off + i) []).getD 0 0, (la.getD (off + i) []).getD 1 0] = [(lb.getD i []).getD 0 0, (lb.getD i []).getD 1 0])) = false := by rw [g2]; simp
        exact SimC.run (B' := lfB la lb) gRj_ok (by decide) (lf_go off lb.length i la lb) (by (simp only [allC_cons, allC_nil, and_true]; repeat' (with_reducible (first | refine And.intro ?_ ?_ | exact True.intro | assumption | omega | exact decide_eq_true (by first | assumption | omega) | exact decide_eq_false (by first | assumption | omega) | rfl | (simp; done))))) (by decide) j2 (by decide) (by simp) hgl
      · exact SimC.weaken (SimC.run (B' := lfB la lb) gRj_ok (by decide) (lf_end off lb.length lb.length la lb) (by (simp only [allC_cons, allC_nil, and_true]; repeat' (with_reducible (first | refine And.intro ?_ ?_ | exact True.intro | assumption | omega | exact decide_eq_true (by first | assumption | omega) | exact decide_eq_false (by first | assumption | omega) | rfl | (simp; done))))) (by decide) j2 (by decide) (by simp) hgl) (fun t => .inr (by simp [mkT, tget, Tr.get_lf]))
    · simp at hG
  · simp at hG
theorem ef_run (off len : Nat) (la lb : List (List Int)) : runF gRj 200 [.br false, .loop 4 leKeep 2 (.exit 0) (mkLoopN lfG)] 18 [lfV off len, .own 1] [.rows [.i64, .i64] la, .rows [.i64, .i64] lb] [] =
    some (.bool true, [some (.rows [.i64, .i64] la), some (.rows [.i64, .i64] lb)], [Fits .i64 (lb.length : Int), Fits .i64 (len : Int), (!decide ((len : Int) = (lb.length : Int))) = false, LoopGood gRj 26 (.loop leBody) leKeep 2 (.exit 0) (mkLoopN lfG), la.drop off = lb, len = lb.length, lb.length ≤ 140737488355328]) :=
  run_parts (by kernel_rfl) (by kernel_rfl) (by kernel_rfl)
def F18s : SumF := fun args B => match args, B with
  | [.sl 0 0 off 2 0 len false, .own 1], [.rows K la, .rows K2 lb] => match sameKs K [.i64, .i64], sameKs K2 [.i64, .i64] with
    | true, true => some { val := .sbool true, C := [la.drop off = lb, len = lb.length, lb.length ≤ 140737488355328] }
    | _, _ => none
  | _, _ => none
theorem acc18s : Acc gRj 18 F18s := by
  intro args B out h hC
  unfold F18s at h
  split at h
  · rename_i off len K la K2 lb
    split at h
    · rename_i hK hK2
      obtain rfl := sameKs_eq hK
      obtain rfl := sameKs_eq hK2
      simp only [Option.some.injEq] at h; subst h
      simp only [allC_cons, allC_nil, and_true] at hC
      obtain ⟨h1, h2, hl⟩ := hC
      have F1 : Fits .i64 (lb.length : Int) := fits_small hl
      have hL := lf_loop
      refine FnOk.toSb (b := true) ?_ rfl
      refine FnOk.run (out := { val := .bool true }) (new := []) gRj_ok (ef_run off len la lb) (by subst h2; (simp only [allC_cons, allC_nil, and_true]; repeat' (with_reducible (first | refine And.intro ?_ ?_ | exact True.intro | assumption | omega | exact decide_eq_true (by first | assumption | omega) | exact decide_eq_false (by first | assumption | omega) | rfl | (simp; done))))) (by simp [upto]) rfl (by simp) (by simp) fun j hj => ?_
      match j, hj with
      | 0, _ => rfl
      | 1, _ => rfl
      | j + 2, hj => exact absurd hj (by simp)
    · simp at h
  · simp at h
noncomputable abbrev gRm : Ctx := gRl.add [(18, F18s)]
theorem gRm_ok : CtxU gRm := gRl_ok.add mixed noGo (by
  intro x hx
  simp only [List.mem_cons, List.not_mem_nil, or_false] at hx
  rcases hx with rfl
  exact acc18s)
noncomputable abbrev evS : List (List Int) := [] ++ [[2, 7]] ++ evC
noncomputable abbrev ssC (k u : Nat → Int) : List Prop := [([] : List (List Int)).length < 1099511627776, ([] ++ [[2, 7]] : List (List Int)).length < 1000000000, evS.length * 16 ≤ 2 ^ 47, (0 : Int).toNat < evS.length, (0 : Int).toNat < evS.length, (0 : Int) ≤ 0 ∧ (0 : Int) < (evS.length : Int),
  (!decide ((evS.length : Int) = 5105)) = false, Fits .i64 (evS.length : Int), (!decide ([(evS.getD (0 : Int).toNat []).getD 0 0, (evS.getD (0 : Int).toNat []).getD 1 0] = [2, 7])) = false, true = true, evS.drop (1 : Int).toNat = evC, (evS.length : Int).toNat - (1 : Int).toNat = evC.length, evC.length ≤ 140737488355328,
  (0 : Int) ≤ 1 ∧ (1 : Int) ≤ (evS.length : Int) ∧ (evS.length : Int) ≤ (evS.length : Int), decide (shQ (listF 32 k 0) (listF 32 u 0) = shQ (listF 32 k 0) (listF 32 u 0)) = true]
theorem ss_run (k u : Nat → Int) : runF gRm 900 [.br false, .br false, .br true, .br true, .br true] 9 [.agg (b32 k), .agg (b32 u)] [] [] = some (.sbool true, [], ssC k u) :=
  run_parts (by kernel_rfl) (by kernel_rfl) (by kernel_rfl)
theorem shares_ok (k u : Nat → Int) : FnOk gRm 9 [.agg (b32 k), .agg (b32 u)] [] { val := .sbool true } := by
  refine FnOk.pure gRm_ok (ss_run k u) ?_
  have e : evS.length = 5105 := by
    show (([] ++ [[2, 7]] : List (List Int)) ++ evC).length = 5105
    rw [List.length_append, evC_len]; rfl
  have e0 := evC_len
  have d : evS.drop (1 : Int).toNat = evC := rfl
  have g : [(evS.getD (0 : Int).toNat []).getD 0 0, (evS.getD (0 : Int).toNat []).getD 1 0] = [(2 : Int), 7] := rfl
  have F : Fits .i64 (evS.length : Int) := by rw [e]; exact fits_of (by omega) (by omega)
  have q : (!decide ([(evS.getD (0 : Int).toNat []).getD 0 0, (evS.getD (0 : Int).toNat []).getD 1 0] = [(2 : Int), 7])) = false := by rw [g]; rfl
  have q2 : (!decide ((evS.length : Int) = 5105)) = false := by rw [e]; rfl
  have c3 : evS.length * 16 ≤ 2 ^ 47 := by rw [e]; decide
  have c4 : (0 : Int).toNat < evS.length := by rw [e]; decide
  have c6 : (0 : Int) ≤ 0 ∧ (0 : Int) < (evS.length : Int) := by rw [e]; decide
  have c12 : (evS.length : Int).toNat - (1 : Int).toNat = evC.length := by rw [e, e0]; rfl
  have c13 : evC.length ≤ 140737488355328 := by rw [e0]; decide
  have c14 : (0 : Int) ≤ 1 ∧ (1 : Int) ≤ (evS.length : Int) ∧ (evS.length : Int) ≤ (evS.length : Int) := by rw [e]; decide
  have c1 : ([] : List (List Int)).length < 1099511627776 := by decide
  have c2 : ([] ++ [[2, 7]] : List (List Int)).length < 1000000000 := by decide
  exact allC_cons.2 ⟨c1, allC_cons.2 ⟨c2, allC_cons.2 ⟨c3, allC_cons.2 ⟨c4, allC_cons.2 ⟨c4, allC_cons.2 ⟨c6, allC_cons.2 ⟨q2, allC_cons.2 ⟨F, allC_cons.2 ⟨q, allC_cons.2 ⟨rfl, allC_cons.2 ⟨d, allC_cons.2 ⟨c12, allC_cons.2 ⟨c13, allC_cons.2 ⟨c14, allC_cons.2 ⟨decide_eq_true rfl, allC_nil.2 trivial⟩⟩⟩⟩⟩⟩⟩⟩⟩⟩⟩⟩⟩⟩⟩
end Go.Proofs.Ytjkenobomlbdcaa
