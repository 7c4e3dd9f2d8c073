/- Accounts of this seat's functions: lemmas, no statement of their own. No conditions. -/
import Derived.Test.YtibfkpgdpldjbaaV4
import Derived.Test.YtibfkpgdpldjbaaTK
namespace Go.Proofs.Ytibfkpgdpldjbaa
open Go Go.Vx
/-! ### same -/
abbrev smKeep : List Nat := [0, 1, 5]
noncomputable abbrev smBody : Code := bodyAt Try.prog 11 4
abbrev smS1 (oa ob n i : Nat) : List (Nat × SV) := smKeep.zip [.sl 0 0 oa 1 0 n false, .sl 1 0 ob 1 0 n false, .int .i64 (i : Int)]
theorem sm1_go (oa ob n i : Nat) (la lb : List Int) : runC g3 200 26 [.br true, .br false] smBody (smS1 oa ob n i) [.ints .u8 la, .ints .u8 lb] smKeep [0, 1] =
    some (.normal, [.sl 0 0 oa 1 0 n false, .sl 1 0 ob 1 0 n false, .int .i64 ((i : Int) + 1)], [some (.ints .u8 la), some (.ints .u8 lb)], [Fits .i64 (n : Int), decide ((i : Int) < (n : Int)) = true, ob + i + 0 < lb.length, (0 : Int) ≤ (i : Int) ∧ (i : Int) < (n : Int), oa + i + 0 < la.length, (0 : Int) ≤ (i : Int) ∧ (i : Int) < (n : Int),
      (!decide (la.getD (oa + i) 0 = lb.getD (ob + i) 0)) = false, Fits .i64 ((i : Int) + 1)]) := by kernel_rfl
theorem sm1_end (oa ob n i : Nat) (la lb : List Int) : runC g3 200 26 [.br false] smBody (smS1 oa ob n i) [.ints .u8 la, .ints .u8 lb] smKeep [0, 1] =
    some (.exit 0, [.sl 0 0 oa 1 0 n false, .sl 1 0 ob 1 0 n false, .int .i64 (i : Int)], [some (.ints .u8 la), some (.ints .u8 lb)], [Fits .i64 (n : Int), decide ((i : Int) < (n : Int)) = false]) := by kernel_rfl
def sm1G : LoopF := fun vals B => match vals, B with
  | [.sl 0 0 oa 1 0 na false, .sl 1 0 ob 1 0 nb false, .int .i64 0], [.ints K la, .ints K2 lb] => match sameK K .u8, sameK K2 .u8 with
    | true, true => some ([], [.ints .u8 la, .ints .u8 lb], [na = nb, oa + na ≤ la.length, ob + nb ≤ lb.length, na ≤ 140737488355328, subI la oa na = subI lb ob nb])
    | _, _ => none
  | _, _ => none
theorem b2 : ∀ j : Nat, j < 2 → ([0, 1] : List Nat)[j]? = some j := fun j hj => by
  match j, hj with
  | 0, _ => rfl
  | 1, _ => rfl
theorem b1 : ∀ j : Nat, j < 1 → ([0] : List Nat)[j]? = some j := fun j hj => by
  match j, hj with
  | 0, _ => rfl
theorem sm1_loop : LoopGood g3 26 (.loop smBody) smKeep 2 (.exit 0) (mkLoopN sm1G) := by
  refine LoopGood.mkN (by decide) fun vals B S' B' C hG hC hlen w0 O hgl => ?_
  clear hlen
  unfold sm1G at hG
  split at hG
  · rename_i oa na ob nb K la K2 lb
    split at hG
    · rename_i hK hK2
      obtain rfl := kidx_inj hK
      obtain rfl := kidx_inj hK2
      simp only [Option.some.injEq, Prod.mk.injEq] at hG
      obtain ⟨rfl, rfl, rfl⟩ := hG
      simp only [allC_cons, allC_nil, and_true] at hC
      obtain ⟨rfl, h1, h2, h3, h4⟩ := hC
      have F1 : Fits .i64 (na : Int) := fits_small h3
      refine SimC.iter (g := g3) (S := smS1 oa ob na) (B := fun _ => [.ints .u8 la, .ints .u8 lb]) (N := na) (fun i hi => ?_) ?_ (by simp) 0 (by omega)
      · have e : la.getD (oa + i) 0 = lb.getD (ob + i) 0 := by rw [← subI_get hi, h4, subI_get hi]
        have c : (!decide (la.getD (oa + i) 0 = lb.getD (ob + i) 0)) = false := by rw [decide_eq_true e]; rfl
        have F2 : Fits .i64 ((i : Int) + 1) := fits_of (by omega) (by omega)
        exact SimC.run (B' := [.ints .u8 la, .ints .u8 lb]) g3_ok (by decide) (sm1_go oa ob na i la lb) (by (simp only [allC_cons, allC_nil, and_true]; repeat' (with_reducible (first | refine And.intro ?_ ?_ | exact True.intro | assumption | omega | exact decide_eq_true (by first | assumption | omega) | exact decide_eq_false (by first | assumption | omega) | rfl | (simp; done))))) (by decide) b2 (by decide) (by simp) hgl
      · exact SimC.weaken (SimC.run (B' := [.ints .u8 la, .ints .u8 lb]) g3_ok (by decide) (sm1_end oa ob na na la lb) (by (simp only [allC_cons, allC_nil, and_true]; repeat' (with_reducible (first | refine And.intro ?_ ?_ | exact True.intro | assumption | omega | exact decide_eq_true (by first | assumption | omega) | exact decide_eq_false (by first | assumption | omega) | rfl | (simp; done))))) (by decide) b2 (by decide) (by simp) hgl) (fun t => .inr (by simp [mkT, tget, Tr.get_lf]))
    · simp at hG
  · simp at hG
theorem sm1_run (oa ob na nb : Nat) (la lb : List Int) : runF g3 200 [.br false, .loop 4 smKeep 2 (.exit 0) (mkLoopN sm1G)] 11 [.sl 0 0 oa 1 0 na false, .sl 1 0 ob 1 0 nb false] [.ints .u8 la, .ints .u8 lb] [] =
    some (.bool true, [some (.ints .u8 la), some (.ints .u8 lb)], [Fits .i64 (nb : Int), Fits .i64 (na : Int), (!decide ((na : Int) = (nb : Int))) = false, LoopGood g3 26 (.loop smBody) smKeep 2 (.exit 0) (mkLoopN sm1G), na = nb, oa + na ≤ la.length, ob + nb ≤ lb.length, na ≤ 140737488355328, subI la oa na = subI lb ob nb]) := by kernel_rfl
abbrev smS2 (oa n : Nat) (lb : List Int) (i : Nat) : List (Nat × SV) := smKeep.zip [.sl 0 0 oa 1 0 n false, .roi .u8 lb, .int .i64 (i : Int)]
theorem sm2_go (oa n i : Nat) (la lb : List Int) : runC g3 200 26 [.br true, .br false] smBody (smS2 oa n lb i) [.ints .u8 la] smKeep [0] =
    some (.normal, [.sl 0 0 oa 1 0 n false, .roi .u8 lb, .int .i64 ((i : Int) + 1)], [some (.ints .u8 la)], [Fits .i64 (n : Int), decide ((i : Int) < (n : Int)) = true, (0 : Int) ≤ (i : Int) ∧ (i : Int) < (lb.length : Int), oa + i + 0 < la.length, (0 : Int) ≤ (i : Int) ∧ (i : Int) < (n : Int),
      (!decide (la.getD (oa + i) 0 = lb.getD i 0)) = false, Fits .i64 ((i : Int) + 1)]) := by kernel_rfl
theorem sm2_end (oa n i : Nat) (la lb : List Int) : runC g3 200 26 [.br false] smBody (smS2 oa n lb i) [.ints .u8 la] smKeep [0] =
    some (.exit 0, [.sl 0 0 oa 1 0 n false, .roi .u8 lb, .int .i64 (i : Int)], [some (.ints .u8 la)], [Fits .i64 (n : Int), decide ((i : Int) < (n : Int)) = false]) := by kernel_rfl
def sm2G : LoopF := fun vals B => match vals, B with
  | [.sl 0 0 oa 1 0 na false, .roi K2 lb, .int .i64 0], [.ints K la] => match sameK K .u8, sameK K2 .u8 with
    | true, true => some ([], [.ints .u8 la], [na = lb.length, oa + na ≤ la.length, na ≤ 140737488355328, subI la oa na = lb])
    | _, _ => none
  | _, _ => none
theorem sm2_loop : LoopGood g3 26 (.loop smBody) smKeep 1 (.exit 0) (mkLoopN sm2G) := by
  refine LoopGood.mkN (by decide) fun vals B S' B' C hG hC hlen w0 O hgl => ?_
  clear hlen
  unfold sm2G at hG
  split at hG
  · rename_i oa na K2 lb K la
    split at hG
    · rename_i hK hK2
      obtain rfl := kidx_inj hK
      obtain rfl := kidx_inj hK2
      simp only [Option.some.injEq, Prod.mk.injEq] at hG
      obtain ⟨rfl, rfl, rfl⟩ := hG
      simp only [allC_cons, allC_nil, and_true] at hC
      obtain ⟨h0, h1, h3, h4⟩ := hC
      have F1 : Fits .i64 (na : Int) := fits_small h3
      refine SimC.iter (g := g3) (S := smS2 oa na lb) (B := fun _ => [.ints .u8 la]) (N := na) (fun i hi => ?_) ?_ (by simp) 0 (by omega)
      · have e : la.getD (oa + i) 0 = lb.getD i 0 := by rw [← subI_get hi, h4]
        have c : (!decide (la.getD (oa + i) 0 = lb.getD i 0)) = false := by rw [decide_eq_true e]; rfl
        have F2 : Fits .i64 ((i : Int) + 1) := fits_of (by omega) (by omega)
        exact SimC.run (B' := [.ints .u8 la]) g3_ok (by decide) (sm2_go oa na i la lb) (by (simp only [allC_cons, allC_nil, and_true]; repeat' (with_reducible (first | refine And.intro ?_ ?_ | exact True.intro | assumption | omega | exact decide_eq_true (by first | assumption | omega) | exact decide_eq_false (by first | assumption | omega) | rfl | (simp; done))))) (by decide) b1 (by decide) (by simp) hgl
      · exact SimC.weaken (SimC.run (B' := [.ints .u8 la]) g3_ok (by decide) (sm2_end oa na na la lb) (by (simp only [allC_cons, allC_nil, and_true]; repeat' (with_reducible (first | refine And.intro ?_ ?_ | exact True.intro | assumption | omega | exact decide_eq_true (by first | assumption | omega) | exact decide_eq_false (by first | assumption | omega) | rfl | (simp; done))))) (by decide) b1 (by decide) (by simp) hgl) (fun t => .inr (by simp [mkT, tget, Tr.get_lf]))
    · simp at hG
  · simp at hG
theorem sm2_run (oa na : Nat) (la lb : List Int) : runF g3 200 [.br false, .loop 4 smKeep 1 (.exit 0) (mkLoopN sm2G)] 11 [.sl 0 0 oa 1 0 na false, .roi .u8 lb] [.ints .u8 la] [] =
    some (.bool true, [some (.ints .u8 la)], [Fits .i64 (lb.length : Int), Fits .i64 (na : Int), (!decide ((na : Int) = (lb.length : Int))) = false, LoopGood g3 26 (.loop smBody) smKeep 1 (.exit 0) (mkLoopN sm2G), na = lb.length, oa + na ≤ la.length, na ≤ 140737488355328, subI la oa na = lb]) := by kernel_rfl
/-- two rows of bytes that are one -/
def F11 : SumF := fun args B => match args, B with
  | [x, .roi K2 lb], [.ints K la] => match sameK K .u8, sameK K2 .u8, vwI 0 la x with
    | true, true, some (oa, na) => some { val := .sbool true, C := [oa + na ≤ la.length, na ≤ 140737488355328, subI la oa na = lb] }
    | _, _, _ => none
  | [x, y], [.ints K la, .ints K2 lb] => match sameK K .u8, sameK K2 .u8, vwI 0 la x, vwI 1 lb y with
    | true, true, some (oa, na), some (ob, nb) => some { val := .sbool true, C := [oa + na ≤ la.length, ob + nb ≤ lb.length, na ≤ 140737488355328, subI la oa na = subI lb ob nb] }
    | _, _, _, _ => none
  | _, _ => none
theorem acc11 : Acc g3 11 F11 := by
  intro args B out h hC
  unfold F11 at h
  split at h
  · rename_i x K2 lb K la
    split at h
    · rename_i oa na hK hK2 hx
      obtain rfl := kidx_inj hK
      obtain rfl := kidx_inj hK2
      simp only [Option.some.injEq] at h; subst h
      simp only [allC_cons, allC_nil, and_true] at hC
      obtain ⟨h1, h3, h4⟩ := hC
      have hn : na = lb.length := by rw [← h4, subI_length h1]
      have F1 : Fits .i64 (na : Int) := fits_small h3
      have F2 : Fits .i64 (lb.length : Int) := fits_small (by omega)
      have hl := sm2_loop
      have c : (!decide ((na : Int) = (lb.length : Int))) = false := by rw [decide_eq_true (by omega)]; rfl
      refine FnOk.argsH (args' := [.sl 0 0 oa 1 0 na false, .roi .u8 lb]) (FnOk.toSb (b := true) (FnOk.run (out := { val := .bool true }) (new := []) g3_ok (sm2_run oa na la lb) (by (simp only [allC_cons, allC_nil, and_true]; repeat' (with_reducible (first | refine And.intro ?_ ?_ | exact True.intro | assumption | omega | exact decide_eq_true (by first | assumption | omega) | exact decide_eq_false (by first | assumption | omega) | rfl | (simp; done))))) (by simp [upto]) rfl (by simp) (by simp) (fun j hj => by match j, hj with | 0, _ => rfl)) rfl) fun w0 O ρ Φ w vs x d => ?_
      simp only [DenT] at d ⊢
      obtain ⟨v1, r1, rfl, d1, v2, r2, rfl, d2, rfl⟩ := d
      exact ⟨_, _, rfl, vwI_den hx x rfl d1, _, _, rfl, d2, rfl⟩
    · simp at h
  · rename_i x y K la K2 lb
    split at h
    · rename_i oa na ob nb hK hK2 hx hy
      obtain rfl := kidx_inj hK
      obtain rfl := kidx_inj hK2
      simp only [Option.some.injEq] at h; subst h
      simp only [allC_cons, allC_nil, and_true] at hC
      obtain ⟨h1, h2, h3, h4⟩ := hC
      have hn : na = nb := by have := congrArg List.length h4; rwa [subI_length h1, subI_length h2] at this
      have F1 : Fits .i64 (na : Int) := fits_small h3
      have F2 : Fits .i64 (nb : Int) := fits_small (by omega)
      have hl := sm1_loop
      have c : (!decide ((na : Int) = (nb : Int))) = false := by rw [decide_eq_true (by omega)]; rfl
      refine FnOk.argsH (args' := [.sl 0 0 oa 1 0 na false, .sl 1 0 ob 1 0 nb false]) (FnOk.toSb (b := true) (FnOk.run (out := { val := .bool true }) (new := []) g3_ok (sm1_run oa ob na nb la lb) (by (simp only [allC_cons, allC_nil, and_true]; repeat' (with_reducible (first | refine And.intro ?_ ?_ | exact True.intro | assumption | omega | exact decide_eq_true (by first | assumption | omega) | exact decide_eq_false (by first | assumption | omega) | rfl | (simp; done))))) (by simp [upto]) rfl (by simp) (by simp) (fun j hj => by match j, hj with | 0, _ => rfl | 1, _ => rfl)) rfl) fun w0 O ρ Φ w vs x d => ?_
      simp only [DenT] at d ⊢
      obtain ⟨v1, r1, rfl, d1, v2, r2, rfl, d2, rfl⟩ := d
      exact ⟨_, _, rfl, vwI_den hx x rfl d1, _, _, rfl, vwI_den hy x rfl d2, rfl⟩
    · simp at h
  · simp at h
/-! ### roomy -/
def rmF (la : List Int) (i : Nat) : Int := if i < la.length then la.getD i 0 else markN i
abbrev rmKeep : List Nat := [0, 3, 4]
noncomputable abbrev rmBody : Code := bodyAt Try.prog 9 3
abbrev rmS (la : List Int) (m n i : Nat) : List (Nat × SV) := rmKeep.zip [.roi .u8 la, .sl 0 m 0 1 0 n false, .int .i64 (i : Int)]
theorem rm_go1 (m n i : Nat) (la lb : List Int) : runC g3 200 34 [.br true, .br true] rmBody (rmS la m n i) [.ints .u8 lb] rmKeep [0] =
    some (.normal, [.roi .u8 la, .sl 0 m 0 1 0 n false, .int .i64 ((i : Int) + 1)], [some (.ints .u8 ((lb.set (0 + i + 0) (markN i)).set (0 + i + 0) (la.getD i 0)))], [Fits .i64 (n : Int), decide ((i : Int) < (n : Int)) = true, 0 + i + 0 < lb.length, (0 : Int) ≤ (i : Int) ∧ (i : Int) < (n : Int), Fits .i64 (161 + (i : Int).tmod 7), Fits .i64 (la.length : Int), decide ((i : Int) < (la.length : Int)) = true,
      0 + i + 0 < (lb.set (0 + i + 0) (markN i)).length, (0 : Int) ≤ (i : Int) ∧ (i : Int) < (n : Int), (0 : Int) ≤ (i : Int) ∧ (i : Int) < (la.length : Int), Fits .i64 ((i : Int) + 1)]) := by kernel_rfl
theorem rm_go0 (m n i : Nat) (la lb : List Int) : runC g3 200 34 [.br true, .br false] rmBody (rmS la m n i) [.ints .u8 lb] rmKeep [0] =
    some (.normal, [.roi .u8 la, .sl 0 m 0 1 0 n false, .int .i64 ((i : Int) + 1)], [some (.ints .u8 (lb.set (0 + i + 0) (markN i)))], [Fits .i64 (n : Int), decide ((i : Int) < (n : Int)) = true, 0 + i + 0 < lb.length, (0 : Int) ≤ (i : Int) ∧ (i : Int) < (n : Int), Fits .i64 (161 + (i : Int).tmod 7), Fits .i64 (la.length : Int), decide ((i : Int) < (la.length : Int)) = false, Fits .i64 ((i : Int) + 1)]) := by kernel_rfl
theorem rm_end (m n i : Nat) (la lb : List Int) : runC g3 200 34 [.br false] rmBody (rmS la m n i) [.ints .u8 lb] rmKeep [0] =
    some (.exit 0, [.roi .u8 la, .sl 0 m 0 1 0 n false, .int .i64 (i : Int)], [some (.ints .u8 lb)], [Fits .i64 (n : Int), decide ((i : Int) < (n : Int)) = false]) := by kernel_rfl
def rmG : LoopF := fun vals B => match vals, B with
  | [.roi K2 la, .sl 0 m 0 1 0 n false, .int .i64 0], [.ints K lb] => match sameK K .u8, sameK K2 .u8 with
    | true, true => some ([(3, .sl 0 m 0 1 0 n false)], [.ints .u8 (roomL la)], [n = la.length + 70, n ≤ 140737488355328, lb = List.replicate n 0])
    | _, _ => none
  | _, _ => none
theorem tmod_fits (i : Nat) : Fits .i64 (161 + (i : Int).tmod 7) := by
  rw [Int.tmod_eq_emod_of_nonneg (by omega)]
  exact fits_of (by omega) (by omega)
theorem rm_loop : LoopGood g3 34 (.loop rmBody) rmKeep 1 (.exit 0) (mkLoopN rmG) := by
  refine LoopGood.mkN (by decide) fun vals B S' B' C hG hC hlen w0 O hgl => ?_
  clear hlen
  unfold rmG at hG
  split at hG
  · rename_i K2 la m n K lb
    split at hG
    · rename_i hK hK2
      obtain rfl := kidx_inj hK
      obtain rfl := kidx_inj hK2
      simp only [Option.some.injEq, Prod.mk.injEq] at hG
      obtain ⟨rfl, rfl, rfl⟩ := hG
      simp only [allC_cons, allC_nil, and_true] at hC
      obtain ⟨h1, h2, rfl⟩ := hC
      have F1 : Fits .i64 (n : Int) := fits_small h2
      have F3 : Fits .i64 (la.length : Int) := fits_small (by omega)
      have key := SimC.iter (g := g3) (nT := 34) (c := rmBody) (m := 1) (w0 := w0) (O := O) (e := .exit 0) (S := rmS la m n) (B := fun i => [.ints .u8 (partF (rmF la) n i)]) (N := n) (S' := [(3, .sl 0 m 0 1 0 n false)]) (B' := [.ints .u8 (roomL la)]) (fun i hi => ?_) ?_ (by simp) 0 (by omega)
      · rw [partF_zero] at key; exact key
      · have F2 : Fits .i64 ((i : Int) + 1) := fits_of (by omega) (by omega)
        have F4 := tmod_fits i
        have hl := partF_len (rmF la) n i
        by_cases hc : i < la.length
        · have hr := rm_go1 m n i la (partF (rmF la) n i)
          have e : rmF la i = la.getD i 0 := if_pos hc
          simp only [Nat.zero_add, Nat.add_zero, set_set] at hr
          rw [← e, partF_set _ hi] at hr
          have q : i < ((partF (rmF la) n i).set i (markN i)).length := by rw [List.length_set, hl]; exact hi
          exact SimC.run (B' := [.ints .u8 (partF (rmF la) n (i + 1))]) g3_ok (by decide) hr (by rw [hl]; (simp only [allC_cons, allC_nil, and_true]; repeat' (with_reducible (first | refine And.intro ?_ ?_ | exact True.intro | assumption | omega | exact decide_eq_true (by first | assumption | omega) | exact decide_eq_false (by first | assumption | omega) | rfl | (simp; done))))) (by decide) b1 (by decide) (by simp) hgl
        · have hr := rm_go0 m n i la (partF (rmF la) n i)
          have e : rmF la i = markN i := if_neg hc
          simp only [Nat.zero_add, Nat.add_zero] at hr
          rw [← e, partF_set _ hi] at hr
          exact SimC.run (B' := [.ints .u8 (partF (rmF la) n (i + 1))]) g3_ok (by decide) hr (by rw [hl]; (simp only [allC_cons, allC_nil, and_true]; repeat' (with_reducible (first | refine And.intro ?_ ?_ | exact True.intro | assumption | omega | exact decide_eq_true (by first | assumption | omega) | exact decide_eq_false (by first | assumption | omega) | rfl | (simp; done))))) (by decide) b1 (by decide) (by simp) hgl
      · have e : partF (rmF la) n n = roomL la := by
          have := partF_all (rmF la) (roomL la) fun p hp => by
            rw [roomL_len] at hp
            rw [roomL_get la hp]; rfl
          rw [roomL_len, ← h1] at this
          exact this
        have hr := rm_end m n n la (partF (rmF la) n n)
        rw [e] at hr ⊢
        exact SimC.weaken (SimC.run (B' := [.ints .u8 (roomL la)]) g3_ok (by decide) hr (by (simp only [allC_cons, allC_nil, and_true]; repeat' (with_reducible (first | refine And.intro ?_ ?_ | exact True.intro | assumption | omega | exact decide_eq_true (by first | assumption | omega) | exact decide_eq_false (by first | assumption | omega) | rfl | (simp; done))))) (by decide) b1 (by decide) (by simp) hgl) (sub_mkT (by simp; rfl))
    · simp at hG
  · simp at hG
theorem rm_run (la : List Int) : runF g3 200 [.loop 3 rmKeep 1 (.exit 0) (mkLoopN rmG)] 9 [.roi .u8 la] [] [0] =
    some (.sl 0 (la.length + 70) 0 1 0 (la.length + 70) false, [some (.ints .u8 (roomL la))], [(0 : Int) ≤ (la.length : Int) + 70 ∧ (la.length : Int) + 70 = (la.length : Int) + 70 ∧ (la.length + 70) * 1 ≤ 140737488355328, Fits .i64 ((la.length : Int) + 70), Fits .i64 (la.length : Int), LoopGood g3 34 (.loop rmBody) rmKeep 1 (.exit 0) (mkLoopN rmG), la.length + 70 = la.length + 70, la.length + 70 ≤ 140737488355328, List.replicate (la.length + 70) 0 = List.replicate (la.length + 70) (0 : Int)]) :=
  run_parts (by kernel_rfl) (by kernel_rfl) (by kernel_rfl)
def F9 : SumF := fun args B => match args, B with
  | [.roi K la], [] => match sameK K .u8 with
    | true => some { val := .sl 0 (la.length + 70) 0 1 0 (la.length + 70) false, new := [.ints .u8 (roomL la)], C := [la.length ≤ 1000000000] }
    | false => none
  | _, _ => none
theorem acc9 : Acc g3 9 F9 := by
  intro args B out h hC
  unfold F9 at h
  split at h
  · rename_i K la
    split at h
    · rename_i hK
      obtain rfl := kidx_inj hK
      simp only [Option.some.injEq] at h; subst h
      simp only [allC_cons, allC_nil, and_true] at hC
      have F1 : Fits .i64 (la.length : Int) := fits_small (by omega)
      have F2 : Fits .i64 ((la.length : Int) + 70) := fits_of (by omega) (by omega)
      have hl := rm_loop
      refine FnOk.run (new := [0]) g3_ok (rm_run la) (by (simp only [allC_cons, allC_nil, and_true]; repeat' (with_reducible (first | refine And.intro ?_ ?_ | exact True.intro | assumption | omega | exact decide_eq_true (by first | assumption | omega) | exact decide_eq_false (by first | assumption | omega) | rfl | (simp; done))))) (by decide) rfl (by simp) (by simp) ?_
      intro j hj
      match j, hj with
      | 0, _ => rfl
      | j + 1, hj => exact absurd hj (by simp)
    · simp at h
  · simp at h
/-! ### behind -/
abbrev beKeep : List Nat := [0, 5]
noncomputable abbrev beBody : Code := bodyAt Try.prog 12 2
abbrev beS (oa n i : Nat) : List (Nat × SV) := beKeep.zip [.sl 0 0 oa 1 0 n false, .int .i64 (i : Int)]
theorem be_go (oa n i : Nat) (la : List Int) : runC g3 200 22 [.br true, .br false] beBody (beS oa n i) [.ints .u8 la] beKeep [0] =
    some (.normal, [.sl 0 0 oa 1 0 n false, .int .i64 ((i : Int) + 1)], [some (.ints .u8 la)], [Fits .i64 (n : Int), decide ((i : Int) < (n : Int)) = true, Fits .i64 (161 + (i : Int).tmod 7), oa + i + 0 < la.length, (0 : Int) ≤ (i : Int) ∧ (i : Int) < (n : Int), (!decide (la.getD (oa + i) 0 = markN i)) = false, Fits .i64 ((i : Int) + 1)]) := by kernel_rfl
theorem be_end (oa n i : Nat) (la : List Int) : runC g3 200 22 [.br false] beBody (beS oa n i) [.ints .u8 la] beKeep [0] =
    some (.exit 0, [.sl 0 0 oa 1 0 n false, .int .i64 (i : Int)], [some (.ints .u8 la)], [Fits .i64 (n : Int), decide ((i : Int) < (n : Int)) = false]) := by kernel_rfl
def marked (l : List Int) (oa na : Nat) (s : Int) : Prop := ∃ S : Nat, s = S ∧ S ≤ na ∧ ∀ i, S ≤ i → i < na → l.getD (oa + i) 0 = markN i
def beG : LoopF := fun vals B => match vals, B with
  | [.sl 0 0 oa 1 0 na false, .int .i64 s], [.ints K la] => match sameK K .u8 with
    | true => some ([], [.ints .u8 la], [oa + na ≤ la.length, na ≤ 140737488355328, marked la oa na s])
    | _ => none
  | _, _ => none
theorem be_loop : LoopGood g3 22 (.loop beBody) beKeep 1 (.exit 0) (mkLoopN beG) := by
  refine LoopGood.mkN (by decide) fun vals B S' B' C hG hC hlen w0 O hgl => ?_
  clear hlen
  unfold beG at hG
  split at hG
  · rename_i oa na s K la
    split at hG
    · rename_i hK
      obtain rfl := kidx_inj hK
      simp only [Option.some.injEq, Prod.mk.injEq] at hG
      obtain ⟨rfl, rfl, rfl⟩ := hG
      simp only [allC_cons, allC_nil, and_true] at hC
      obtain ⟨h1, h2, S, rfl, h3, h4⟩ := hC
      have F1 : Fits .i64 (na : Int) := fits_small h2
      refine SimC.iter (g := g3) (S := fun i => beS oa na (S + i)) (B := fun _ => [.ints .u8 la]) (N := na - S) (fun i hi => ?_) ?_ (by simp) 0 (by omega)
      · have c : (!decide (la.getD (oa + (S + i)) 0 = markN (S + i))) = false := by rw [decide_eq_true (h4 (S + i) (by omega) (by omega))]; rfl
        have F2 : Fits .i64 (((S + i : Nat) : Int) + 1) := fits_of (by omega) (by omega)
        have F4 := tmod_fits (S + i)
        exact SimC.run (B' := [.ints .u8 la]) g3_ok (by decide) (be_go oa na (S + i) la) (by (simp only [allC_cons, allC_nil, and_true]; repeat' (with_reducible (first | refine And.intro ?_ ?_ | exact True.intro | assumption | omega | exact decide_eq_true (by first | assumption | omega) | exact decide_eq_false (by first | assumption | omega) | rfl | (simp; done))))) (by decide) b1 (by decide) (by simp) hgl
      · exact SimC.weaken (SimC.run (B' := [.ints .u8 la]) g3_ok (by decide) (be_end oa na (S + (na - S)) la) (by (simp only [allC_cons, allC_nil, and_true]; repeat' (with_reducible (first | refine And.intro ?_ ?_ | exact True.intro | assumption | omega | exact decide_eq_true (by first | assumption | omega) | exact decide_eq_false (by first | assumption | omega) | rfl | (simp; done))))) (by decide) b1 (by decide) (by simp) hgl) (fun t => .inr (by simp [mkT, tget, Tr.get_lf]))
    · simp at hG
  · simp at hG
theorem be_run (oa na : Nat) (s : Int) (la : List Int) : runF g3 200 [.loop 2 beKeep 1 (.exit 0) (mkLoopN beG)] 12 [.sl 0 0 oa 1 0 na false, .int .i64 s] [.ints .u8 la] [] =
    some (.bool true, [some (.ints .u8 la)], [LoopGood g3 22 (.loop beBody) beKeep 1 (.exit 0) (mkLoopN beG), oa + na ≤ la.length, na ≤ 140737488355328, marked la oa na s]) := by kernel_rfl
def F12 : SumF := fun args B => match args, B with
  | [x, .int .i64 s], [.ints K la] => match sameK K .u8, vwI 0 la x with
    | true, some (oa, na) => some { val := .sbool true, C := [oa + na ≤ la.length, na ≤ 140737488355328, marked la oa na s] }
    | _, _ => none
  | _, _ => none
theorem acc12 : Acc g3 12 F12 := by
  intro args B out h hC
  unfold F12 at h
  split at h
  · rename_i x s K la
    split at h
    · rename_i oa na hK hx
      obtain rfl := kidx_inj hK
      simp only [Option.some.injEq] at h; subst h
      simp only [allC_cons, allC_nil, and_true] at hC
      obtain ⟨h1, h3, h4⟩ := hC
      have hl := be_loop
      refine FnOk.argsH (args' := [.sl 0 0 oa 1 0 na false, .int .i64 s]) (FnOk.toSb (b := true) (FnOk.run (out := { val := .bool true }) (new := []) g3_ok (be_run oa na s la) (by (simp only [allC_cons, allC_nil, and_true]; repeat' (with_reducible (first | refine And.intro ?_ ?_ | exact True.intro | assumption | omega | exact decide_eq_true (by first | assumption | omega) | exact decide_eq_false (by first | assumption | omega) | rfl | (simp; done))))) (by simp [upto]) rfl (by simp) (by simp) (fun j hj => by match j, hj with | 0, _ => rfl)) rfl) fun w0 O ρ Φ w vs x d => ?_
      simp only [DenT] at d ⊢
      obtain ⟨v1, r1, rfl, d1, v2, r2, rfl, d2, rfl⟩ := d
      exact ⟨_, _, rfl, vwI_den hx x rfl d1, _, _, rfl, d2, rfl⟩
    · simp at h
  · simp at h
end Go.Proofs.Ytibfkpgdpldjbaa
