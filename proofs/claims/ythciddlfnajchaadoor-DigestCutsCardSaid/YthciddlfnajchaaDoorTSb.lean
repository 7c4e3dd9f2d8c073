/- Accounts of this seat's functions: lemmas, no statement of their own. No conditions. -/
import Derived.Test.YthciddlfnajchaaDoorTRa
import Derived.Test.YthciddlfnajchaaDoorV5
import Derived.Test.YthciddlfnajchaaDoorTI
namespace Go.Proofs.Tryd
open Go Go.Vx
/-! ### New: errors -/
theorem ne1 (p : Addr) (n : Int) (k : List Int) : runF (g3.gl (eV p)) 400 [.br true] 10 [nilR, .int .i64 n, .roi .u8 k] [] [] = some (.tuple [nilR, eV p], [], [decide (n < 1) = true]) := run_parts (by kernel_rfl) (by kernel_rfl) (by kernel_rfl)
theorem ne2 (p : Addr) (n : Int) (k : List Int) : runF (g3.gl (eV p)) 400 [.br false, .br true] 10 [nilR, .int .i64 n, .roi .u8 k] [] [] = some (.tuple [nilR, eV p], [], [decide (n < 1) = false, decide (32 < n) = true]) := run_parts (by kernel_rfl) (by kernel_rfl) (by kernel_rfl)
theorem ne3 (p : Addr) (n : Int) (k : List Int) : runF (g3.gl (eV p)) 400 [.br false, .br false, .br true] 10 [nilR, .int .i64 n, .roi .u8 k] [] [] = some (.tuple [nilR, eV p], [], [decide (n < 1) = false, decide (32 < n) = false, Fits .i64 (k.length : Int), decide ((32 : Int) < (k.length : Int)) = true]) := run_parts (by kernel_rfl) (by kernel_rfl) (by kernel_rfl)
noncomputable def F10x (p : Addr) (ok : Bool → Bool) : SumF := fun args B => match args with
  | [.raw (.pointer none), .int .i64 n, s] => match roiL s, B with
    | some k, [] => match ok (match s with | .roi _ _ => true | _ => false) with
      | true => some { val := .tuple [.ptr 0 0, .raw .nilIface], new := [dgV nilR (nwA n k)], C := [1 ≤ n, n ≤ 32, k.length ≤ 32] }
      | false => some { val := .tuple [nilR, eV p], C := [n < 1 ∨ 32 < n ∨ 32 < k.length, Fits .i64 (k.length : Int)] }
    | _, _ => none
  | _ => none
theorem acc10x (p : Addr) (ok : Bool → Bool) : Acc (g3.gl (eV p)) 10 (F10x p ok) := by
  intro args B out h hC
  unfold F10x at h
  split at h
  · rename_i n s
    split at h
    · rename_i k hs
      refine FnOk.imp (args' := [nilR, .int .i64 n, .roi .u8 k]) ?_ ⟨DenImp.refl _, DenImp.refl _, roiL_imp hs, trivial⟩
      split at h
      · simp only [Option.some.injEq] at h; subst h
        exact FnOk.gl (fun _ => rfl) (acc10 [nilR, .int .i64 n, .roi .u8 k] [] _ rfl hC)
      · simp only [Option.some.injEq] at h; subst h
        simp only [allC_cons, allC_nil, and_true] at hC
        have hU : CtxU (g3.gl (eV p)) := gl_ok g3_ok fun _ => rfl
        by_cases c1 : n < 1
        · exact FnOk.val (FnOk.pure hU (ne1 p n k) (by simp only [allC_cons, allC_nil, and_true]; exact decide_eq_true c1)) (fun _ _ _ _ h => h)
        by_cases c2 : 32 < n
        · exact FnOk.val (FnOk.pure hU (ne2 p n k) (by simp only [allC_cons, allC_nil, and_true]; exact ⟨decide_eq_false c1, decide_eq_true c2⟩)) (fun _ _ _ _ h => h)
        · exact FnOk.val (FnOk.pure hU (ne3 p n k) (by simp only [allC_cons, allC_nil, and_true]; exact ⟨decide_eq_false c1, decide_eq_false c2, hC.2, decide_eq_true (by omega)⟩)) (fun _ _ _ _ h => h)
    · simp at h
  · simp at h
/-! ### Write of one byte -/
theorem w1_a (v : Int) (a : Nat → Int) : runF g4 900 [.br true, .br false, .br false] 14 [.ptr 0 0, .sl 1 1 0 1 0 1 true] [dgV nilR a, .cells [.int .u8 v]] [] =
    some (.tuple [], [some (dgV nilR (ovA a [v])), some (.cells [.int .u8 v])], [true = true, decide (a 74 = 64) = false, Fits .i64 (kN a [v]), (a 74).toNat + ([v].take (64 - (a 74).toNat)).length ≤ 64, 0 ≤ a 74 ∧ a 74 ≤ ((64 : Nat) : Int) ∧ ((64 : Nat) : Int) ≤ ((64 : Nat) : Int), 0 ≤ kN a [v] ∧ kN a [v] ≤ ((1 : Nat) : Int) ∧ ((1 : Nat) : Int) ≤ ((1 : Nat) : Int), Fits .i64 (a 74 + kN a [v]), Fits .i64 ((1 - (kN a [v]).toNat : Nat) : Int), decide ((0 : Int) < ((1 - (kN a [v]).toNat : Nat) : Int)) = false]) := run_parts (by kernel_rfl) (by kernel_rfl) (by kernel_rfl)
theorem w1_b (v : Int) (a : Nat → Int) : runF g4 900 [.br true, .br true, .br false] 14 [.ptr 0 0, .sl 1 1 0 1 0 1 true] [dgV nilR a, .cells [.int .u8 v]] [] =
    some (.tuple [], [some (dgV nilR (ovA (flA a) [v])), some (.cells [.int .u8 v])], [true = true, decide (a 74 = 64) = true, Fits .i64 (kN (flA a) [v]), (flA a 74).toNat + ([v].take (64 - (flA a 74).toNat)).length ≤ 64, 0 ≤ flA a 74 ∧ flA a 74 ≤ ((64 : Nat) : Int) ∧ ((64 : Nat) : Int) ≤ ((64 : Nat) : Int), 0 ≤ kN (flA a) [v] ∧ kN (flA a) [v] ≤ ((1 : Nat) : Int) ∧ ((1 : Nat) : Int) ≤ ((1 : Nat) : Int), Fits .i64 (flA a 74 + kN (flA a) [v]), Fits .i64 ((1 - (kN (flA a) [v]).toNat : Nat) : Int), decide ((0 : Int) < ((1 - (kN (flA a) [v]).toNat : Nat) : Int)) = false]) := run_parts (by kernel_rfl) (by kernel_rfl) (by kernel_rfl)
noncomputable def F14c : SumF := fun args B => match args, B with
  | [.ptr 0 0, .sl 1 1 0 1 0 1 true], [.cells ms, .cells bs] => match dgAs ms, headK (ms.take 1), numsAs [.u8] bs with
    | some la, .nil, some [v] => some { val := .tuple [], upd := [(0, some (dgV nilR (stepA (atL la) [v]))), (1, some (.cells [.int .u8 v]))], C := [0 ≤ atL la 74 ∧ atL la 74 ≤ 64] }
    | _, _, _ => none
  | _, _ => none
theorem acc14c : Acc g4 14 F14c := by
  intro args B out h hC
  unfold F14c at h
  split at h
  · rename_i ms bs
    split at h
    · rename_i la v ha hr hb
      have hr := head_nil hr
      simp only [Option.some.injEq] at h; subst h
      simp only [allC_cons, allC_nil, and_true] at hC
      refine FnOk.preB (B' := [dgV nilR (atL la), .cells [.int .u8 v]]) ?_ ⟨cells_dg ha hr rfl, cells_nums hb, trivial⟩ (fun j => by
        match j with
        | 0 => rfl
        | 1 => rfl
        | j + 2 => rfl)
      generalize atL la = a at *
      unfold stepA
      by_cases c : a 74 = 64
      · rw [if_pos c]
        exact FnOk.val (C := []) (rd := []) (FnOk.run (new := []) g4_ok (w1_b v a) (by
          have hk : kN (flA a) [v] = 1 := rfl
          have hh : flA a 74 = 0 := rfl
          simp only [allC_cons, allC_nil, and_true, true_and]
          rw [hk, hh]
          exact ⟨decide_eq_true c, fits_of (by decide) (by decide), by simp, ⟨by decide, by decide, by decide⟩, ⟨by decide, by decide, by decide⟩, fits_of (by decide) (by decide), fits_of (by decide) (by decide), by decide⟩) (by simp [upto]) rfl (by simp) (by simp) (fun j hj => by
          match j, hj with
          | 0, _ => rfl
          | 1, _ => rfl)) (fun _ _ _ _ h => h)
      · rw [if_neg c]
        have hk := kN_bd (l := [v]) hC
        have hk1 : kN a [v] = 1 := by
          rcases hk with ⟨h1, _⟩ | ⟨h1, h2⟩
          · rw [h1]; rfl
          · have : (([v] : List Int).length : Int) = 1 := rfl
            omega
        have h5 : ([v].take (64 - (a 74).toNat)).length ≤ 64 - (a 74).toNat := by rw [List.length_take]; exact Nat.min_le_left _ _
        exact FnOk.val (C := []) (rd := []) (FnOk.run (new := []) g4_ok (w1_a v a) (by
          simp only [allC_cons, allC_nil, and_true, true_and]
          rw [hk1]
          exact ⟨decide_eq_false c, fits_of (by decide) (by decide), by omega, ⟨by omega, by omega, by omega⟩, ⟨by decide, by decide, by decide⟩, fits_of (by omega) (by omega), fits_of (by decide) (by decide), by decide⟩) (by simp [upto]) rfl (by simp) (by simp) (fun j hj => by
          match j, hj with
          | 0, _ => rfl
          | 1, _ => rfl)) (fun _ _ _ _ h => h)
    · simp at h
  · simp at h
noncomputable def oneOf (F G : SumF) : SumF := fun args B => match F args B with
  | some o => some o
  | none => G args B
theorem acc_one {g : Ctx} {f : FuncId} {F G : SumF} (hF : Acc g f F) (hG : Acc g f G) : Acc g f (oneOf F G) := by
  intro args B out h hC
  unfold oneOf at h
  split at h
  · rename_i o e
    simp only [Option.some.injEq] at h; subst h
    exact hF _ _ _ e hC
  · exact hG _ _ _ h hC
/-! ### same -/
abbrev smKeep : List Nat := [0, 1, 5]
noncomputable abbrev smBody : Code := bodyAt Tryd.prog 16 4
abbrev smS1 (oa ob n i : Nat) : List (Nat × SV) := smKeep.zip [.sl 0 0 oa 1 0 n false, .sl 1 0 ob 1 0 n false, .int .i64 (i : Int)]
theorem sm1_go (oa ob n i : Nat) (la lb : List Int) : runC g1 200 26 [.br true, .br false] smBody (smS1 oa ob n i) [.ints .u8 la, .ints .u8 lb] smKeep [0, 1] =
    some (.normal, [.sl 0 0 oa 1 0 n false, .sl 1 0 ob 1 0 n false, .int .i64 ((i : Int) + 1)], [some (.ints .u8 la), some (.ints .u8 lb)], [Fits .i64 (n : Int), decide ((i : Int) < (n : Int)) = true, ob + i + 0 < lb.length, (0 : Int) ≤ (i : Int) ∧ (i : Int) < (n : Int), oa + i + 0 < la.length, (0 : Int) ≤ (i : Int) ∧ (i : Int) < (n : Int),
      (!decide (la.getD (oa + i) 0 = lb.getD (ob + i) 0)) = false, Fits .i64 ((i : Int) + 1)]) := by kernel_rfl
theorem sm1_end (oa ob n i : Nat) (la lb : List Int) : runC g1 200 26 [.br false] smBody (smS1 oa ob n i) [.ints .u8 la, .ints .u8 lb] smKeep [0, 1] =
    some (.exit 0, [.sl 0 0 oa 1 0 n false, .sl 1 0 ob 1 0 n false, .int .i64 (i : Int)], [some (.ints .u8 la), some (.ints .u8 lb)], [Fits .i64 (n : Int), decide ((i : Int) < (n : Int)) = false]) := by kernel_rfl
def sm1G : LoopF := fun vals B => match vals, B with
  | [.sl 0 0 oa 1 0 na false, .sl 1 0 ob 1 0 nb false, .int .i64 0], [.ints K la, .ints K2 lb] => match sameK K .u8, sameK K2 .u8 with
    | true, true => some ([], [.ints .u8 la, .ints .u8 lb], [na = nb, oa + na ≤ la.length, ob + nb ≤ lb.length, na ≤ 140737488355328, subI la oa na = subI lb ob nb])
    | _, _ => none
  | _, _ => none
theorem b2 : ∀ j : Nat, j < 2 → ([0, 1] : List Nat)[j]? = some j := fun j hj => by
  match j, hj with
  | 0, _ => rfl
  | 1, _ => rfl
theorem b1 : ∀ j : Nat, j < 1 → ([0] : List Nat)[j]? = some j := fun j hj => by
  match j, hj with
  | 0, _ => rfl
theorem sm1_loop : LoopGood g1 26 (.loop smBody) smKeep 2 (.exit 0) (mkLoopN sm1G) := by
  refine LoopGood.mkN (by decide) fun vals B S' B' C hG hC hlen w0 O hgl => ?_
  clear hlen
  unfold sm1G at hG
  split at hG
  · rename_i oa na ob nb K la K2 lb
    split at hG
    · rename_i hK hK2
      obtain rfl := kidx_inj hK
      obtain rfl := kidx_inj hK2
      simp only [Option.some.injEq, Prod.mk.injEq] at hG
      obtain ⟨rfl, rfl, rfl⟩ := hG
      simp only [allC_cons, allC_nil, and_true] at hC
      obtain ⟨rfl, h1, h2, h3, h4⟩ := hC
      have F1 : Fits .i64 (na : Int) := fits_small h3
      refine SimC.iter (g := g1) (S := smS1 oa ob na) (B := fun _ => [.ints .u8 la, .ints .u8 lb]) (N := na) (fun i hi => ?_) ?_ (by simp) 0 (by omega)
      · have e : la.getD (oa + i) 0 = lb.getD (ob + i) 0 := by rw [← subI_get hi, h4, subI_get hi]
        have c : (!decide (la.getD (oa + i) 0 = lb.getD (ob + i) 0)) = false := by rw [decide_eq_true e]; rfl
        have F2 : Fits .i64 ((i : Int) + 1) := fits_of (by omega) (by omega)
        exact SimC.run (B' := [.ints .u8 la, .ints .u8 lb]) g1_ok (by decide) (sm1_go oa ob na i la lb) (by (simp only [allC_cons, allC_nil, and_true]; repeat' (with_reducible (first | refine And.intro ?_ ?_ | exact True.intro | assumption | omega | exact decide_eq_true (by first | assumption | omega) | exact decide_eq_false (by first | assumption | omega) | rfl | (simp; done))))) (by decide) b2 (by decide) (by simp) hgl
      · exact SimC.weaken (SimC.run (B' := [.ints .u8 la, .ints .u8 lb]) g1_ok (by decide) (sm1_end oa ob na na la lb) (by (simp only [allC_cons, allC_nil, and_true]; repeat' (with_reducible (first | refine And.intro ?_ ?_ | exact True.intro | assumption | omega | exact decide_eq_true (by first | assumption | omega) | exact decide_eq_false (by first | assumption | omega) | rfl | (simp; done))))) (by decide) b2 (by decide) (by simp) hgl) (fun t => .inr (by simp [mkT, tget, Tr.get_lf]))
    · simp at hG
  · simp at hG
theorem sm1_run (oa ob na nb : Nat) (la lb : List Int) : runF g1 200 [.br false, .loop 4 smKeep 2 (.exit 0) (mkLoopN sm1G)] 16 [.sl 0 0 oa 1 0 na false, .sl 1 0 ob 1 0 nb false] [.ints .u8 la, .ints .u8 lb] [] =
    some (.bool true, [some (.ints .u8 la), some (.ints .u8 lb)], [Fits .i64 (nb : Int), Fits .i64 (na : Int), (!decide ((na : Int) = (nb : Int))) = false, LoopGood g1 26 (.loop smBody) smKeep 2 (.exit 0) (mkLoopN sm1G), na = nb, oa + na ≤ la.length, ob + nb ≤ lb.length, na ≤ 140737488355328, subI la oa na = subI lb ob nb]) := by kernel_rfl
abbrev smS2 (oa n : Nat) (lb : List Int) (i : Nat) : List (Nat × SV) := smKeep.zip [.sl 0 0 oa 1 0 n false, .roi .u8 lb, .int .i64 (i : Int)]
theorem sm2_go (oa n i : Nat) (la lb : List Int) : runC g1 200 26 [.br true, .br false] smBody (smS2 oa n lb i) [.ints .u8 la] smKeep [0] =
    some (.normal, [.sl 0 0 oa 1 0 n false, .roi .u8 lb, .int .i64 ((i : Int) + 1)], [some (.ints .u8 la)], [Fits .i64 (n : Int), decide ((i : Int) < (n : Int)) = true, (0 : Int) ≤ (i : Int) ∧ (i : Int) < (lb.length : Int), oa + i + 0 < la.length, (0 : Int) ≤ (i : Int) ∧ (i : Int) < (n : Int),
      (!decide (la.getD (oa + i) 0 = lb.getD i 0)) = false, Fits .i64 ((i : Int) + 1)]) := by kernel_rfl
theorem sm2_end (oa n i : Nat) (la lb : List Int) : runC g1 200 26 [.br false] smBody (smS2 oa n lb i) [.ints .u8 la] smKeep [0] =
    some (.exit 0, [.sl 0 0 oa 1 0 n false, .roi .u8 lb, .int .i64 (i : Int)], [some (.ints .u8 la)], [Fits .i64 (n : Int), decide ((i : Int) < (n : Int)) = false]) := by kernel_rfl
def sm2G : LoopF := fun vals B => match vals, B with
  | [.sl 0 0 oa 1 0 na false, .roi K2 lb, .int .i64 0], [.ints K la] => match sameK K .u8, sameK K2 .u8 with
    | true, true => some ([], [.ints .u8 la], [na = lb.length, oa + na ≤ la.length, na ≤ 140737488355328, subI la oa na = lb])
    | _, _ => none
  | _, _ => none
theorem sm2_loop : LoopGood g1 26 (.loop smBody) smKeep 1 (.exit 0) (mkLoopN sm2G) := by
  refine LoopGood.mkN (by decide) fun vals B S' B' C hG hC hlen w0 O hgl => ?_
  clear hlen
  unfold sm2G at hG
  split at hG
  · rename_i oa na K2 lb K la
    split at hG
    · rename_i hK hK2
      obtain rfl := kidx_inj hK
      obtain rfl := kidx_inj hK2
      simp only [Option.some.injEq, Prod.mk.injEq] at hG
      obtain ⟨rfl, rfl, rfl⟩ := hG
      simp only [allC_cons, allC_nil, and_true] at hC
      obtain ⟨h0, h1, h3, h4⟩ := hC
      have F1 : Fits .i64 (na : Int) := fits_small h3
      refine SimC.iter (g := g1) (S := smS2 oa na lb) (B := fun _ => [.ints .u8 la]) (N := na) (fun i hi => ?_) ?_ (by simp) 0 (by omega)
      · have e : la.getD (oa + i) 0 = lb.getD i 0 := by rw [← subI_get hi, h4]
        have c : (!decide (la.getD (oa + i) 0 = lb.getD i 0)) = false := by rw [decide_eq_true e]; rfl
        have F2 : Fits .i64 ((i : Int) + 1) := fits_of (by omega) (by omega)
        exact SimC.run (B' := [.ints .u8 la]) g1_ok (by decide) (sm2_go oa na i la lb) (by (simp only [allC_cons, allC_nil, and_true]; repeat' (with_reducible (first | refine And.intro ?_ ?_ | exact True.intro | assumption | omega | exact decide_eq_true (by first | assumption | omega) | exact decide_eq_false (by first | assumption | omega) | rfl | (simp; done))))) (by decide) b1 (by decide) (by simp) hgl
      · exact SimC.weaken (SimC.run (B' := [.ints .u8 la]) g1_ok (by decide) (sm2_end oa na na la lb) (by (simp only [allC_cons, allC_nil, and_true]; repeat' (with_reducible (first | refine And.intro ?_ ?_ | exact True.intro | assumption | omega | exact decide_eq_true (by first | assumption | omega) | exact decide_eq_false (by first | assumption | omega) | rfl | (simp; done))))) (by decide) b1 (by decide) (by simp) hgl) (fun t => .inr (by simp [mkT, tget, Tr.get_lf]))
    · simp at hG
  · simp at hG
theorem sm2_run (oa na : Nat) (la lb : List Int) : runF g1 200 [.br false, .loop 4 smKeep 1 (.exit 0) (mkLoopN sm2G)] 16 [.sl 0 0 oa 1 0 na false, .roi .u8 lb] [.ints .u8 la] [] =
    some (.bool true, [some (.ints .u8 la)], [Fits .i64 (lb.length : Int), Fits .i64 (na : Int), (!decide ((na : Int) = (lb.length : Int))) = false, LoopGood g1 26 (.loop smBody) smKeep 1 (.exit 0) (mkLoopN sm2G), na = lb.length, oa + na ≤ la.length, na ≤ 140737488355328, subI la oa na = lb]) := by kernel_rfl
/-- two rows of bytes that are one -/
def F16 : SumF := fun args B => match args, B with
  | [x, .roi K2 lb], [.ints K la] => match sameK K .u8, sameK K2 .u8, vwI 0 la x with
    | true, true, some (oa, na) => some { val := .sbool true, C := [oa + na ≤ la.length, na ≤ 140737488355328, subI la oa na = lb] }
    | _, _, _ => none
  | [x, y], [.ints K la, .ints K2 lb] => match sameK K .u8, sameK K2 .u8, vwI 0 la x, vwI 1 lb y with
    | true, true, some (oa, na), some (ob, nb) => some { val := .sbool true, C := [oa + na ≤ la.length, ob + nb ≤ lb.length, na ≤ 140737488355328, subI la oa na = subI lb ob nb] }
    | _, _, _, _ => none
  | _, _ => none
theorem acc16 : Acc g1 16 F16 := by
  intro args B out h hC
  unfold F16 at h
  split at h
  · rename_i x K2 lb K la
    split at h
    · rename_i oa na hK hK2 hx
      obtain rfl := kidx_inj hK
      obtain rfl := kidx_inj hK2
      simp only [Option.some.injEq] at h; subst h
      simp only [allC_cons, allC_nil, and_true] at hC
      obtain ⟨h1, h3, h4⟩ := hC
      have hn : na = lb.length := by rw [← h4, subI_length h1]
      have F1 : Fits .i64 (na : Int) := fits_small h3
      have F2 : Fits .i64 (lb.length : Int) := fits_small (by omega)
      have hl := sm2_loop
      have c : (!decide ((na : Int) = (lb.length : Int))) = false := by rw [decide_eq_true (by omega)]; rfl
      refine FnOk.argsH (args' := [.sl 0 0 oa 1 0 na false, .roi .u8 lb]) (FnOk.toSb (b := true) (FnOk.run (out := { val := .bool true }) (new := []) g1_ok (sm2_run oa na la lb) (by (simp only [allC_cons, allC_nil, and_true]; repeat' (with_reducible (first | refine And.intro ?_ ?_ | exact True.intro | assumption | omega | exact decide_eq_true (by first | assumption | omega) | exact decide_eq_false (by first | assumption | omega) | rfl | (simp; done))))) (by simp [upto]) rfl (by simp) (by simp) (fun j hj => by match j, hj with | 0, _ => rfl)) rfl) fun w0 O ρ Φ w vs x d => ?_
      simp only [DenT] at d ⊢
      obtain ⟨v1, r1, rfl, d1, v2, r2, rfl, d2, rfl⟩ := d
      exact ⟨_, _, rfl, vwI_den hx x rfl d1, _, _, rfl, d2, rfl⟩
    · simp at h
  · rename_i x y K la K2 lb
    split at h
    · rename_i oa na ob nb hK hK2 hx hy
      obtain rfl := kidx_inj hK
      obtain rfl := kidx_inj hK2
      simp only [Option.some.injEq] at h; subst h
      simp only [allC_cons, allC_nil, and_true] at hC
      obtain ⟨h1, h2, h3, h4⟩ := hC
      have hn : na = nb := by have := congrArg List.length h4; rwa [subI_length h1, subI_length h2] at this
      have F1 : Fits .i64 (na : Int) := fits_small h3
      have F2 : Fits .i64 (nb : Int) := fits_small (by omega)
      have hl := sm1_loop
      have c : (!decide ((na : Int) = (nb : Int))) = false := by rw [decide_eq_true (by omega)]; rfl
      refine FnOk.argsH (args' := [.sl 0 0 oa 1 0 na false, .sl 1 0 ob 1 0 nb false]) (FnOk.toSb (b := true) (FnOk.run (out := { val := .bool true }) (new := []) g1_ok (sm1_run oa ob na nb la lb) (by (simp only [allC_cons, allC_nil, and_true]; repeat' (with_reducible (first | refine And.intro ?_ ?_ | exact True.intro | assumption | omega | exact decide_eq_true (by first | assumption | omega) | exact decide_eq_false (by first | assumption | omega) | rfl | (simp; done))))) (by simp [upto]) rfl (by simp) (by simp) (fun j hj => by match j, hj with | 0, _ => rfl | 1, _ => rfl)) rfl) fun w0 O ρ Φ w vs x d => ?_
      simp only [DenT] at d ⊢
      obtain ⟨v1, r1, rfl, d1, v2, r2, rfl, d2, rfl⟩ := d
      exact ⟨_, _, rfl, vwI_den hx x rfl d1, _, _, rfl, vwI_den hy x rfl d2, rfl⟩
    · simp at h
  · simp at h

noncomputable abbrev gT (p : Addr) (ok : Bool → Bool) : Ctx := (g3.gl (eV p)).add [(10, F10x p ok), (11, F11 ok), (13, F13), (14, oneOf F14 F14c), (15, F15), (16, F16)]
theorem gT_ok (p : Addr) (ok : Bool → Bool) : CtxU (gT p ok) := (gl_ok g3_ok fun _ => rfl).add mixed noGo (by
  intro x hx
  simp only [List.mem_cons, List.not_mem_nil, or_false] at hx
  rcases hx with rfl | rfl | rfl | rfl | rfl | rfl
  · exact acc10x p ok
  · exact Acc.of (g := gd3.gl (eV p)) rfl rfl (Acc.gl (fun _ => rfl) (acc11 ok))
  · exact Acc.of (g := gK p) rfl rfl (acc13 p)
  · exact Acc.of (g := g4.gl (eV p)) rfl rfl (Acc.gl (fun _ => rfl) (acc_one acc14 acc14c))
  · exact Acc.of (g := g4.gl (eV p)) rfl rfl (Acc.gl (fun _ => rfl) acc15)
  · exact Acc.of (g := g1.gl (eV p)) rfl rfl (Acc.gl (fun _ => rfl) acc16))
theorem globT_ok (p : Addr) (ok : Bool → Bool) (W : World) (h : W.cell? ⟨0, 0, none⟩ = some (.iface 120 (.pointer (some p)))) : GlobOk (gT p ok) W (O0 W) := glob_ok p W h
end Go.Proofs.Tryd

namespace Go.Proofs.Tryd
open Go Go.Vx
/-! ### DigestTwo: the loop's runs -/
noncomputable abbrev gA (p : Addr) : Ctx := gT p (fun _ => true)
abbrev twKeep : List Nat := [0, 1, 2, 3, 9, 11, 17, 18, 19]
noncomputable abbrev twBody : Code := bodyAt Tryd.prog 3 14
noncomputable abbrev twO (u v : Int) (k : List Int) (q : Nat → Bool) (d : Nat → List Int) (m : Nat) (i : Int) : List SV := [.int .i64 u, .int .i64 v, .roi .u8 k, .ro 2 m (rowY q d), .ptr 0 0, .ptr 1 0, .own 2, .own 3, .int .i64 i]
noncomputable abbrev twS (u v : Int) (k : List Int) (q : Nat → Bool) (d : Nat → List Int) (m i : Nat) : List (Nat × SV) := twKeep.zip (twO u v k q d m (i : Int))
noncomputable abbrev twB (a b : Nat → Int) (x y : List Int) : List Body := [dgV nilR a, dgV nilR b, .ints .u8 x, .ints .u8 y]
end Go.Proofs.Tryd

namespace Go.Proofs.Tryd
open Go Go.Vx
theorem tw_000 (p : Addr) (u v : Int) (k : List Int) (q : Nat → Bool) (d : Nat → List Int) (m i : Nat) (a b : Nat → Int) (x y : List Int) : runC (gA p) 600 206 [.br true, .br false, .br true, .br false, .br false] twBody (twS u v k q d m i) (twB a b x y) twKeep [0, 1, 4, 3] =
    some (.normal, twO u v k q d m ((i : Int) + 1), (twB (wrA (n75 a) (d i)) b (x ++ d i) y).map some, [Fits .i64 (m : Int), decide ((i : Int) < (m : Int)) = true, (0 : Int) ≤ (i : Int) ∧ (i : Int) < (m : Int), Fits .i64 (131072 - (x.length : Int) - (y.length : Int)), Fits .i64 (y.length : Int), Fits .i64 (131072 - (x.length : Int)), Fits .i64 (x.length : Int), Fits .i64 ((d i).length : Int), decide (131072 - (x.length : Int) - (y.length : Int) < ((d i).length : Int)) = false, decide ((i : Int).tmod 2 = 0) = true, 0 ≤ n75 a 74 ∧ n75 a 74 ≤ 64, (d i).length ≤ 140737488355328, (x ++ d i).length * 1 ≤ 2 ^ 47, decide ((i : Int) = 1) = false, 1 ≤ u, u ≤ 32, k.length ≤ 32, Bytes k, Bytes (x ++ d i), ((x ++ d i)).length ≤ 70368744177664, 1 ≤ v, v ≤ 32, ([] : List Int).length ≤ 32, Bytes [], Bytes y, (y).length ≤ 70368744177664, q i = false, (0 : Int) ≤ (i : Int) ∧ (i : Int) < (m : Int), Fits .i64 ((i : Int) + 1)]) := r3_parts4 (by kernel_rfl) (by kernel_rfl) (by kernel_rfl) (by kernel_rfl)
theorem tw_001 (p : Addr) (u v : Int) (k : List Int) (q : Nat → Bool) (d : Nat → List Int) (m i : Nat) (a b : Nat → Int) (x y : List Int) : runC (gA p) 600 206 [.br true, .br false, .br true, .br false, .br true, .br false, .br false, .br false] twBody (twS u v k q d m i) (twB a b x y) twKeep [0, 1, 4, 3] =
    some (.normal, twO u v k q d m ((i : Int) + 1), (twB (wrA (n75 a) (d i)) b (x ++ d i) y).map some, [Fits .i64 (m : Int), decide ((i : Int) < (m : Int)) = true, (0 : Int) ≤ (i : Int) ∧ (i : Int) < (m : Int), Fits .i64 (131072 - (x.length : Int) - (y.length : Int)), Fits .i64 (y.length : Int), Fits .i64 (131072 - (x.length : Int)), Fits .i64 (x.length : Int), Fits .i64 ((d i).length : Int), decide (131072 - (x.length : Int) - (y.length : Int) < ((d i).length : Int)) = false, decide ((i : Int).tmod 2 = 0) = true, 0 ≤ n75 a 74 ∧ n75 a 74 ≤ 64, (d i).length ≤ 140737488355328, (x ++ d i).length * 1 ≤ 2 ^ 47, decide ((i : Int) = 1) = false, 1 ≤ u, u ≤ 32, k.length ≤ 32, Bytes k, Bytes (x ++ d i), ((x ++ d i)).length ≤ 70368744177664, 1 ≤ v, v ≤ 32, ([] : List Int).length ≤ 32, Bytes [], Bytes y, (y).length ≤ 70368744177664, 0 + (n75 b 0).toNat ≤ (dgL (n75 b)).length, 0 + (dSum v [] (allL [] y)).length ≤ (dSum v [] (allL [] y)).length, (n75 b 0).toNat ≤ 140737488355328, subI (dgL (n75 b)) 0 (n75 b 0).toNat = subI (dSum v [] (allL [] y)) 0 (dSum v [] (allL [] y)).length, 0 ≤ n75 b 74 ∧ n75 b 74 ≤ 64, 0 ≤ n75 b 0 ∧ n75 b 0 ≤ 32, (!true) = false, 0 + (n75 (wrA (n75 a) (d i)) 0).toNat ≤ (dgL (n75 (wrA (n75 a) (d i)))).length, 0 + (dSum u k (allL k (x ++ d i))).length ≤ (dSum u k (allL k (x ++ d i))).length, (n75 (wrA (n75 a) (d i)) 0).toNat ≤ 140737488355328, subI (dgL (n75 (wrA (n75 a) (d i)))) 0 (n75 (wrA (n75 a) (d i)) 0).toNat = subI (dSum u k (allL k (x ++ d i))) 0 (dSum u k (allL k (x ++ d i))).length, 0 ≤ n75 (wrA (n75 a) (d i)) 74 ∧ n75 (wrA (n75 a) (d i)) 74 ≤ 64, 0 ≤ n75 (wrA (n75 a) (d i)) 0 ∧ n75 (wrA (n75 a) (d i)) 0 ≤ 32, q i = true, (0 : Int) ≤ (i : Int) ∧ (i : Int) < (m : Int), (!true) = false, Fits .i64 ((i : Int) + 1)]) := r3_parts4 (by kernel_rfl) (by kernel_rfl) (by kernel_rfl) (by kernel_rfl)
theorem tw_100 (p : Addr) (u v : Int) (k : List Int) (q : Nat → Bool) (d : Nat → List Int) (m i : Nat) (a b : Nat → Int) (x y : List Int) : runC (gA p) 600 206 [.br true, .br false, .br false, .br false, .br false] twBody (twS u v k q d m i) (twB a b x y) twKeep [0, 1, 2, 4] =
    some (.normal, twO u v k q d m ((i : Int) + 1), (twB a (wrA (n75 b) (d i)) x (y ++ d i)).map some, [Fits .i64 (m : Int), decide ((i : Int) < (m : Int)) = true, (0 : Int) ≤ (i : Int) ∧ (i : Int) < (m : Int), Fits .i64 (131072 - (x.length : Int) - (y.length : Int)), Fits .i64 (y.length : Int), Fits .i64 (131072 - (x.length : Int)), Fits .i64 (x.length : Int), Fits .i64 ((d i).length : Int), decide (131072 - (x.length : Int) - (y.length : Int) < ((d i).length : Int)) = false, decide ((i : Int).tmod 2 = 0) = false, 0 ≤ n75 b 74 ∧ n75 b 74 ≤ 64, (d i).length ≤ 140737488355328, (y ++ d i).length * 1 ≤ 2 ^ 47, decide ((i : Int) = 1) = false, 1 ≤ u, u ≤ 32, k.length ≤ 32, Bytes k, Bytes x, (x).length ≤ 70368744177664, 1 ≤ v, v ≤ 32, ([] : List Int).length ≤ 32, Bytes [], Bytes (y ++ d i), ((y ++ d i)).length ≤ 70368744177664, q i = false, (0 : Int) ≤ (i : Int) ∧ (i : Int) < (m : Int), Fits .i64 ((i : Int) + 1)]) := r3_parts4 (by kernel_rfl) (by kernel_rfl) (by kernel_rfl) (by kernel_rfl)
theorem tw_101 (p : Addr) (u v : Int) (k : List Int) (q : Nat → Bool) (d : Nat → List Int) (m i : Nat) (a b : Nat → Int) (x y : List Int) : runC (gA p) 600 206 [.br true, .br false, .br false, .br false, .br true, .br false, .br false, .br false] twBody (twS u v k q d m i) (twB a b x y) twKeep [0, 1, 2, 4] =
    some (.normal, twO u v k q d m ((i : Int) + 1), (twB a (wrA (n75 b) (d i)) x (y ++ d i)).map some, [Fits .i64 (m : Int), decide ((i : Int) < (m : Int)) = true, (0 : Int) ≤ (i : Int) ∧ (i : Int) < (m : Int), Fits .i64 (131072 - (x.length : Int) - (y.length : Int)), Fits .i64 (y.length : Int), Fits .i64 (131072 - (x.length : Int)), Fits .i64 (x.length : Int), Fits .i64 ((d i).length : Int), decide (131072 - (x.length : Int) - (y.length : Int) < ((d i).length : Int)) = false, decide ((i : Int).tmod 2 = 0) = false, 0 ≤ n75 b 74 ∧ n75 b 74 ≤ 64, (d i).length ≤ 140737488355328, (y ++ d i).length * 1 ≤ 2 ^ 47, decide ((i : Int) = 1) = false, 1 ≤ u, u ≤ 32, k.length ≤ 32, Bytes k, Bytes x, (x).length ≤ 70368744177664, 1 ≤ v, v ≤ 32, ([] : List Int).length ≤ 32, Bytes [], Bytes (y ++ d i), ((y ++ d i)).length ≤ 70368744177664, 0 + (n75 (wrA (n75 b) (d i)) 0).toNat ≤ (dgL (n75 (wrA (n75 b) (d i)))).length, 0 + (dSum v [] (allL [] (y ++ d i))).length ≤ (dSum v [] (allL [] (y ++ d i))).length, (n75 (wrA (n75 b) (d i)) 0).toNat ≤ 140737488355328, subI (dgL (n75 (wrA (n75 b) (d i)))) 0 (n75 (wrA (n75 b) (d i)) 0).toNat = subI (dSum v [] (allL [] (y ++ d i))) 0 (dSum v [] (allL [] (y ++ d i))).length, 0 ≤ n75 (wrA (n75 b) (d i)) 74 ∧ n75 (wrA (n75 b) (d i)) 74 ≤ 64, 0 ≤ n75 (wrA (n75 b) (d i)) 0 ∧ n75 (wrA (n75 b) (d i)) 0 ≤ 32, (!true) = false, 0 + (n75 a 0).toNat ≤ (dgL (n75 a)).length, 0 + (dSum u k (allL k x)).length ≤ (dSum u k (allL k x)).length, (n75 a 0).toNat ≤ 140737488355328, subI (dgL (n75 a)) 0 (n75 a 0).toNat = subI (dSum u k (allL k x)) 0 (dSum u k (allL k x)).length, 0 ≤ n75 a 74 ∧ n75 a 74 ≤ 64, 0 ≤ n75 a 0 ∧ n75 a 0 ≤ 32, q i = true, (0 : Int) ≤ (i : Int) ∧ (i : Int) < (m : Int), (!true) = false, Fits .i64 ((i : Int) + 1)]) := r3_parts4 (by kernel_rfl) (by kernel_rfl) (by kernel_rfl) (by kernel_rfl)
theorem tw_110 (p : Addr) (u v : Int) (k : List Int) (q : Nat → Bool) (d : Nat → List Int) (m i : Nat) (a b : Nat → Int) (x y : List Int) : runC (gA p) 600 206 [.br true, .br false, .br false, .br true, .br false] twBody (twS u v k q d m i) (twB a b x y) twKeep [0, 1, 2, 4] =
    some (.normal, twO u v k q d m ((i : Int) + 1), (twB a (wrA (n75 b) (d i)) x (y ++ d i)).map some, [Fits .i64 (m : Int), decide ((i : Int) < (m : Int)) = true, (0 : Int) ≤ (i : Int) ∧ (i : Int) < (m : Int), Fits .i64 (131072 - (x.length : Int) - (y.length : Int)), Fits .i64 (y.length : Int), Fits .i64 (131072 - (x.length : Int)), Fits .i64 (x.length : Int), Fits .i64 ((d i).length : Int), decide (131072 - (x.length : Int) - (y.length : Int) < ((d i).length : Int)) = false, decide ((i : Int).tmod 2 = 0) = false, 0 ≤ n75 b 74 ∧ n75 b 74 ≤ 64, (d i).length ≤ 140737488355328, (y ++ d i).length * 1 ≤ 2 ^ 47, decide ((i : Int) = 1) = true, 1 ≤ v, v ≤ 32, k.length ≤ 32, 0 ≤ (n75 (nwA v k)) 74 ∧ (n75 (nwA v k)) 74 ≤ 64, 0 ≤ (n75 (stepA (n75 (nwA v k)) [7])) 74 ∧ (n75 (stepA (n75 (nwA v k)) [7])) 74 ≤ 64, 0 ≤ (n75 (stepA (n75 (nwA v k)) [7])) 0 ∧ (n75 (stepA (n75 (nwA v k)) [7])) 0 ≤ 32, 1 ≤ u, u ≤ 32, k.length ≤ 32, Bytes k, Bytes x, (x).length ≤ 70368744177664, 1 ≤ v, v ≤ 32, ([] : List Int).length ≤ 32, Bytes [], Bytes (y ++ d i), ((y ++ d i)).length ≤ 70368744177664, q i = false, (0 : Int) ≤ (i : Int) ∧ (i : Int) < (m : Int), Fits .i64 ((i : Int) + 1)]) := r3_parts4 (by kernel_rfl) (by kernel_rfl) (by kernel_rfl) (by kernel_rfl)
theorem tw_111 (p : Addr) (u v : Int) (k : List Int) (q : Nat → Bool) (d : Nat → List Int) (m i : Nat) (a b : Nat → Int) (x y : List Int) : runC (gA p) 600 206 [.br true, .br false, .br false, .br true, .br true, .br false, .br false, .br false] twBody (twS u v k q d m i) (twB a b x y) twKeep [0, 1, 2, 4] =
    some (.normal, twO u v k q d m ((i : Int) + 1), (twB a (wrA (n75 b) (d i)) x (y ++ d i)).map some, [Fits .i64 (m : Int), decide ((i : Int) < (m : Int)) = true, (0 : Int) ≤ (i : Int) ∧ (i : Int) < (m : Int), Fits .i64 (131072 - (x.length : Int) - (y.length : Int)), Fits .i64 (y.length : Int), Fits .i64 (131072 - (x.length : Int)), Fits .i64 (x.length : Int), Fits .i64 ((d i).length : Int), decide (131072 - (x.length : Int) - (y.length : Int) < ((d i).length : Int)) = false, decide ((i : Int).tmod 2 = 0) = false, 0 ≤ n75 b 74 ∧ n75 b 74 ≤ 64, (d i).length ≤ 140737488355328, (y ++ d i).length * 1 ≤ 2 ^ 47, decide ((i : Int) = 1) = true, 1 ≤ v, v ≤ 32, k.length ≤ 32, 0 ≤ (n75 (nwA v k)) 74 ∧ (n75 (nwA v k)) 74 ≤ 64, 0 ≤ (n75 (stepA (n75 (nwA v k)) [7])) 74 ∧ (n75 (stepA (n75 (nwA v k)) [7])) 74 ≤ 64, 0 ≤ (n75 (stepA (n75 (nwA v k)) [7])) 0 ∧ (n75 (stepA (n75 (nwA v k)) [7])) 0 ≤ 32, 1 ≤ u, u ≤ 32, k.length ≤ 32, Bytes k, Bytes x, (x).length ≤ 70368744177664, 1 ≤ v, v ≤ 32, ([] : List Int).length ≤ 32, Bytes [], Bytes (y ++ d i), ((y ++ d i)).length ≤ 70368744177664, 0 + (n75 (wrA (n75 b) (d i)) 0).toNat ≤ (dgL (n75 (wrA (n75 b) (d i)))).length, 0 + (dSum v [] (allL [] (y ++ d i))).length ≤ (dSum v [] (allL [] (y ++ d i))).length, (n75 (wrA (n75 b) (d i)) 0).toNat ≤ 140737488355328, subI (dgL (n75 (wrA (n75 b) (d i)))) 0 (n75 (wrA (n75 b) (d i)) 0).toNat = subI (dSum v [] (allL [] (y ++ d i))) 0 (dSum v [] (allL [] (y ++ d i))).length, 0 ≤ n75 (wrA (n75 b) (d i)) 74 ∧ n75 (wrA (n75 b) (d i)) 74 ≤ 64, 0 ≤ n75 (wrA (n75 b) (d i)) 0 ∧ n75 (wrA (n75 b) (d i)) 0 ≤ 32, (!true) = false, 0 + (n75 a 0).toNat ≤ (dgL (n75 a)).length, 0 + (dSum u k (allL k x)).length ≤ (dSum u k (allL k x)).length, (n75 a 0).toNat ≤ 140737488355328, subI (dgL (n75 a)) 0 (n75 a 0).toNat = subI (dSum u k (allL k x)) 0 (dSum u k (allL k x)).length, 0 ≤ n75 a 74 ∧ n75 a 74 ≤ 64, 0 ≤ n75 a 0 ∧ n75 a 0 ≤ 32, q i = true, (0 : Int) ≤ (i : Int) ∧ (i : Int) < (m : Int), (!true) = false, Fits .i64 ((i : Int) + 1)]) := r3_parts4 (by kernel_rfl) (by kernel_rfl) (by kernel_rfl) (by kernel_rfl)
theorem tw_long (p : Addr) (u v : Int) (k : List Int) (q : Nat → Bool) (d : Nat → List Int) (m i : Nat) (a b : Nat → Int) (x y : List Int) : runC (gA p) 600 206 [.br true, .br true] twBody (twS u v k q d m i) (twB a b x y) [8] [0, 1, 2, 3] =
    some (.ret, [.bool true], (twB a b x y).map some, [Fits .i64 (m : Int), decide ((i : Int) < (m : Int)) = true, (0 : Int) ≤ (i : Int) ∧ (i : Int) < (m : Int), Fits .i64 (131072 - (x.length : Int) - (y.length : Int)), Fits .i64 (y.length : Int), Fits .i64 (131072 - (x.length : Int)), Fits .i64 (x.length : Int), Fits .i64 ((d i).length : Int), decide (131072 - (x.length : Int) - (y.length : Int) < ((d i).length : Int)) = true]) := r3_parts4 (by kernel_rfl) (by kernel_rfl) (by kernel_rfl) (by kernel_rfl)
theorem tw_end (p : Addr) (u v : Int) (k : List Int) (q : Nat → Bool) (d : Nat → List Int) (m i : Nat) (a b : Nat → Int) (x y : List Int) : runC (gA p) 600 206 [.br false] twBody (twS u v k q d m i) (twB a b x y) twKeep [0, 1, 2, 3] =
    some (.exit 0, twO u v k q d m (i : Int), (twB a b x y).map some, [Fits .i64 (m : Int), decide ((i : Int) < (m : Int)) = false]) := r3_parts4 (by kernel_rfl) (by kernel_rfl) (by kernel_rfl) (by kernel_rfl)
end Go.Proofs.Tryd
