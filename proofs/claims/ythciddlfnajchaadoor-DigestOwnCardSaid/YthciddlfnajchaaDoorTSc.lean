/- Accounts of this seat's functions: lemmas, no statement of their own. No conditions. -/
import Derived.Test.YthciddlfnajchaaDoorTRa
import Derived.Test.YthciddlfnajchaaDoorV5
import Derived.Test.YthciddlfnajchaaDoorTI
namespace Go.Proofs.Tryd
open Go Go.Vx
/-! ### New: errors -/
theorem ne1 (p : Addr) (n : Int) (k : List Int) : runF (g3.gl (eV p)) 400 [.br true] 10 [nilR, .int .i64 n, .roi .u8 k] [] [] = some (.tuple [nilR, eV p], [], [decide (n < 1) = true]) := run_parts (by kernel_rfl) (by kernel_rfl) (by kernel_rfl)
theorem ne2 (p : Addr) (n : Int) (k : List Int) : runF (g3.gl (eV p)) 400 [.br false, .br true] 10 [nilR, .int .i64 n, .roi .u8 k] [] [] = some (.tuple [nilR, eV p], [], [decide (n < 1) = false, decide (32 < n) = true]) := run_parts (by kernel_rfl) (by kernel_rfl) (by kernel_rfl)
theorem ne3 (p : Addr) (n : Int) (k : List Int) : runF (g3.gl (eV p)) 400 [.br false, .br false, .br true] 10 [nilR, .int .i64 n, .roi .u8 k] [] [] = some (.tuple [nilR, eV p], [], [decide (n < 1) = false, decide (32 < n) = false, Fits .i64 (k.length : Int), decide ((32 : Int) < (k.length : Int)) = true]) := run_parts (by kernel_rfl) (by kernel_rfl) (by kernel_rfl)
noncomputable def F10x (p : Addr) (ok : Bool → Bool) : SumF := fun args B => match args with
  | [.raw (.pointer none), .int .i64 n, s] => match roiL s, B with
    | some k, [] => match ok (match s with | .roi _ _ => true | _ => false) with
      | true => some { val := .tuple [.ptr 0 0, .raw .nilIface], new := [dgV nilR (nwA n k)], C := [1 ≤ n, n ≤ 32, k.length ≤ 32] }
      | false => some { val := .tuple [nilR, eV p], C := [n < 1 ∨ 32 < n ∨ 32 < k.length, Fits .i64 (k.length : Int)] }
    | _, _ => none
  | _ => none
theorem acc10x (p : Addr) (ok : Bool → Bool) : Acc (g3.gl (eV p)) 10 (F10x p ok) := by
  intro args B out h hC
  unfold F10x at h
  split at h
  · rename_i n s
    split at h
    · rename_i k hs
      refine FnOk.imp (args' := [nilR, .int .i64 n, .roi .u8 k]) ?_ ⟨DenImp.refl _, DenImp.refl _, roiL_imp hs, trivial⟩
      split at h
      · simp only [Option.some.injEq] at h; subst h
        exact FnOk.gl (fun _ => rfl) (acc10 [nilR, .int .i64 n, .roi .u8 k] [] _ rfl hC)
      · simp only [Option.some.injEq] at h; subst h
        simp only [allC_cons, allC_nil, and_true] at hC
        have hU : CtxU (g3.gl (eV p)) := gl_ok g3_ok fun _ => rfl
        by_cases c1 : n < 1
        · exact FnOk.val (FnOk.pure hU (ne1 p n k) (by simp only [allC_cons, allC_nil, and_true]; exact decide_eq_true c1)) (fun _ _ _ _ h => h)
        by_cases c2 : 32 < n
        · exact FnOk.val (FnOk.pure hU (ne2 p n k) (by simp only [allC_cons, allC_nil, and_true]; exact ⟨decide_eq_false c1, decide_eq_true c2⟩)) (fun _ _ _ _ h => h)
        · exact FnOk.val (FnOk.pure hU (ne3 p n k) (by simp only [allC_cons, allC_nil, and_true]; exact ⟨decide_eq_false c1, decide_eq_false c2, hC.2, decide_eq_true (by omega)⟩)) (fun _ _ _ _ h => h)
    · simp at h
  · simp at h
/-! ### Write of one byte -/
theorem w1_a (v : Int) (a : Nat → Int) : runF g4 900 [.br true, .br false, .br false] 14 [.ptr 0 0, .sl 1 1 0 1 0 1 true] [dgV nilR a, .cells [.int .u8 v]] [] =
    some (.tuple [], [some (dgV nilR (ovA a [v])), some (.cells [.int .u8 v])], [true = true, decide (a 74 = 64) = false, Fits .i64 (kN a [v]), (a 74).toNat + ([v].take (64 - (a 74).toNat)).length ≤ 64, 0 ≤ a 74 ∧ a 74 ≤ ((64 : Nat) : Int) ∧ ((64 : Nat) : Int) ≤ ((64 : Nat) : Int), 0 ≤ kN a [v] ∧ kN a [v] ≤ ((1 : Nat) : Int) ∧ ((1 : Nat) : Int) ≤ ((1 : Nat) : Int), Fits .i64 (a 74 + kN a [v]), Fits .i64 ((1 - (kN a [v]).toNat : Nat) : Int), decide ((0 : Int) < ((1 - (kN a [v]).toNat : Nat) : Int)) = false]) := run_parts (by kernel_rfl) (by kernel_rfl) (by kernel_rfl)
theorem w1_b (v : Int) (a : Nat → Int) : runF g4 900 [.br true, .br true, .br false] 14 [.ptr 0 0, .sl 1 1 0 1 0 1 true] [dgV nilR a, .cells [.int .u8 v]] [] =
    some (.tuple [], [some (dgV nilR (ovA (flA a) [v])), some (.cells [.int .u8 v])], [true = true, decide (a 74 = 64) = true, Fits .i64 (kN (flA a) [v]), (flA a 74).toNat + ([v].take (64 - (flA a 74).toNat)).length ≤ 64, 0 ≤ flA a 74 ∧ flA a 74 ≤ ((64 : Nat) : Int) ∧ ((64 : Nat) : Int) ≤ ((64 : Nat) : Int), 0 ≤ kN (flA a) [v] ∧ kN (flA a) [v] ≤ ((1 : Nat) : Int) ∧ ((1 : Nat) : Int) ≤ ((1 : Nat) : Int), Fits .i64 (flA a 74 + kN (flA a) [v]), Fits .i64 ((1 - (kN (flA a) [v]).toNat : Nat) : Int), decide ((0 : Int) < ((1 - (kN (flA a) [v]).toNat : Nat) : Int)) = false]) := run_parts (by kernel_rfl) (by kernel_rfl) (by kernel_rfl)
noncomputable def F14c : SumF := fun args B => match args, B with
  | [.ptr 0 0, .sl 1 1 0 1 0 1 true], [.cells ms, .cells bs] => match dgAs ms, headK (ms.take 1), numsAs [.u8] bs with
    | some la, .nil, some [v] => some { val := .tuple [], upd := [(0, some (dgV nilR (stepA (atL la) [v]))), (1, some (.cells [.int .u8 v]))], C := [0 ≤ atL la 74 ∧ atL la 74 ≤ 64] }
    | _, _, _ => none
  | _, _ => none
theorem acc14c : Acc g4 14 F14c := by
  intro args B out h hC
  unfold F14c at h
  split at h
  · rename_i ms bs
    split at h
    · rename_i la v ha hr hb
      have hr := head_nil hr
      simp only [Option.some.injEq] at h; subst h
      simp only [allC_cons, allC_nil, and_true] at hC
      refine FnOk.preB (B' := [dgV nilR (atL la), .cells [.int .u8 v]]) ?_ ⟨cells_dg ha hr rfl, cells_nums hb, trivial⟩ (fun j => by
        match j with
        | 0 => rfl
        | 1 => rfl
        | j + 2 => rfl)
      generalize atL la = a at *
      unfold stepA
      by_cases c : a 74 = 64
      · rw [if_pos c]
        exact FnOk.val (C := []) (rd := []) (FnOk.run (new := []) g4_ok (w1_b v a) (by
          have hk : kN (flA a) [v] = 1 := rfl
          have hh : flA a 74 = 0 := rfl
          simp only [allC_cons, allC_nil, and_true, true_and]
          rw [hk, hh]
          exact ⟨decide_eq_true c, fits_of (by decide) (by decide), by simp, ⟨by decide, by decide, by decide⟩, ⟨by decide, by decide, by decide⟩, fits_of (by decide) (by decide), fits_of (by decide) (by decide), by decide⟩) (by simp [upto]) rfl (by simp) (by simp) (fun j hj => by
          match j, hj with
          | 0, _ => rfl
          | 1, _ => rfl)) (fun _ _ _ _ h => h)
      · rw [if_neg c]
        have hk := kN_bd (l := [v]) hC
        have hk1 : kN a [v] = 1 := by
          rcases hk with ⟨h1, _⟩ | ⟨h1, h2⟩
          · rw [h1]; rfl
          · have : (([v] : List Int).length : Int) = 1 := rfl
            omega
        have h5 : ([v].take (64 - (a 74).toNat)).length ≤ 64 - (a 74).toNat := by rw [List.length_take]; exact Nat.min_le_left _ _
        exact FnOk.val (C := []) (rd := []) (FnOk.run (new := []) g4_ok (w1_a v a) (by
          simp only [allC_cons, allC_nil, and_true, true_and]
          rw [hk1]
          exact ⟨decide_eq_false c, fits_of (by decide) (by decide), by omega, ⟨by omega, by omega, by omega⟩, ⟨by decide, by decide, by decide⟩, fits_of (by omega) (by omega), fits_of (by decide) (by decide), by decide⟩) (by simp [upto]) rfl (by simp) (by simp) (fun j hj => by
          match j, hj with
          | 0, _ => rfl
          | 1, _ => rfl)) (fun _ _ _ _ h => h)
    · simp at h
  · simp at h
noncomputable def oneOf (F G : SumF) : SumF := fun args B => match F args B with
  | some o => some o
  | none => G args B
theorem acc_one {g : Ctx} {f : FuncId} {F G : SumF} (hF : Acc g f F) (hG : Acc g f G) : Acc g f (oneOf F G) := by
  intro args B out h hC
  unfold oneOf at h
  split at h
  · rename_i o e
    simp only [Option.some.injEq] at h; subst h
    exact hF _ _ _ e hC
  · exact hG _ _ _ h hC
/-! ### same -/
abbrev smKeep : List Nat := [0, 1, 5]
noncomputable abbrev smBody : Code := bodyAt Tryd.prog 16 4
abbrev smS1 (oa ob n i : Nat) : List (Nat × SV) := smKeep.zip [.sl 0 0 oa 1 0 n false, .sl 1 0 ob 1 0 n false, .int .i64 (i : Int)]
theorem sm1_go (oa ob n i : Nat) (la lb : List Int) : runC g1 200 26 [.br true, .br false] smBody (smS1 oa ob n i) [.ints .u8 la, .ints .u8 lb] smKeep [0, 1] =
    some (.normal, [.sl 0 0 oa 1 0 n false, .sl 1 0 ob 1 0 n false, .int .i64 ((i : Int) + 1)], [some (.ints .u8 la), some (.ints .u8 lb)], [Fits .i64 (n : Int), decide ((i : Int) < (n : Int)) = true, ob + i + 0 < lb.length, (0 : Int) ≤ (i : Int) ∧ (i : Int) < (n : Int), oa + i + 0 < la.length, (0 : Int) ≤ (i : Int) ∧ (i : Int) < (n : Int),
      (!decide (la.getD (oa + i) 0 = lb.getD (ob + i) 0)) = false, Fits .i64 ((i : Int) + 1)]) := by kernel_rfl
theorem sm1_end (oa ob n i : Nat) (la lb : List Int) : runC g1 200 26 [.br false] smBody (smS1 oa ob n i) [.ints .u8 la, .ints .u8 lb] smKeep [0, 1] =
    some (.exit 0, [.sl 0 0 oa 1 0 n false, .sl 1 0 ob 1 0 n false, .int .i64 (i : Int)], [some (.ints .u8 la), some (.ints .u8 lb)], [Fits .i64 (n : Int), decide ((i : Int) < (n : Int)) = false]) := by kernel_rfl
def sm1G : LoopF := fun vals B => match vals, B with
  | [.sl 0 0 oa 1 0 na false, .sl 1 0 ob 1 0 nb false, .int .i64 0], [.ints K la, .ints K2 lb] => match sameK K .u8, sameK K2 .u8 with
    | true, true => some ([], [.ints .u8 la, .ints .u8 lb], [na = nb, oa + na ≤ la.length, ob + nb ≤ lb.length, na ≤ 140737488355328, subI la oa na = subI lb ob nb])
    | _, _ => none
  | _, _ => none
theorem b2 : ∀ j : Nat, j < 2 → ([0, 1] : List Nat)[j]? = some j := fun j hj => by
  match j, hj with
  | 0, _ => rfl
  | 1, _ => rfl
theorem b1 : ∀ j : Nat, j < 1 → ([0] : List Nat)[j]? = some j := fun j hj => by
  match j, hj with
  | 0, _ => rfl
theorem sm1_loop : LoopGood g1 26 (.loop smBody) smKeep 2 (.exit 0) (mkLoopN sm1G) := by
  refine LoopGood.mkN (by decide) fun vals B S' B' C hG hC hlen w0 O hgl => ?_
  clear hlen
  unfold sm1G at hG
  split at hG
  · rename_i oa na ob nb K la K2 lb
    split at hG
    · rename_i hK hK2
      obtain rfl := kidx_inj hK
      obtain rfl := kidx_inj hK2
      simp only [Option.some.injEq, Prod.mk.injEq] at hG
      obtain ⟨rfl, rfl, rfl⟩ := hG
      simp only [allC_cons, allC_nil, and_true] at hC
      obtain ⟨rfl, h1, h2, h3, h4⟩ := hC
      have F1 : Fits .i64 (na : Int) := fits_small h3
      refine SimC.iter (g := g1) (S := smS1 oa ob na) (B := fun _ => [.ints .u8 la, .ints .u8 lb]) (N := na) (fun i hi => ?_) ?_ (by simp) 0 (by omega)
      · have e : la.getD (oa + i) 0 = lb.getD (ob + i) 0 := by rw [← subI_get hi, h4, subI_get hi]
        have c : (!decide (la.getD (oa + i) 0 = lb.getD (ob + i) 0)) = false := by rw [decide_eq_true e]; rfl
        have F2 : Fits .i64 ((i : Int) + 1) := fits_of (by omega) (by omega)
        exact SimC.run (B' := [.ints .u8 la, .ints .u8 lb]) g1_ok (by decide) (sm1_go oa ob na i la lb) (by (simp only [allC_cons, allC_nil, and_true]; repeat' (with_reducible (first | refine And.intro ?_ ?_ | exact True.intro | assumption | omega | exact decide_eq_true (by first | assumption | omega) | exact decide_eq_false (by first | assumption | omega) | rfl | (simp; done))))) (by decide) b2 (by decide) (by simp) hgl
      · exact SimC.weaken (SimC.run (B' := [.ints .u8 la, .ints .u8 lb]) g1_ok (by decide) (sm1_end oa ob na na la lb) (by (simp only [allC_cons, allC_nil, and_true]; repeat' (with_reducible (first | refine And.intro ?_ ?_ | exact True.intro | assumption | omega | exact decide_eq_true (by first | assumption | omega) | exact decide_eq_false (by first | assumption | omega) | rfl | (simp; done))))) (by decide) b2 (by decide) (by simp) hgl) (fun t => .inr (by simp [mkT, tget, Tr.get_lf]))
    · simp at hG
  · simp at hG
theorem sm1_run (oa ob na nb : Nat) (la lb : List Int) : runF g1 200 [.br false, .loop 4 smKeep 2 (.exit 0) (mkLoopN sm1G)] 16 [.sl 0 0 oa 1 0 na false, .sl 1 0 ob 1 0 nb false] [.ints .u8 la, .ints .u8 lb] [] =
    some (.bool true, [some (.ints .u8 la), some (.ints .u8 lb)], [Fits .i64 (nb : Int), Fits .i64 (na : Int), (!decide ((na : Int) = (nb : Int))) = false, LoopGood g1 26 (.loop smBody) smKeep 2 (.exit 0) (mkLoopN sm1G), na = nb, oa + na ≤ la.length, ob + nb ≤ lb.length, na ≤ 140737488355328, subI la oa na = subI lb ob nb]) := by kernel_rfl
abbrev smS2 (oa n : Nat) (lb : List Int) (i : Nat) : List (Nat × SV) := smKeep.zip [.sl 0 0 oa 1 0 n false, .roi .u8 lb, .int .i64 (i : Int)]
theorem sm2_go (oa n i : Nat) (la lb : List Int) : runC g1 200 26 [.br true, .br false] smBody (smS2 oa n lb i) [.ints .u8 la] smKeep [0] =
    some (.normal, [.sl 0 0 oa 1 0 n false, .roi .u8 lb, .int .i64 ((i : Int) + 1)], [some (.ints .u8 la)], [Fits .i64 (n : Int), decide ((i : Int) < (n : Int)) = true, (0 : Int) ≤ (i : Int) ∧ (i : Int) < (lb.length : Int), oa + i + 0 < la.length, (0 : Int) ≤ (i : Int) ∧ (i : Int) < (n : Int),
      (!decide (la.getD (oa + i) 0 = lb.getD i 0)) = false, Fits .i64 ((i : Int) + 1)]) := by kernel_rfl
theorem sm2_end (oa n i : Nat) (la lb : List Int) : runC g1 200 26 [.br false] smBody (smS2 oa n lb i) [.ints .u8 la] smKeep [0] =
    some (.exit 0, [.sl 0 0 oa 1 0 n false, .roi .u8 lb, .int .i64 (i : Int)], [some (.ints .u8 la)], [Fits .i64 (n : Int), decide ((i : Int) < (n : Int)) = false]) := by kernel_rfl
def sm2G : LoopF := fun vals B => match vals, B with
  | [.sl 0 0 oa 1 0 na false, .roi K2 lb, .int .i64 0], [.ints K la] => match sameK K .u8, sameK K2 .u8 with
    | true, true => some ([], [.ints .u8 la], [na = lb.length, oa + na ≤ la.length, na ≤ 140737488355328, subI la oa na = lb])
    | _, _ => none
  | _, _ => none
theorem sm2_loop : LoopGood g1 26 (.loop smBody) smKeep 1 (.exit 0) (mkLoopN sm2G) := by
  refine LoopGood.mkN (by decide) fun vals B S' B' C hG hC hlen w0 O hgl => ?_
  clear hlen
  unfold sm2G at hG
  split at hG
  · rename_i oa na K2 lb K la
    split at hG
    · rename_i hK hK2
      obtain rfl := kidx_inj hK
      obtain rfl := kidx_inj hK2
      simp only [Option.some.injEq, Prod.mk.injEq] at hG
      obtain ⟨rfl, rfl, rfl⟩ := hG
      simp only [allC_cons, allC_nil, and_true] at hC
      obtain ⟨h0, h1, h3, h4⟩ := hC
      have F1 : Fits .i64 (na : Int) := fits_small h3
      refine SimC.iter (g := g1) (S := smS2 oa na lb) (B := fun _ => [.ints .u8 la]) (N := na) (fun i hi => ?_) ?_ (by simp) 0 (by omega)
      · have e : la.getD (oa + i) 0 = lb.getD i 0 := by rw [← subI_get hi, h4]
        have c : (!decide (la.getD (oa + i) 0 = lb.getD i 0)) = false := by rw [decide_eq_true e]; rfl
        have F2 : Fits .i64 ((i : Int) + 1) := fits_of (by omega) (by omega)
        exact SimC.run (B' := [.ints .u8 la]) g1_ok (by decide) (sm2_go oa na i la lb) (by (simp only [allC_cons, allC_nil, and_true]; repeat' (with_reducible (first | refine And.intro ?_ ?_ | exact True.intro | assumption | omega | exact decide_eq_true (by first | assumption | omega) | exact decide_eq_false (by first | assumption | omega) | rfl | (simp; done))))) (by decide) b1 (by decide) (by simp) hgl
      · exact SimC.weaken (SimC.run (B' := [.ints .u8 la]) g1_ok (by decide) (sm2_end oa na na la lb) (by (simp only [allC_cons, allC_nil, and_true]; repeat' (with_reducible (first | refine And.intro ?_ ?_ | exact True.intro | assumption | omega | exact decide_eq_true (by first | assumption | omega) | exact decide_eq_false (by first | assumption | omega) | rfl | (simp; done))))) (by decide) b1 (by decide) (by simp) hgl) (fun t => .inr (by simp [mkT, tget, Tr.get_lf]))
    · simp at hG
  · simp at hG
theorem sm2_run (oa na : Nat) (la lb : List Int) : runF g1 200 [.br false, .loop 4 smKeep 1 (.exit 0) (mkLoopN sm2G)] 16 [.sl 0 0 oa 1 0 na false, .roi .u8 lb] [.ints .u8 la] [] =
    some (.bool true, [some (.ints .u8 la)], [Fits .i64 (lb.length : Int), Fits .i64 (na : Int), (!decide ((na : Int) = (lb.length : Int))) = false, LoopGood g1 26 (.loop smBody) smKeep 1 (.exit 0) (mkLoopN sm2G), na = lb.length, oa + na ≤ la.length, na ≤ 140737488355328, subI la oa na = lb]) := by kernel_rfl
/-- two rows of bytes that are one -/
def F16 : SumF := fun args B => match args, B with
  | [x, .roi K2 lb], [.ints K la] => match sameK K .u8, sameK K2 .u8, vwI 0 la x with
    | true, true, some (oa, na) => some { val := .sbool true, C := [oa + na ≤ la.length, na ≤ 140737488355328, subI la oa na = lb] }
    | _, _, _ => none
  | [x, y], [.ints K la, .ints K2 lb] => match sameK K .u8, sameK K2 .u8, vwI 0 la x, vwI 1 lb y with
    | true, true, some (oa, na), some (ob, nb) => some { val := .sbool true, C := [oa + na ≤ la.length, ob + nb ≤ lb.length, na ≤ 140737488355328, subI la oa na = subI lb ob nb] }
    | _, _, _, _ => none
  | _, _ => none
theorem acc16 : Acc g1 16 F16 := by
  intro args B out h hC
  unfold F16 at h
  split at h
  · rename_i x K2 lb K la
    split at h
    · rename_i oa na hK hK2 hx
      obtain rfl := kidx_inj hK
      obtain rfl := kidx_inj hK2
      simp only [Option.some.injEq] at h; subst h
      simp only [allC_cons, allC_nil, and_true] at hC
      obtain ⟨h1, h3, h4⟩ := hC
      have hn : na = lb.length := by rw [← h4, subI_length h1]
      have F1 : Fits .i64 (na : Int) := fits_small h3
      have F2 : Fits .i64 (lb.length : Int) := fits_small (by omega)
      have hl := sm2_loop
      have c : (!decide ((na : Int) = (lb.length : Int))) = false := by rw [decide_eq_true (by omega)]; rfl
      refine FnOk.argsH (args' := [.sl 0 0 oa 1 0 na false, .roi .u8 lb]) (FnOk.toSb (b := true) (FnOk.run (out := { val := .bool true }) (new := []) g1_ok (sm2_run oa na la lb) (by (simp only [allC_cons, allC_nil, and_true]; repeat' (with_reducible (first | refine And.intro ?_ ?_ | exact True.intro | assumption | omega | exact decide_eq_true (by first | assumption | omega) | exact decide_eq_false (by first | assumption | omega) | rfl | (simp; done))))) (by simp [upto]) rfl (by simp) (by simp) (fun j hj => by match j, hj with | 0, _ => rfl)) rfl) fun w0 O ρ Φ w vs x d => ?_
      simp only [DenT] at d ⊢
      obtain ⟨v1, r1, rfl, d1, v2, r2, rfl, d2, rfl⟩ := d
      exact ⟨_, _, rfl, vwI_den hx x rfl d1, _, _, rfl, d2, rfl⟩
    · simp at h
  · rename_i x y K la K2 lb
    split at h
    · rename_i oa na ob nb hK hK2 hx hy
      obtain rfl := kidx_inj hK
      obtain rfl := kidx_inj hK2
      simp only [Option.some.injEq] at h; subst h
      simp only [allC_cons, allC_nil, and_true] at hC
      obtain ⟨h1, h2, h3, h4⟩ := hC
      have hn : na = nb := by have := congrArg List.length h4; rwa [subI_length h1, subI_length h2] at this
      have F1 : Fits .i64 (na : Int) := fits_small h3
      have F2 : Fits .i64 (nb : Int) := fits_small (by omega)
      have hl := sm1_loop
      have c : (!decide ((na : Int) = (nb : Int))) = false := by rw [decide_eq_true (by omega)]; rfl
      refine FnOk.argsH (args' := [.sl 0 0 oa 1 0 na false, .sl 1 0 ob 1 0 nb false]) (FnOk.toSb (b := true) (FnOk.run (out := { val := .bool true }) (new := []) g1_ok (sm1_run oa ob na nb la lb) (by (simp only [allC_cons, allC_nil, and_true]; repeat' (with_reducible (first | refine And.intro ?_ ?_ | exact True.intro | assumption | omega | exact decide_eq_true (by first | assumption | omega) | exact decide_eq_false (by first | assumption | omega) | rfl | (simp; done))))) (by simp [upto]) rfl (by simp) (by simp) (fun j hj => by match j, hj with | 0, _ => rfl | 1, _ => rfl)) rfl) fun w0 O ρ Φ w vs x d => ?_
      simp only [DenT] at d ⊢
      obtain ⟨v1, r1, rfl, d1, v2, r2, rfl, d2, rfl⟩ := d
      exact ⟨_, _, rfl, vwI_den hx x rfl d1, _, _, rfl, vwI_den hy x rfl d2, rfl⟩
    · simp at h
  · simp at h

noncomputable abbrev gT (p : Addr) (ok : Bool → Bool) : Ctx := (g3.gl (eV p)).add [(10, F10x p ok), (11, F11 ok), (13, F13), (14, oneOf F14 F14c), (15, F15), (16, F16)]
theorem gT_ok (p : Addr) (ok : Bool → Bool) : CtxU (gT p ok) := (gl_ok g3_ok fun _ => rfl).add mixed noGo (by
  intro x hx
  simp only [List.mem_cons, List.not_mem_nil, or_false] at hx
  rcases hx with rfl | rfl | rfl | rfl | rfl | rfl
  · exact acc10x p ok
  · exact Acc.of (g := gd3.gl (eV p)) rfl rfl (Acc.gl (fun _ => rfl) (acc11 ok))
  · exact Acc.of (g := gK p) rfl rfl (acc13 p)
  · exact Acc.of (g := g4.gl (eV p)) rfl rfl (Acc.gl (fun _ => rfl) (acc_one acc14 acc14c))
  · exact Acc.of (g := g4.gl (eV p)) rfl rfl (Acc.gl (fun _ => rfl) acc15)
  · exact Acc.of (g := g1.gl (eV p)) rfl rfl (Acc.gl (fun _ => rfl) acc16))
theorem globT_ok (p : Addr) (ok : Bool → Bool) (W : World) (h : W.cell? ⟨0, 0, none⟩ = some (.iface 120 (.pointer (some p)))) : GlobOk (gT p ok) W (O0 W) := glob_ok p W h
end Go.Proofs.Tryd

namespace Go.Proofs.Tryd
open Go Go.Vx
/-! ### DigestTwo: the loop's runs -/
noncomputable abbrev gA (p : Addr) : Ctx := gT p (fun _ => true)
abbrev twKeep : List Nat := [0, 1, 2, 3, 9, 11, 17, 18, 19]
noncomputable abbrev twBody : Code := bodyAt Tryd.prog 3 14
noncomputable abbrev twO (u v : Int) (k : List Int) (q : Nat → Bool) (d : Nat → List Int) (m : Nat) (i : Int) : List SV := [.int .i64 u, .int .i64 v, .roi .u8 k, .ro 2 m (rowY q d), .ptr 0 0, .ptr 1 0, .own 2, .own 3, .int .i64 i]
noncomputable abbrev twS (u v : Int) (k : List Int) (q : Nat → Bool) (d : Nat → List Int) (m i : Nat) : List (Nat × SV) := twKeep.zip (twO u v k q d m (i : Int))
noncomputable abbrev twB (a b : Nat → Int) (x y : List Int) : List Body := [dgV nilR a, dgV nilR b, .ints .u8 x, .ints .u8 y]
end Go.Proofs.Tryd

namespace Go.Proofs.Tryd
open Go Go.Vx
/-! ### what a Hash holds -/
/-- behind the message T, from the state h0 on -/
structure HT (h0 : Nat → Int) (n : Int) (T : List Int) (a : Nat → Int) : Prop where
  size : a 0 = n
  st : ∀ j, j < 8 → a (1 + j) = slH h0 T (Nx T) j
  cnt : a 9 = ((64 * Nx T : Nat) : Int)
  held : a 74 = ((T.length - 64 * Nx T : Nat) : Int)
  blk : ∀ j, j < T.length - 64 * Nx T → a (10 + j) = T.getD (64 * Nx T + j) 0
theorem Nx_le (T : List Int) : 64 * Nx T ≤ T.length ∧ T.length - 64 * Nx T ≤ 64 ∧ (0 < T.length → 0 < T.length - 64 * Nx T) := by
  simp only [Nx]; omega
theorem getD_app {T l : List Int} {i : Nat} (h : i < T.length) : (T ++ l).getD i 0 = T.getD i 0 := by
  rw [List.getD_eq_getElem?_getD, List.getElem?_append_left h, ← List.getD_eq_getElem?_getD]
theorem getD_app2 {T l : List Int} {i : Nat} (h : T.length ≤ i) : (T ++ l).getD i 0 = l.getD (i - T.length) 0 := by
  rw [List.getD_eq_getElem?_getD, List.getElem?_append_right h, ← List.getD_eq_getElem?_getD]
theorem blkF_app {T l : List Int} {j n : Nat} (h : j + n ≤ T.length) (t : Nat) : blkF (T ++ l) j n t = blkF T j n t := by
  unfold blkF
  by_cases c : t < n
  · rw [if_pos c, if_pos c, getD_app (by omega)]
  · rw [if_neg c, if_neg c]
theorem n8_at {h : Nat → Int} {i : Nat} (hi : i < 8) : n8 h i = h i := atLF hi
theorem slH_app {h0 : Nat → Int} {T l : List Int} : ∀ i, 64 * i ≤ T.length → ∀ j, j < 8 → slH h0 (T ++ l) i j = slH h0 T i j
  | 0, _, _, _ => rfl
  | i + 1, h, j, hj => by
    have ih := slH_app (h0 := h0) (T := T) (l := l) i (by omega)
    show prS (n8 (slH h0 (T ++ l) i)) (blkF (T ++ l) (64 * i) 64) ((64 * (i + 1) : Nat) : Int) 0 j = prS (n8 (slH h0 T i)) (blkF T (64 * i) 64) ((64 * (i + 1) : Nat) : Int) 0 j
    exact prS_congr (fun t ht => by rw [n8_at ht, n8_at ht]; exact ih t ht) (fun t _ => blkF_app (by omega) t) _ _ j hj
theorem uadd64 {x : Nat} {y : Nat} (h : x + y < 18446744073709551616) : uadd .u64 (x : Int) (y : Int) = ((x + y : Nat) : Int) := by
  unfold uadd
  rw [show modulus .u64 = 18446744073709551616 from rfl, Int.toNat_natCast, Int.toNat_natCast, Nat.mod_eq_of_lt h]; rfl
theorem ovA_lt (a : Nat → Int) (l : List Int) {j : Nat} (h : j < 10) : ovA a l j = a j := by
  unfold ovA
  rw [show Nat.ble 10 j = false by rw [← Bool.not_eq_true]; intro c; have := Nat.le_of_ble_eq_true c; omega]
  simp only [Bool.false_and, cond_false]
  rw [show Nat.beq j 74 = false by rw [← Bool.not_eq_true]; intro c; have := Nat.eq_of_beq_eq_true c; omega]
  rfl
theorem ovA_blk (a : Nat → Int) (l : List Int) {j : Nat} (h : j < 64) : ovA a l (10 + j) = if (a 74).toNat ≤ j ∧ j < (a 74).toNat + (l.take (64 - (a 74).toNat)).length then (l.take (64 - (a 74).toNat)).getD (j - (a 74).toNat) 0 else a (10 + j) := by
  unfold ovA
  rw [show Nat.ble 10 (10 + j) = true from Nat.ble_eq_true_of_le (by omega), show Nat.blt (10 + j) 74 = true from Nat.ble_eq_true_of_le (by omega)]
  simp only [Bool.and_true, cond_true]
  rw [show 10 + j - 10 = j by omega]
/-- a piece that fits, behind less than a block -/
theorem HT_ov {h0 : Nat → Int} {n : Int} {T l : List Int} {a : Nat → Int} (hN : ∃ N, a 0 = n ∧ (∀ j, j < 8 → a (1 + j) = slH h0 T N j) ∧ a 9 = ((64 * N : Nat) : Int) ∧ a 74 = ((T.length - 64 * N : Nat) : Int) ∧ (∀ j, j < T.length - 64 * N → a (10 + j) = T.getD (64 * N + j) 0) ∧ 64 * N ≤ T.length ∧ T.length < 64 * N + 64) (hl : l ≠ []) :
    HT h0 n (T ++ l.take (kN a l).toNat) (ovA a l) ∧ l1 a l = l.drop (kN a l).toNat := by
  obtain ⟨N, h1, h2, h3, h4, h5, h6, h7⟩ := hN
  have hl0 : 0 < l.length := List.length_pos_iff.2 hl
  obtain ⟨e, he⟩ : ∃ e, T.length - 64 * N = e := ⟨_, rfl⟩
  have ha : (a 74).toNat = e := by rw [h4, he]; omega
  have hk : (kN a l).toNat = min l.length (64 - e) := by simp only [kN, ha]; omega
  have hlt : (l.take (64 - e)).length = min l.length (64 - e) := by rw [List.length_take]; omega
  have hT : (T ++ l.take (kN a l).toNat).length = T.length + min l.length (64 - e) := by rw [List.length_append, List.length_take, hk]; omega
  have hNx : Nx (T ++ l.take (kN a l).toNat) = N := by
    simp only [Nx]; rw [hT]; omega
  refine ⟨⟨by rw [ovA_lt a l (by omega), h1], fun j hj => ?_, ?_, ?_, fun j hj => ?_⟩, ?_⟩
  · rw [ovA_lt a l (by omega), hNx, h2 j hj, slH_app N h6 j hj]
  · rw [ovA_lt a l (by omega), hNx, h3]
  · rw [ovA_held, hNx, hT, h4, he]
    simp only [kN, ha]; omega
  · rw [hNx, hT] at hj
    rw [hNx, ovA_blk a l (by omega), ha, hlt]
    by_cases c : j < e
    · rw [if_neg (by omega), h5 j (by omega), getD_app (by omega)]
    · rw [if_pos ⟨by omega, by omega⟩, getD_app2 (by omega), hk, show 64 * N + j - T.length = j - e by omega]
      congr 1
      rcases Nat.le_total l.length (64 - e) with q | q
      · rw [Nat.min_eq_left q, List.take_of_length_le q, List.take_of_length_le (Nat.le_refl _)]
      · rw [Nat.min_eq_right q]
  · show (l.drop (kN a l).toNat).take (l.length - (kN a l).toNat) = _
    rw [List.take_of_length_le (by rw [List.length_drop]; omega)]
theorem n75c {a : Nat → Int} {j : Nat} (hj : j < 75) (h9 : j ≠ 9) : n75 (cntA a) j = a j := by
  rw [n75_at hj]
  unfold cntA
  rw [show Nat.beq j 9 = false by rw [← Bool.not_eq_true]; intro c; exact h9 (Nat.eq_of_beq_eq_true c)]; rfl
theorem flA_hi {a : Nat → Int} {j : Nat} (h0 : 9 ≤ j) (h1 : j < 74) : flA a j = n75 (cntA a) j := by
  unfold flA heldA setS
  rw [show Nat.beq j 74 = false by rw [← Bool.not_eq_true]; intro c; have := Nat.eq_of_beq_eq_true c; omega, show Nat.blt j 9 = false by rw [← Bool.not_eq_true]; intro c; have := Nat.le_of_ble_eq_true c; omega]
  simp only [Bool.and_false, cond_false]
theorem flA_st {a : Nat → Int} {j : Nat} (hj : j < 8) : flA a (1 + j) = prS (stA (n75 (cntA a))) (bkA (n75 (cntA a))) (uadd .u64 (a 9) 64) 0 j := by
  unfold flA heldA setS
  rw [show Nat.beq (1 + j) 74 = false by rw [← Bool.not_eq_true]; intro c; have := Nat.eq_of_beq_eq_true c; omega, show Nat.ble 1 (1 + j) = true from Nat.ble_eq_true_of_le (by omega), show Nat.blt (1 + j) 9 = true from Nat.ble_eq_true_of_le (by omega)]
  simp only [Bool.and_true, cond_true, cond_false]
  rw [show 1 + j - 1 = j by omega]
theorem HT_step {h0 : Nat → Int} {n : Int} {T l : List Int} {a : Nat → Int} (h : HT h0 n T a) (hl : l ≠ []) (hb : T.length < 1000000000000000) : ∃ k, 0 < k ∧ k ≤ l.length ∧ HT h0 n (T ++ l.take k) (stepA a l) ∧ stepL a l = l.drop k := by
  have hl0 : 0 < l.length := List.length_pos_iff.2 hl
  obtain ⟨q1, q2, q3⟩ := Nx_le T
  unfold stepA stepL
  by_cases c : a 74 = 64
  · rw [if_pos c]
    have hlen : T.length = 64 * Nx T + 64 := by have := h.held; omega
    have r := HT_ov (h0 := h0) (n := n) (T := T) (l := l) (a := flA a) ⟨Nx T + 1, by rw [flA_size, h.size], fun j hj => ?_, ?_, ?_, fun j hj => absurd hj (by omega), by omega, by omega⟩ hl
    · refine ⟨(kN (flA a) l).toNat, ?_, ?_, r.1, r.2⟩ <;> simp only [kN, flA_held] <;> omega
    · rw [flA_st hj]
      show _ = prS (n8 (slH h0 T (Nx T))) (blkF T (64 * Nx T) 64) ((64 * (Nx T + 1) : Nat) : Int) 0 j
      have e9 : uadd .u64 (a 9) 64 = ((64 * (Nx T + 1) : Nat) : Int) := by
        rw [h.cnt, show (64 : Int) = ((64 : Nat) : Int) from rfl, uadd64 (by omega)]; congr 1
      rw [e9]
      refine prS_congr (fun t ht => ?_) (fun t ht => ?_) _ _ j hj
      · rw [n8_at ht]
        show n75 (cntA a) (1 + t) = _
        rw [n75c (by omega) (by omega), h.st t ht]
      · show n75 (cntA a) (10 + t) = _
        rw [n75c (by omega) (by omega), h.blk t (by omega)]
        unfold blkF; rw [if_pos ht]
    · rw [flA_hi (by omega) (by omega), n75_at (by omega)]
      show uadd .u64 (a 9) 64 = _
      rw [h.cnt, show (64 : Int) = ((64 : Nat) : Int) from rfl, uadd64 (by omega)]; congr 1
    · rw [flA_held]; omega
  · rw [if_neg c]
    have hh := h.held
    have r := HT_ov (h0 := h0) (n := n) (T := T) (l := l) (a := a) ⟨Nx T, h.size, h.st, h.cnt, h.held, h.blk, q1, by omega⟩ hl
    have ha : (a 74).toNat = T.length - 64 * Nx T := by rw [hh]; omega
    refine ⟨(kN a l).toNat, ?_, ?_, r.1, r.2⟩ <;> simp only [kN, ha] <;> omega
theorem HT_wrF {h0 : Nat → Int} {n : Int} : ∀ (f : Nat) (T l : List Int) (a : Nat → Int), HT h0 n T a → l.length ≤ f → T.length + l.length < 1000000000000000 → HT h0 n (T ++ l) (wrF f a l)
  | 0, T, l, a, h, hf, _ => by
    obtain rfl : l = [] := List.length_eq_zero_iff.1 (by omega)
    rw [List.append_nil]; exact h
  | f + 1, T, l, a, h, hf, hb => by
    simp only [wrF]
    by_cases c : l = []
    · rw [if_pos c, c, List.append_nil]; exact h
    · rw [if_neg c]
      obtain ⟨k, k1, k2, h2, e⟩ := HT_step h c (by omega)
      rw [e]
      have r := HT_wrF f (T ++ l.take k) (l.drop k) (stepA a l) h2 (by rw [List.length_drop]; omega) (by rw [List.length_append, List.length_take, List.length_drop]; omega)
      rw [List.append_assoc, List.take_append_drop] at r
      exact r
theorem HT_write {h0 : Nat → Int} {n : Int} {T l : List Int} {a : Nat → Int} (h : HT h0 n T a) (hb : T.length + l.length < 1000000000000000) : HT h0 n (T ++ l) (wrA a l) := HT_wrF _ _ _ _ h (Nat.le_refl _) hb
theorem HT_75 {h0 : Nat → Int} {n : Int} {T : List Int} {a : Nat → Int} (h : HT h0 n T a) : HT h0 n T (n75 a) := by
  have q := Nx_le T
  exact ⟨by rw [n75_at (by omega)]; exact h.size, fun j hj => by rw [n75_at (by omega)]; exact h.st j hj, by rw [n75_at (by omega)]; exact h.cnt, by rw [n75_at (by omega)]; exact h.held, fun j hj => by rw [n75_at (by omega)]; exact h.blk j hj⟩
theorem HT_ok {h0 : Nat → Int} {n : Int} {T : List Int} {a : Nat → Int} (h : HT h0 n T a) (h1 : 1 ≤ n) (h2 : n ≤ 32) : OkA a := by
  have q := Nx_le T
  exact ⟨by rw [h.held]; omega, by rw [h.size]; omega⟩
/-! ### the digest -/
theorem listF_take (f : Nat → Int) : ∀ (m n i : Nat), m ≤ n → (listF n f i).take m = listF m f i
  | 0, n, i, _ => by simp [listF]
  | m + 1, 0, i, h => absurd h (by omega)
  | m + 1, n + 1, i, h => by
    show (f i :: listF n f (i + 1)).take (m + 1) = f i :: listF m f (i + 1)
    rw [List.take_succ_cons, listF_take f m n (i + 1) (by omega)]
noncomputable abbrev digT (h0 : Nat → Int) (n : Int) (T : List Int) : List Int := listF n.toNat (dgB (n8 (prS (n8 (slH h0 T (Nx T))) (blkF T (64 * Nx T) (T.length - 64 * Nx T)) (T.length : Int) 4294967295))) 0
theorem HT_dg {h0 : Nat → Int} {n : Int} {T : List Int} {a : Nat → Int} (h : HT h0 n T a) (h1 : 0 ≤ n) (h2 : n ≤ 32) (hb : T.length < 1000000000000000) : dgL a = digT h0 n T := by
  obtain ⟨q1, q2, q3⟩ := Nx_le T
  unfold dgL
  rw [h.size, listF_take _ _ _ _ (by omega)]
  refine listF_eq0.2 fun j hj => ?_
  unfold dgB
  rw [n8_at (by omega)]
  congr 2
  have ha : (a 74).toNat = T.length - 64 * Nx T := by rw [h.held]; omega
  have ec : uadd .u64 (a 9) (scut .u64 (a 74)) = (T.length : Int) := by
    have es : scut .u64 (a 74) = ((T.length - 64 * Nx T : Nat) : Int) := by
      unfold scut
      rw [h.held, show modulus .u64 = 18446744073709551616 from rfl]
      omega
    rw [es, h.cnt, uadd64 (by omega)]; congr 1; omega
  unfold smS
  rw [ec]
  refine prS_congr (fun t ht => by rw [n8_at ht]; exact h.st t ht) (fun t ht => ?_) _ _ _ (by omega)
  have e1 : atL (listF 64 (clB a) 0) t = clB a t := atLF ht
  rw [e1]
  unfold clB blkF
  rw [ha, List.length_replicate]
  by_cases c : t < T.length - 64 * Nx T
  · rw [if_neg (by omega), if_pos c, h.blk t c]
  · rw [if_pos ⟨by omega, by omega⟩, if_neg c, List.getD_eq_getElem?_getD, List.getElem?_replicate]
    split <;> rfl
/-! ### a new Hash -/
theorem HT_new {n : Int} {k : List Int} (h1 : 1 ≤ n) (h2 : n ≤ 32) (h3 : k.length ≤ 32) : HT (atL (dH0 n k)) n (allL k []) (nwA n k) := by
  have hT : (allL k []).length = if 0 < k.length then 64 else 0 := by
    unfold allL
    by_cases c : 0 < k.length
    · rw [if_pos c, if_pos c, List.append_nil, padL, pad_len]; omega
    · rw [if_neg c, if_neg c]; rfl
  have hN : Nx (allL k []) = 0 := by
    simp only [Nx]; rw [hT]; split <;> rfl
  have e0 : hd0 n k = uxor 1779033703 (16842752 + 256 * (k.length : Int) + n) := by
    unfold hd0
    congr 1
    obtain ⟨n, rfl⟩ := Int.eq_ofNat_of_zero_le (show 0 ≤ n by omega)
    have s1 : ∀ x : Nat, x < 4294967296 → scut .u32 (x : Int) = (x : Int) := fun x hx => by unfold scut; rw [m32]; omega
    have s2 : umul .u32 256 (k.length : Int) = ((256 * k.length : Nat) : Int) := by
      unfold umul
      rw [m32, Int.toNat_natCast, show ((256 : Int).toNat) = 256 from rfl, Nat.mod_eq_of_lt (by omega)]; rfl
    have s3 : ∀ x y : Nat, x + y < 4294967296 → uadd .u32 (x : Int) (y : Int) = ((x + y : Nat) : Int) := fun x y h => by
      unfold uadd
      rw [m32, Int.toNat_natCast, Int.toNat_natCast, Nat.mod_eq_of_lt h]; rfl
    rw [s1 _ (by omega), s1 _ (by omega), s2, show (16842752 : Int) = ((16842752 : Nat) : Int) from rfl, s3 _ _ (by omega), s3 _ _ (by omega)]
    omega
  refine ⟨rfl, fun j hj => ?_, ?_, ?_, fun j hj => ?_⟩
  · rw [hN]
    show nwA n k (1 + j) = atL (dH0 n k) j
    match j, hj with
    | 0, _ => exact e0
    | 1, _ => rfl
    | 2, _ => rfl
    | 3, _ => rfl
    | 4, _ => rfl
    | 5, _ => rfl
    | 6, _ => rfl
    | 7, _ => rfl
  · rw [hN]; rfl
  · rw [hN, hT]
    show (if 0 < k.length then 64 else 0 : Int) = _
    split <;> rfl
  · rw [hN, Nat.mul_zero, Nat.sub_zero] at hj
    rw [hN, Nat.mul_zero, Nat.zero_add]
    have hj64 : j < 64 := by rw [hT] at hj; split at hj <;> omega
    have ck : 0 < k.length := by
      apply Nat.pos_of_ne_zero; intro c
      rw [hT, if_neg (by omega)] at hj; omega
    have e1 : nwA n k (10 + j) = blk0 k j := by
      show (n :: hd0 n k :: (ivL.drop 1 ++ 0 :: (listF 64 (blk0 k) 0 ++ [if 0 < k.length then 64 else 0]))).getD (10 + j) 0 = _
      have : (n :: hd0 n k :: (ivL.drop 1 ++ 0 :: (listF 64 (blk0 k) 0 ++ [if 0 < k.length then (64 : Int) else 0]))).getD (10 + j) 0 = (listF 64 (blk0 k) 0 ++ [if 0 < k.length then (64 : Int) else 0]).getD j 0 := by
        rw [show 10 + j = j + 10 by omega]; rfl
      rw [this, getD_app (by rw [listF_length]; exact hj64)]
      exact atLF hj64
    rw [e1]
    unfold allL blk0
    rw [if_pos ck, List.append_nil, List.take_of_length_le (by omega)]
    by_cases c : j < k.length
    · rw [if_pos ⟨by omega, by omega⟩, getD_app c]
    · rw [if_neg (by omega), getD_app2 (by omega), List.getD_eq_getElem?_getD, List.getElem?_replicate]
      split <;> rfl
theorem allL_app (k x d : List Int) : allL k (x ++ d) = allL k x ++ d := by
  unfold allL; split
  · rw [← List.append_assoc]
  · rfl
theorem allL_len (k x : List Int) (h : k.length ≤ 32) : (allL k x).length ≤ 64 + x.length := by
  unfold allL; split
  · rw [List.length_append, padL, pad_len]; omega
  · omega
/-- a Hash of size n and key k behind the message x -/
abbrev HS (n : Int) (k x : List Int) (a : Nat → Int) : Prop := HT (atL (dH0 n k)) n (allL k x) a
theorem HS_write {n : Int} {k x d : List Int} {a : Nat → Int} (h : HS n k x a) (hk : k.length ≤ 32) (hb : x.length + d.length ≤ 1000000000000) : HS n k (x ++ d) (wrA a d) := by
  have := allL_len k x hk
  have r := HT_write (l := d) h (by omega)
  rw [← allL_app] at r; exact r
theorem HS_dg {n : Int} {k x : List Int} {a : Nat → Int} (h : HS n k x a) (hk : k.length ≤ 32) (h1 : 0 ≤ n) (h2 : n ≤ 32) (hb : x.length ≤ 1000000000000) : dgL a = dSum n k (allL k x) := by
  have := allL_len k x hk
  exact HT_dg h h1 h2 (by omega)
end Go.Proofs.Tryd
