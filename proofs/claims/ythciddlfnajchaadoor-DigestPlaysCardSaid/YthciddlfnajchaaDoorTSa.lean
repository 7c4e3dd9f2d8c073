/- Accounts of this seat's functions: lemmas, no statement of their own. No conditions. -/
import Derived.Test.YthciddlfnajchaaDoorTRa
import Derived.Test.YthciddlfnajchaaDoorV5
import Derived.Test.YthciddlfnajchaaDoorTI
namespace Go.Proofs.Tryd
open Go Go.Vx
/-! ### New: errors -/
theorem ne1 (p : Addr) (n : Int) (k : List Int) : runF (g3.gl (eV p)) 400 [.br true] 10 [nilR, .int .i64 n, .roi .u8 k] [] [] = some (.tuple [nilR, eV p], [], [decide (n < 1) = true]) := run_parts (by kernel_rfl) (by kernel_rfl) (by kernel_rfl)
theorem ne2 (p : Addr) (n : Int) (k : List Int) : runF (g3.gl (eV p)) 400 [.br false, .br true] 10 [nilR, .int .i64 n, .roi .u8 k] [] [] = some (.tuple [nilR, eV p], [], [decide (n < 1) = false, decide (32 < n) = true]) := run_parts (by kernel_rfl) (by kernel_rfl) (by kernel_rfl)
theorem ne3 (p : Addr) (n : Int) (k : List Int) : runF (g3.gl (eV p)) 400 [.br false, .br false, .br true] 10 [nilR, .int .i64 n, .roi .u8 k] [] [] = some (.tuple [nilR, eV p], [], [decide (n < 1) = false, decide (32 < n) = false, Fits .i64 (k.length : Int), decide ((32 : Int) < (k.length : Int)) = true]) := run_parts (by kernel_rfl) (by kernel_rfl) (by kernel_rfl)
noncomputable def F10x (p : Addr) (ok : Bool → Bool) : SumF := fun args B => match args with
  | [.raw (.pointer none), .int .i64 n, s] => match roiL s, B with
    | some k, [] => match ok (match s with | .roi _ _ => true | _ => false) with
      | true => some { val := .tuple [.ptr 0 0, .raw .nilIface], new := [dgV nilR (nwA n k)], C := [1 ≤ n, n ≤ 32, k.length ≤ 32] }
      | false => some { val := .tuple [nilR, eV p], C := [n < 1 ∨ 32 < n ∨ 32 < k.length, Fits .i64 (k.length : Int)] }
    | _, _ => none
  | _ => none
theorem acc10x (p : Addr) (ok : Bool → Bool) : Acc (g3.gl (eV p)) 10 (F10x p ok) := by
  intro args B out h hC
  unfold F10x at h
  split at h
  · rename_i n s
    split at h
    · rename_i k hs
      refine FnOk.imp (args' := [nilR, .int .i64 n, .roi .u8 k]) ?_ ⟨DenImp.refl _, DenImp.refl _, roiL_imp hs, trivial⟩
      split at h
      · simp only [Option.some.injEq] at h; subst h
        exact FnOk.gl (fun _ => rfl) (acc10 [nilR, .int .i64 n, .roi .u8 k] [] _ rfl hC)
      · simp only [Option.some.injEq] at h; subst h
        simp only [allC_cons, allC_nil, and_true] at hC
        have hU : CtxU (g3.gl (eV p)) := gl_ok g3_ok fun _ => rfl
        by_cases c1 : n < 1
        · exact FnOk.val (FnOk.pure hU (ne1 p n k) (by simp only [allC_cons, allC_nil, and_true]; exact decide_eq_true c1)) (fun _ _ _ _ h => h)
        by_cases c2 : 32 < n
        · exact FnOk.val (FnOk.pure hU (ne2 p n k) (by simp only [allC_cons, allC_nil, and_true]; exact ⟨decide_eq_false c1, decide_eq_true c2⟩)) (fun _ _ _ _ h => h)
        · exact FnOk.val (FnOk.pure hU (ne3 p n k) (by simp only [allC_cons, allC_nil, and_true]; exact ⟨decide_eq_false c1, decide_eq_false c2, hC.2, decide_eq_true (by omega)⟩)) (fun _ _ _ _ h => h)
    · simp at h
  · simp at h
/-! ### Write of one byte -/
theorem w1_a (v : Int) (a : Nat → Int) : runF g4 900 [.br true, .br false, .br false] 14 [.ptr 0 0, .sl 1 1 0 1 0 1 true] [dgV nilR a, .cells [.int .u8 v]] [] =
    some (.tuple [], [some (dgV nilR (ovA a [v])), some (.cells [.int .u8 v])], [true = true, decide (a 74 = 64) = false, Fits .i64 (kN a [v]), (a 74).toNat + ([v].take (64 - (a 74).toNat)).length ≤ 64, 0 ≤ a 74 ∧ a 74 ≤ ((64 : Nat) : Int) ∧ ((64 : Nat) : Int) ≤ ((64 : Nat) : Int), 0 ≤ kN a [v] ∧ kN a [v] ≤ ((1 : Nat) : Int) ∧ ((1 : Nat) : Int) ≤ ((1 : Nat) : Int), Fits .i64 (a 74 + kN a [v]), Fits .i64 ((1 - (kN a [v]).toNat : Nat) : Int), decide ((0 : Int) < ((1 - (kN a [v]).toNat : Nat) : Int)) = false]) := run_parts (by kernel_rfl) (by kernel_rfl) (by kernel_rfl)
theorem w1_b (v : Int) (a : Nat → Int) : runF g4 900 [.br true, .br true, .br false] 14 [.ptr 0 0, .sl 1 1 0 1 0 1 true] [dgV nilR a, .cells [.int .u8 v]] [] =
    some (.tuple [], [some (dgV nilR (ovA (flA a) [v])), some (.cells [.int .u8 v])], [true = true, decide (a 74 = 64) = true, Fits .i64 (kN (flA a) [v]), (flA a 74).toNat + ([v].take (64 - (flA a 74).toNat)).length ≤ 64, 0 ≤ flA a 74 ∧ flA a 74 ≤ ((64 : Nat) : Int) ∧ ((64 : Nat) : Int) ≤ ((64 : Nat) : Int), 0 ≤ kN (flA a) [v] ∧ kN (flA a) [v] ≤ ((1 : Nat) : Int) ∧ ((1 : Nat) : Int) ≤ ((1 : Nat) : Int), Fits .i64 (flA a 74 + kN (flA a) [v]), Fits .i64 ((1 - (kN (flA a) [v]).toNat : Nat) : Int), decide ((0 : Int) < ((1 - (kN (flA a) [v]).toNat : Nat) : Int)) = false]) := run_parts (by kernel_rfl) (by kernel_rfl) (by kernel_rfl)
noncomputable def F14c : SumF := fun args B => match args, B with
  | [.ptr 0 0, .sl 1 1 0 1 0 1 true], [.cells ms, .cells bs] => match dgAs ms, headK (ms.take 1), numsAs [.u8] bs with
    | some la, .nil, some [v] => some { val := .tuple [], upd := [(0, some (dgV nilR (stepA (atL la) [v]))), (1, some (.cells [.int .u8 v]))], C := [0 ≤ atL la 74 ∧ atL la 74 ≤ 64] }
    | _, _, _ => none
  | _, _ => none
theorem acc14c : Acc g4 14 F14c := by
  intro args B out h hC
  unfold F14c at h
  split at h
  · rename_i ms bs
    split at h
    · rename_i la v ha hr hb
      have hr := head_nil hr
      simp only [Option.some.injEq] at h; subst h
      simp only [allC_cons, allC_nil, and_true] at hC
      refine FnOk.preB (B' := [dgV nilR (atL la), .cells [.int .u8 v]]) ?_ ⟨cells_dg ha hr rfl, cells_nums hb, trivial⟩ (fun j => by
        match j with
        | 0 => rfl
        | 1 => rfl
        | j + 2 => rfl)
      generalize atL la = a at *
      unfold stepA
      by_cases c : a 74 = 64
      · rw [if_pos c]
        exact FnOk.val (C := []) (rd := []) (FnOk.run (new := []) g4_ok (w1_b v a) (by
          have hk : kN (flA a) [v] = 1 := rfl
          have hh : flA a 74 = 0 := rfl
          simp only [allC_cons, allC_nil, and_true, true_and]
          rw [hk, hh]
          exact ⟨decide_eq_true c, fits_of (by decide) (by decide), by simp, ⟨by decide, by decide, by decide⟩, ⟨by decide, by decide, by decide⟩, fits_of (by decide) (by decide), fits_of (by decide) (by decide), by decide⟩) (by simp [upto]) rfl (by simp) (by simp) (fun j hj => by
          match j, hj with
          | 0, _ => rfl
          | 1, _ => rfl)) (fun _ _ _ _ h => h)
      · rw [if_neg c]
        have hk := kN_bd (l := [v]) hC
        have hk1 : kN a [v] = 1 := by
          rcases hk with ⟨h1, _⟩ | ⟨h1, h2⟩
          · rw [h1]; rfl
          · have : (([v] : List Int).length : Int) = 1 := rfl
            omega
        have h5 : ([v].take (64 - (a 74).toNat)).length ≤ 64 - (a 74).toNat := by rw [List.length_take]; exact Nat.min_le_left _ _
        exact FnOk.val (C := []) (rd := []) (FnOk.run (new := []) g4_ok (w1_a v a) (by
          simp only [allC_cons, allC_nil, and_true, true_and]
          rw [hk1]
          exact ⟨decide_eq_false c, fits_of (by decide) (by decide), by omega, ⟨by omega, by omega, by omega⟩, ⟨by decide, by decide, by decide⟩, fits_of (by omega) (by omega), fits_of (by decide) (by decide), by decide⟩) (by simp [upto]) rfl (by simp) (by simp) (fun j hj => by
          match j, hj with
          | 0, _ => rfl
          | 1, _ => rfl)) (fun _ _ _ _ h => h)
    · simp at h
  · simp at h
noncomputable def oneOf (F G : SumF) : SumF := fun args B => match F args B with
  | some o => some o
  | none => G args B
theorem acc_one {g : Ctx} {f : FuncId} {F G : SumF} (hF : Acc g f F) (hG : Acc g f G) : Acc g f (oneOf F G) := by
  intro args B out h hC
  unfold oneOf at h
  split at h
  · rename_i o e
    simp only [Option.some.injEq] at h; subst h
    exact hF _ _ _ e hC
  · exact hG _ _ _ h hC
/-! ### same -/
abbrev smKeep : List Nat := [0, 1, 5]
noncomputable abbrev smBody : Code := bodyAt Tryd.prog 16 4
abbrev smS1 (oa ob n i : Nat) : List (Nat × SV) := smKeep.zip [.sl 0 0 oa 1 0 n false, .sl 1 0 ob 1 0 n false, .int .i64 (i : Int)]
theorem sm1_go (oa ob n i : Nat) (la lb : List Int) : runC g1 200 26 [.br true, .br false] smBody (smS1 oa ob n i) [.ints .u8 la, .ints .u8 lb] smKeep [0, 1] =
    some (.normal, [.sl 0 0 oa 1 0 n false, .sl 1 0 ob 1 0 n false, .int .i64 ((i : Int) + 1)], [some (.ints .u8 la), some (.ints .u8 lb)], [Fits .i64 (n : Int), decide ((i : Int) < (n : Int)) = true, ob + i + 0 < lb.length, (0 : Int) ≤ (i : Int) ∧ (i : Int) < (n : Int), oa + i + 0 < la.length, (0 : Int) ≤ (i : Int) ∧ (i : Int) < (n : Int),
      (!decide (la.getD (oa + i) 0 = lb.getD (ob + i) 0)) = false, Fits .i64 ((i : Int) + 1)]) := by kernel_rfl
theorem sm1_end (oa ob n i : Nat) (la lb : List Int) : runC g1 200 26 [.br false] smBody (smS1 oa ob n i) [.ints .u8 la, .ints .u8 lb] smKeep [0, 1] =
    some (.exit 0, [.sl 0 0 oa 1 0 n false, .sl 1 0 ob 1 0 n false, .int .i64 (i : Int)], [some (.ints .u8 la), some (.ints .u8 lb)], [Fits .i64 (n : Int), decide ((i : Int) < (n : Int)) = false]) := by kernel_rfl
def sm1G : LoopF := fun vals B => match vals, B with
  | [.sl 0 0 oa 1 0 na false, .sl 1 0 ob 1 0 nb false, .int .i64 0], [.ints K la, .ints K2 lb] => match sameK K .u8, sameK K2 .u8 with
    | true, true => some ([], [.ints .u8 la, .ints .u8 lb], [na = nb, oa + na ≤ la.length, ob + nb ≤ lb.length, na ≤ 140737488355328, subI la oa na = subI lb ob nb])
    | _, _ => none
  | _, _ => none
theorem b2 : ∀ j : Nat, j < 2 → ([0, 1] : List Nat)[j]? = some j := fun j hj => by
  match j, hj with
  | 0, _ => rfl
  | 1, _ => rfl
theorem b1 : ∀ j : Nat, j < 1 → ([0] : List Nat)[j]? = some j := fun j hj => by
  match j, hj with
  | 0, _ => rfl
theorem sm1_loop : LoopGood g1 26 (.loop smBody) smKeep 2 (.exit 0) (mkLoopN sm1G) := by
  refine LoopGood.mkN (by decide) fun vals B S' B' C hG hC hlen w0 O hgl => ?_
  clear hlen
  unfold sm1G at hG
  split at hG
  · rename_i oa na ob nb K la K2 lb
    split at hG
    · rename_i hK hK2
      obtain rfl := kidx_inj hK
      obtain rfl := kidx_inj hK2
      simp only [Option.some.injEq, Prod.mk.injEq] at hG
      obtain ⟨rfl, rfl, rfl⟩ := hG
      simp only [allC_cons, allC_nil, and_true] at hC
      obtain ⟨rfl, h1, h2, h3, h4⟩ := hC
      have F1 : Fits .i64 (na : Int) := fits_small h3
      refine SimC.iter (g := g1) (S := smS1 oa ob na) (B := fun _ => [.ints .u8 la, .ints .u8 lb]) (N := na) (fun i hi => ?_) ?_ (by simp) 0 (by omega)
      · have e : la.getD (oa + i) 0 = lb.getD (ob + i) 0 := by rw [← subI_get hi, h4, subI_get hi]
        have c : (!decide (la.getD (oa + i) 0 = lb.getD (ob + i) 0)) = false := by rw [decide_eq_true e]; rfl
        have F2 : Fits .i64 ((i : Int) + 1) := fits_of (by omega) (by omega)
        exact SimC.run (B' := [.ints .u8 la, .ints .u8 lb]) g1_ok (by decide) (sm1_go oa ob na i la lb) (by (simp only [allC_cons, allC_nil, and_true]; repeat' (with_reducible (first | refine And.intro ?_ ?_ | exact True.intro | assumption | omega | exact decide_eq_true (by first | assumption | omega) | exact decide_eq_false (by first | assumption | omega) | rfl | (simp; done))))) (by decide) b2 (by decide) (by simp) hgl
      · exact SimC.weaken (SimC.run (B' := [.ints .u8 la, .ints .u8 lb]) g1_ok (by decide) (sm1_end oa ob na na la lb) (by (simp only [allC_cons, allC_nil, and_true]; repeat' (with_reducible (first | refine And.intro ?_ ?_ | exact True.intro | assumption | omega | exact decide_eq_true (by first | assumption | omega) | exact decide_eq_false (by first | assumption | omega) | rfl | (simp; done))))) (by decide) b2 (by decide) (by simp) hgl) (fun t => .inr (by simp [mkT, tget, Tr.get_lf]))
    · simp at hG
  · simp at hG
theorem sm1_run (oa ob na nb : Nat) (la lb : List Int) : runF g1 200 [.br false, .loop 4 smKeep 2 (.exit 0) (mkLoopN sm1G)] 16 [.sl 0 0 oa 1 0 na false, .sl 1 0 ob 1 0 nb false] [.ints .u8 la, .ints .u8 lb] [] =
    some (.bool true, [some (.ints .u8 la), some (.ints .u8 lb)], [Fits .i64 (nb : Int), Fits .i64 (na : Int), (!decide ((na : Int) = (nb : Int))) = false, LoopGood g1 26 (.loop smBody) smKeep 2 (.exit 0) (mkLoopN sm1G), na = nb, oa + na ≤ la.length, ob + nb ≤ lb.length, na ≤ 140737488355328, subI la oa na = subI lb ob nb]) := by kernel_rfl
abbrev smS2 (oa n : Nat) (lb : List Int) (i : Nat) : List (Nat × SV) := smKeep.zip [.sl 0 0 oa 1 0 n false, .roi .u8 lb, .int .i64 (i : Int)]
theorem sm2_go (oa n i : Nat) (la lb : List Int) : runC g1 200 26 [.br true, .br false] smBody (smS2 oa n lb i) [.ints .u8 la] smKeep [0] =
    some (.normal, [.sl 0 0 oa 1 0 n false, .roi .u8 lb, .int .i64 ((i : Int) + 1)], [some (.ints .u8 la)], [Fits .i64 (n : Int), decide ((i : Int) < (n : Int)) = true, (0 : Int) ≤ (i : Int) ∧ (i : Int) < (lb.length : Int), oa + i + 0 < la.length, (0 : Int) ≤ (i : Int) ∧ (i : Int) < (n : Int),
      (!decide (la.getD (oa + i) 0 = lb.getD i 0)) = false, Fits .i64 ((i : Int) + 1)]) := by kernel_rfl
theorem sm2_end (oa n i : Nat) (la lb : List Int) : runC g1 200 26 [.br false] smBody (smS2 oa n lb i) [.ints .u8 la] smKeep [0] =
    some (.exit 0, [.sl 0 0 oa 1 0 n false, .roi .u8 lb, .int .i64 (i : Int)], [some (.ints .u8 la)], [Fits .i64 (n : Int), decide ((i : Int) < (n : Int)) = false]) := by kernel_rfl
def sm2G : LoopF := fun vals B => match vals, B with
  | [.sl 0 0 oa 1 0 na false, .roi K2 lb, .int .i64 0], [.ints K la] => match sameK K .u8, sameK K2 .u8 with
    | true, true => some ([], [.ints .u8 la], [na = lb.length, oa + na ≤ la.length, na ≤ 140737488355328, subI la oa na = lb])
    | _, _ => none
  | _, _ => none
theorem sm2_loop : LoopGood g1 26 (.loop smBody) smKeep 1 (.exit 0) (mkLoopN sm2G) := by
  refine LoopGood.mkN (by decide) fun vals B S' B' C hG hC hlen w0 O hgl => ?_
  clear hlen
  unfold sm2G at hG
  split at hG
  · rename_i oa na K2 lb K la
    split at hG
    · rename_i hK hK2
      obtain rfl := kidx_inj hK
      obtain rfl := kidx_inj hK2
      simp only [Option.some.injEq, Prod.mk.injEq] at hG
      obtain ⟨rfl, rfl, rfl⟩ := hG
      simp only [allC_cons, allC_nil, and_true] at hC
      obtain ⟨h0, h1, h3, h4⟩ := hC
      have F1 : Fits .i64 (na : Int) := fits_small h3
      refine SimC.iter (g := g1) (S := smS2 oa na lb) (B := fun _ => [.ints .u8 la]) (N := na) (fun i hi => ?_) ?_ (by simp) 0 (by omega)
      · have e : la.getD (oa + i) 0 = lb.getD i 0 := by rw [← subI_get hi, h4]
        have c : (!decide (la.getD (oa + i) 0 = lb.getD i 0)) = false := by rw [decide_eq_true e]; rfl
        have F2 : Fits .i64 ((i : Int) + 1) := fits_of (by omega) (by omega)
        exact SimC.run (B' := [.ints .u8 la]) g1_ok (by decide) (sm2_go oa na i la lb) (by (simp only [allC_cons, allC_nil, and_true]; repeat' (with_reducible (first | refine And.intro ?_ ?_ | exact True.intro | assumption | omega | exact decide_eq_true (by first | assumption | omega) | exact decide_eq_false (by first | assumption | omega) | rfl | (simp; done))))) (by decide) b1 (by decide) (by simp) hgl
      · exact SimC.weaken (SimC.run (B' := [.ints .u8 la]) g1_ok (by decide) (sm2_end oa na na la lb) (by (simp only [allC_cons, allC_nil, and_true]; repeat' (with_reducible (first | refine And.intro ?_ ?_ | exact True.intro | assumption | omega | exact decide_eq_true (by first | assumption | omega) | exact decide_eq_false (by first | assumption | omega) | rfl | (simp; done))))) (by decide) b1 (by decide) (by simp) hgl) (fun t => .inr (by simp [mkT, tget, Tr.get_lf]))
    · simp at hG
  · simp at hG
theorem sm2_run (oa na : Nat) (la lb : List Int) : runF g1 200 [.br false, .loop 4 smKeep 1 (.exit 0) (mkLoopN sm2G)] 16 [.sl 0 0 oa 1 0 na false, .roi .u8 lb] [.ints .u8 la] [] =
    some (.bool true, [some (.ints .u8 la)], [Fits .i64 (lb.length : Int), Fits .i64 (na : Int), (!decide ((na : Int) = (lb.length : Int))) = false, LoopGood g1 26 (.loop smBody) smKeep 1 (.exit 0) (mkLoopN sm2G), na = lb.length, oa + na ≤ la.length, na ≤ 140737488355328, subI la oa na = lb]) := by kernel_rfl
/-- two rows of bytes that are one -/
def F16 : SumF := fun args B => match args, B with
  | [x, .roi K2 lb], [.ints K la] => match sameK K .u8, sameK K2 .u8, vwI 0 la x with
    | true, true, some (oa, na) => some { val := .sbool true, C := [oa + na ≤ la.length, na ≤ 140737488355328, subI la oa na = lb] }
    | _, _, _ => none
  | [x, y], [.ints K la, .ints K2 lb] => match sameK K .u8, sameK K2 .u8, vwI 0 la x, vwI 1 lb y with
    | true, true, some (oa, na), some (ob, nb) => some { val := .sbool true, C := [oa + na ≤ la.length, ob + nb ≤ lb.length, na ≤ 140737488355328, subI la oa na = subI lb ob nb] }
    | _, _, _, _ => none
  | _, _ => none
theorem acc16 : Acc g1 16 F16 := by
  intro args B out h hC
  unfold F16 at h
  split at h
  · rename_i x K2 lb K la
    split at h
    · rename_i oa na hK hK2 hx
      obtain rfl := kidx_inj hK
      obtain rfl := kidx_inj hK2
      simp only [Option.some.injEq] at h; subst h
      simp only [allC_cons, allC_nil, and_true] at hC
      obtain ⟨h1, h3, h4⟩ := hC
      have hn : na = lb.length := by rw [← h4, subI_length h1]
      have F1 : Fits .i64 (na : Int) := fits_small h3
      have F2 : Fits .i64 (lb.length : Int) := fits_small (by omega)
      have hl := sm2_loop
      have c : (!decide ((na : Int) = (lb.length : Int))) = false := by rw [decide_eq_true (by omega)]; rfl
      refine FnOk.argsH (args' := [.sl 0 0 oa 1 0 na false, .roi .u8 lb]) (FnOk.toSb (b := true) (FnOk.run (out := { val := .bool true }) (new := []) g1_ok (sm2_run oa na la lb) (by (simp only [allC_cons, allC_nil, and_true]; repeat' (with_reducible (first | refine And.intro ?_ ?_ | exact True.intro | assumption | omega | exact decide_eq_true (by first | assumption | omega) | exact decide_eq_false (by first | assumption | omega) | rfl | (simp; done))))) (by simp [upto]) rfl (by simp) (by simp) (fun j hj => by match j, hj with | 0, _ => rfl)) rfl) fun w0 O ρ Φ w vs x d => ?_
      simp only [DenT] at d ⊢
      obtain ⟨v1, r1, rfl, d1, v2, r2, rfl, d2, rfl⟩ := d
      exact ⟨_, _, rfl, vwI_den hx x rfl d1, _, _, rfl, d2, rfl⟩
    · simp at h
  · rename_i x y K la K2 lb
    split at h
    · rename_i oa na ob nb hK hK2 hx hy
      obtain rfl := kidx_inj hK
      obtain rfl := kidx_inj hK2
      simp only [Option.some.injEq] at h; subst h
      simp only [allC_cons, allC_nil, and_true] at hC
      obtain ⟨h1, h2, h3, h4⟩ := hC
      have hn : na = nb := by have := congrArg List.length h4; rwa [subI_length h1, subI_length h2] at this
      have F1 : Fits .i64 (na : Int) := fits_small h3
      have F2 : Fits .i64 (nb : Int) := fits_small (by omega)
      have hl := sm1_loop
      have c : (!decide ((na : Int) = (nb : Int))) = false := by rw [decide_eq_true (by omega)]; rfl
      refine FnOk.argsH (args' := [.sl 0 0 oa 1 0 na false, .sl 1 0 ob 1 0 nb false]) (FnOk.toSb (b := true) (FnOk.run (out := { val := .bool true }) (new := []) g1_ok (sm1_run oa ob na nb la lb) (by (simp only [allC_cons, allC_nil, and_true]; repeat' (with_reducible (first | refine And.intro ?_ ?_ | exact True.intro | assumption | omega | exact decide_eq_true (by first | assumption | omega) | exact decide_eq_false (by first | assumption | omega) | rfl | (simp; done))))) (by simp [upto]) rfl (by simp) (by simp) (fun j hj => by match j, hj with | 0, _ => rfl | 1, _ => rfl)) rfl) fun w0 O ρ Φ w vs x d => ?_
      simp only [DenT] at d ⊢
      obtain ⟨v1, r1, rfl, d1, v2, r2, rfl, d2, rfl⟩ := d
      exact ⟨_, _, rfl, vwI_den hx x rfl d1, _, _, rfl, vwI_den hy x rfl d2, rfl⟩
    · simp at h
  · simp at h

noncomputable abbrev gT (p : Addr) (ok : Bool → Bool) : Ctx := (g3.gl (eV p)).add [(10, F10x p ok), (11, F11 ok), (13, F13), (14, oneOf F14 F14c), (15, F15), (16, F16)]
theorem gT_ok (p : Addr) (ok : Bool → Bool) : CtxU (gT p ok) := (gl_ok g3_ok fun _ => rfl).add mixed noGo (by
  intro x hx
  simp only [List.mem_cons, List.not_mem_nil, or_false] at hx
  rcases hx with rfl | rfl | rfl | rfl | rfl | rfl
  · exact acc10x p ok
  · exact Acc.of (g := gd3.gl (eV p)) rfl rfl (Acc.gl (fun _ => rfl) (acc11 ok))
  · exact Acc.of (g := gK p) rfl rfl (acc13 p)
  · exact Acc.of (g := g4.gl (eV p)) rfl rfl (Acc.gl (fun _ => rfl) (acc_one acc14 acc14c))
  · exact Acc.of (g := g4.gl (eV p)) rfl rfl (Acc.gl (fun _ => rfl) acc15)
  · exact Acc.of (g := g1.gl (eV p)) rfl rfl (Acc.gl (fun _ => rfl) acc16))
theorem globT_ok (p : Addr) (ok : Bool → Bool) (W : World) (h : W.cell? ⟨0, 0, none⟩ = some (.iface 120 (.pointer (some p)))) : GlobOk (gT p ok) W (O0 W) := glob_ok p W h
end Go.Proofs.Tryd

namespace Go.Proofs.Tryd
open Go Go.Vx
/-! ### roomy -/
def rmF (la : List Int) (i : Nat) : Int := if i < la.length then la.getD i 0 else markN i
abbrev rmKeep : List Nat := [0, 3, 4]
noncomputable abbrev rmBody : Code := bodyAt Tryd.prog 19 3
abbrev rmS (la : List Int) (m n i : Nat) : List (Nat × SV) := rmKeep.zip [.roi .u8 la, .sl 0 m 0 1 0 n false, .int .i64 (i : Int)]
theorem rm_go1 (m n i : Nat) (la lb : List Int) : runC g1 200 34 [.br true, .br true] rmBody (rmS la m n i) [.ints .u8 lb] rmKeep [0] =
    some (.normal, [.roi .u8 la, .sl 0 m 0 1 0 n false, .int .i64 ((i : Int) + 1)], [some (.ints .u8 ((lb.set (0 + i + 0) (markN i)).set (0 + i + 0) (la.getD i 0)))], [Fits .i64 (n : Int), decide ((i : Int) < (n : Int)) = true, 0 + i + 0 < lb.length, (0 : Int) ≤ (i : Int) ∧ (i : Int) < (n : Int), Fits .i64 (161 + (i : Int).tmod 7), Fits .i64 (la.length : Int), decide ((i : Int) < (la.length : Int)) = true,
      0 + i + 0 < (lb.set (0 + i + 0) (markN i)).length, (0 : Int) ≤ (i : Int) ∧ (i : Int) < (n : Int), (0 : Int) ≤ (i : Int) ∧ (i : Int) < (la.length : Int), Fits .i64 ((i : Int) + 1)]) := by kernel_rfl
theorem rm_go0 (m n i : Nat) (la lb : List Int) : runC g1 200 34 [.br true, .br false] rmBody (rmS la m n i) [.ints .u8 lb] rmKeep [0] =
    some (.normal, [.roi .u8 la, .sl 0 m 0 1 0 n false, .int .i64 ((i : Int) + 1)], [some (.ints .u8 (lb.set (0 + i + 0) (markN i)))], [Fits .i64 (n : Int), decide ((i : Int) < (n : Int)) = true, 0 + i + 0 < lb.length, (0 : Int) ≤ (i : Int) ∧ (i : Int) < (n : Int), Fits .i64 (161 + (i : Int).tmod 7), Fits .i64 (la.length : Int), decide ((i : Int) < (la.length : Int)) = false, Fits .i64 ((i : Int) + 1)]) := by kernel_rfl
theorem rm_end (m n i : Nat) (la lb : List Int) : runC g1 200 34 [.br false] rmBody (rmS la m n i) [.ints .u8 lb] rmKeep [0] =
    some (.exit 0, [.roi .u8 la, .sl 0 m 0 1 0 n false, .int .i64 (i : Int)], [some (.ints .u8 lb)], [Fits .i64 (n : Int), decide ((i : Int) < (n : Int)) = false]) := by kernel_rfl
def rmG : LoopF := fun vals B => match vals, B with
  | [.roi K2 la, .sl 0 m 0 1 0 n false, .int .i64 0], [.ints K lb] => match sameK K .u8, sameK K2 .u8 with
    | true, true => some ([(3, .sl 0 m 0 1 0 n false)], [.ints .u8 (roomL la)], [n = la.length + 70, n ≤ 140737488355328, lb = List.replicate n 0])
    | _, _ => none
  | _, _ => none
theorem tmod_fits (i : Nat) : Fits .i64 (161 + (i : Int).tmod 7) := by
  rw [Int.tmod_eq_emod_of_nonneg (by omega)]
  exact fits_of (by omega) (by omega)
theorem rm_loop : LoopGood g1 34 (.loop rmBody) rmKeep 1 (.exit 0) (mkLoopN rmG) := by
  refine LoopGood.mkN (by decide) fun vals B S' B' C hG hC hlen w0 O hgl => ?_
  clear hlen
  unfold rmG at hG
  split at hG
  · rename_i K2 la m n K lb
    split at hG
    · rename_i hK hK2
      obtain rfl := kidx_inj hK
      obtain rfl := kidx_inj hK2
      simp only [Option.some.injEq, Prod.mk.injEq] at hG
      obtain ⟨rfl, rfl, rfl⟩ := hG
      simp only [allC_cons, allC_nil, and_true] at hC
      obtain ⟨h1, h2, rfl⟩ := hC
      have F1 : Fits .i64 (n : Int) := fits_small h2
      have F3 : Fits .i64 (la.length : Int) := fits_small (by omega)
      have key := SimC.iter (g := g1) (nT := 34) (c := rmBody) (m := 1) (w0 := w0) (O := O) (e := .exit 0) (S := rmS la m n) (B := fun i => [.ints .u8 (partF (rmF la) n i)]) (N := n) (S' := [(3, .sl 0 m 0 1 0 n false)]) (B' := [.ints .u8 (roomL la)]) (fun i hi => ?_) ?_ (by simp) 0 (by omega)
      · rw [partF_zero] at key; exact key
      · have F2 : Fits .i64 ((i : Int) + 1) := fits_of (by omega) (by omega)
        have F4 := tmod_fits i
        have hl := partF_len (rmF la) n i
        by_cases hc : i < la.length
        · have hr := rm_go1 m n i la (partF (rmF la) n i)
          have e : rmF la i = la.getD i 0 := if_pos hc
          simp only [Nat.zero_add, Nat.add_zero, set_set] at hr
          rw [← e, partF_set _ hi] at hr
          have q : i < ((partF (rmF la) n i).set i (markN i)).length := by rw [List.length_set, hl]; exact hi
          exact SimC.run (B' := [.ints .u8 (partF (rmF la) n (i + 1))]) g1_ok (by decide) hr (by rw [hl]; (simp only [allC_cons, allC_nil, and_true]; repeat' (with_reducible (first | refine And.intro ?_ ?_ | exact True.intro | assumption | omega | exact decide_eq_true (by first | assumption | omega) | exact decide_eq_false (by first | assumption | omega) | rfl | (simp; done))))) (by decide) b1 (by decide) (by simp) hgl
        · have hr := rm_go0 m n i la (partF (rmF la) n i)
          have e : rmF la i = markN i := if_neg hc
          simp only [Nat.zero_add, Nat.add_zero] at hr
          rw [← e, partF_set _ hi] at hr
          exact SimC.run (B' := [.ints .u8 (partF (rmF la) n (i + 1))]) g1_ok (by decide) hr (by rw [hl]; (simp only [allC_cons, allC_nil, and_true]; repeat' (with_reducible (first | refine And.intro ?_ ?_ | exact True.intro | assumption | omega | exact decide_eq_true (by first | assumption | omega) | exact decide_eq_false (by first | assumption | omega) | rfl | (simp; done))))) (by decide) b1 (by decide) (by simp) hgl
      · have e : partF (rmF la) n n = roomL la := by
          have := partF_all (rmF la) (roomL la) fun p hp => by
            rw [roomL_len] at hp
            rw [roomL_get la hp]; rfl
          rw [roomL_len, ← h1] at this
          exact this
        have hr := rm_end m n n la (partF (rmF la) n n)
        rw [e] at hr ⊢
        exact SimC.weaken (SimC.run (B' := [.ints .u8 (roomL la)]) g1_ok (by decide) hr (by (simp only [allC_cons, allC_nil, and_true]; repeat' (with_reducible (first | refine And.intro ?_ ?_ | exact True.intro | assumption | omega | exact decide_eq_true (by first | assumption | omega) | exact decide_eq_false (by first | assumption | omega) | rfl | (simp; done))))) (by decide) b1 (by decide) (by simp) hgl) (sub_mkT (by simp; rfl))
    · simp at hG
  · simp at hG
theorem rm_run (la : List Int) : runF g1 200 [.loop 3 rmKeep 1 (.exit 0) (mkLoopN rmG)] 19 [.roi .u8 la] [] [0] =
    some (.sl 0 (la.length + 70) 0 1 0 (la.length + 70) false, [some (.ints .u8 (roomL la))], [(0 : Int) ≤ (la.length : Int) + 70 ∧ (la.length : Int) + 70 = (la.length : Int) + 70 ∧ (la.length + 70) * 1 ≤ 140737488355328, Fits .i64 ((la.length : Int) + 70), Fits .i64 (la.length : Int), LoopGood g1 34 (.loop rmBody) rmKeep 1 (.exit 0) (mkLoopN rmG), la.length + 70 = la.length + 70, la.length + 70 ≤ 140737488355328, List.replicate (la.length + 70) 0 = List.replicate (la.length + 70) (0 : Int)]) :=
  run_parts (by kernel_rfl) (by kernel_rfl) (by kernel_rfl)
def F19 : SumF := fun args B => match args, B with
  | [.roi K la], [] => match sameK K .u8 with
    | true => some { val := .sl 0 (la.length + 70) 0 1 0 (la.length + 70) false, new := [.ints .u8 (roomL la)], C := [la.length ≤ 1000000000] }
    | false => none
  | _, _ => none
theorem acc19 : Acc g1 19 F19 := by
  intro args B out h hC
  unfold F19 at h
  split at h
  · rename_i K la
    split at h
    · rename_i hK
      obtain rfl := kidx_inj hK
      simp only [Option.some.injEq] at h; subst h
      simp only [allC_cons, allC_nil, and_true] at hC
      have F1 : Fits .i64 (la.length : Int) := fits_small (by omega)
      have F2 : Fits .i64 ((la.length : Int) + 70) := fits_of (by omega) (by omega)
      have hl := rm_loop
      refine FnOk.run (new := [0]) g1_ok (rm_run la) (by (simp only [allC_cons, allC_nil, and_true]; repeat' (with_reducible (first | refine And.intro ?_ ?_ | exact True.intro | assumption | omega | exact decide_eq_true (by first | assumption | omega) | exact decide_eq_false (by first | assumption | omega) | rfl | (simp; done))))) (by decide) rfl (by simp) (by simp) ?_
      intro j hj
      match j, hj with
      | 0, _ => rfl
      | j + 1, hj => exact absurd hj (by simp)
    · simp at h
  · simp at h

/-! ### stands -/
abbrev sdKeep : List Nat := [0, 1, 5]
noncomputable abbrev sdBody : Code := bodyAt Tryd.prog 20 2
abbrev sdO (o n : Nat) (l : List Int) (i : Int) : List SV := [.sl 0 0 o 1 0 n false, .roi .u8 l, .int .i64 i]
abbrev sdS (o n : Nat) (l : List Int) (i : Nat) : List (Nat × SV) := sdKeep.zip (sdO o n l (i : Int))
theorem sd_go1 (o n i : Nat) (l w : List Int) : runC g1 300 44 [.br true, .br true, .br false, .br false, .br false] sdBody (sdS o n l i) [.ints .u8 w] sdKeep [0] =
    some (.normal, sdO o n l ((i : Int) + 1), [some (.ints .u8 w)], [Fits .i64 (n : Int), decide ((i : Int) < (n : Int)) = true, decide ((l.length : Int) ≤ (i : Int)) = false, Fits .i64 (l.length : Int), (!decide (w.getD (o + i) 0 = l.getD i 0)) = false, (0 : Int) ≤ (i : Int) ∧ (i : Int) < (l.length : Int), o + i + 0 < w.length, (0 : Int) ≤ (i : Int) ∧ (i : Int) < (n : Int), decide ((i : Int) < (l.length : Int)) = true, Fits .i64 (l.length : Int), Fits .i64 ((i : Int) + 1)]) :=
  r3_parts4 (by kernel_rfl) (by kernel_rfl) (by kernel_rfl) (by kernel_rfl)
theorem sd_go0 (o n i : Nat) (l w : List Int) : runC g1 300 44 [.br true, .br false, .br true, .br false, .br false] sdBody (sdS o n l i) [.ints .u8 w] sdKeep [0] =
    some (.normal, sdO o n l ((i : Int) + 1), [some (.ints .u8 w)], [Fits .i64 (n : Int), decide ((i : Int) < (n : Int)) = true, Fits .i64 (161 + (i : Int).tmod 7), o + i + 0 < w.length, (0 : Int) ≤ (i : Int) ∧ (i : Int) < (n : Int), decide ((l.length : Int) ≤ (i : Int)) = true, Fits .i64 (l.length : Int), decide ((i : Int) < (l.length : Int)) = false, Fits .i64 (l.length : Int), (!decide (w.getD (o + i) 0 = markN i)) = false, Fits .i64 ((i : Int) + 1)]) :=
  r3_parts4 (by kernel_rfl) (by kernel_rfl) (by kernel_rfl) (by kernel_rfl)
theorem sd_end (o n i : Nat) (l w : List Int) : runC g1 300 44 [.br false] sdBody (sdS o n l i) [.ints .u8 w] sdKeep [0] =
    some (.exit 0, sdO o n l (i : Int), [some (.ints .u8 w)], [Fits .i64 (n : Int), decide ((i : Int) < (n : Int)) = false]) :=
  r3_parts4 (by kernel_rfl) (by kernel_rfl) (by kernel_rfl) (by kernel_rfl)
def sdG : LoopF := fun vals B => match vals, B with
  | [.sl 0 0 o 1 0 n false, .roi K2 l, .int .i64 0], [.ints K w] => match sameK K .u8, sameK K2 .u8 with
    | true, true => some ([], [.ints .u8 w], [o + n ≤ w.length, n ≤ 140737488355328, l.length ≤ 140737488355328, n = l.length + 70, subI w o n = roomL l])
    | _, _ => none
  | _, _ => none
theorem sd_loop : LoopGood g1 44 (.loop sdBody) sdKeep 1 (.exit 0) (mkLoopN sdG) := by
  refine LoopGood.mkN (by decide) fun vals B S' B' C hG hC hlen w0 O hgl => ?_
  clear hlen
  unfold sdG at hG
  split at hG
  · rename_i o n K2 l K w
    split at hG
    · rename_i hK hK2
      obtain rfl := kidx_inj hK
      obtain rfl := kidx_inj hK2
      simp only [Option.some.injEq, Prod.mk.injEq] at hG
      obtain ⟨rfl, rfl, rfl⟩ := hG
      simp only [allC_cons, allC_nil, and_true] at hC
      obtain ⟨h1, h2, h3, hn, h4⟩ := hC
      have F1 : Fits .i64 (n : Int) := Go.Vx.fits_small h2
      have F3 : Fits .i64 (l.length : Int) := Go.Vx.fits_small h3
      refine SimC.iter (g := g1) (S := sdS o n l) (B := fun _ => [.ints .u8 w]) (N := n) (fun i hi => ?_) ?_ (by simp) 0 (by omega)
      · have F2 : Fits .i64 ((i : Int) + 1) := fits_of (by omega) (by omega)
        have e : w.getD (o + i) 0 = if i < l.length then l.getD i 0 else markN i := by
          rw [← subI_get (l := w) (o := o) hi, h4]
          exact roomL_get l (by omega)
        by_cases c : i < l.length
        · rw [if_pos c] at e
          refine SimC.run (B' := [.ints .u8 w]) g1_ok (by decide) (sd_go1 o n i l w) ?_ (by decide) b1 (by decide) (by simp) hgl
          simp only [allC_cons, allC_nil, and_true]
          exact ⟨F1, decide_eq_true (by omega), decide_eq_false (by omega), F3, by rw [decide_eq_true e]; rfl, ⟨by omega, by omega⟩, by omega, ⟨by omega, by omega⟩, decide_eq_true (by omega), F3, F2⟩
        · rw [if_neg c] at e
          refine SimC.run (B' := [.ints .u8 w]) g1_ok (by decide) (sd_go0 o n i l w) ?_ (by decide) b1 (by decide) (by simp) hgl
          simp only [allC_cons, allC_nil, and_true]
          exact ⟨F1, decide_eq_true (by omega), tmod_fits i, by omega, ⟨by omega, by omega⟩, decide_eq_true (by omega), F3, decide_eq_false (by omega), F3, by rw [decide_eq_true e]; rfl, F2⟩
      · exact SimC.weaken (SimC.run (B' := [.ints .u8 w]) g1_ok (by decide) (sd_end o n n l w) (by simp only [allC_cons, allC_nil, and_true]; exact ⟨F1, decide_eq_false (by omega)⟩) (by decide) b1 (by decide) (by simp) hgl) (fun t => .inr (by simp [mkT, tget, Tr.get_lf]))
    · simp at hG
  · simp at hG
theorem sd_run (o n : Nat) (l w : List Int) : runF g1 300 [.loop 2 sdKeep 1 (.exit 0) (mkLoopN sdG)] 20 [.sl 0 0 o 1 0 n false, .roi .u8 l] [.ints .u8 w] [] =
    some (.bool true, [some (.ints .u8 w)], [LoopGood g1 44 (.loop sdBody) sdKeep 1 (.exit 0) (mkLoopN sdG), o + n ≤ w.length, n ≤ 140737488355328, l.length ≤ 140737488355328, n = l.length + 70, subI w o n = roomL l]) :=
  run_parts (by kernel_rfl) (by kernel_rfl) (by kernel_rfl)
def F20 : SumF := fun args B => match args, B with
  | [x, .roi K2 l], [.ints K w] => match sameK K .u8, sameK K2 .u8, vwI 0 w x with
    | true, true, some (o, n) => some { val := .sbool true, C := [o + n ≤ w.length, n ≤ 140737488355328, l.length ≤ 140737488355328, n = l.length + 70, subI w o n = roomL l] }
    | _, _, _ => none
  | _, _ => none
theorem acc20 : Acc g1 20 F20 := by
  intro args B out h hC
  unfold F20 at h
  split at h
  · rename_i x K2 l K w
    split at h
    · rename_i o n hK hK2 hx
      obtain rfl := kidx_inj hK
      obtain rfl := kidx_inj hK2
      simp only [Option.some.injEq] at h; subst h
      have hL := sd_loop
      refine FnOk.argsH (args' := [.sl 0 0 o 1 0 n false, .roi .u8 l]) (FnOk.toSb (b := true) (FnOk.run (out := { val := .bool true }) (new := []) g1_ok (sd_run o n l w) (allC_cons.2 ⟨hL, hC⟩) (by simp [upto]) rfl (by simp) (by simp) (fun j hj => by
        match j, hj with
        | 0, _ => rfl)) rfl) (fun w0 O ρ Φ w vs x d => ?_)
      simp only [DenT] at d ⊢
      obtain ⟨v1, r1, rfl, d1, v2, r2, rfl, d2, rfl⟩ := d
      exact ⟨_, _, rfl, vwI_den hx x rfl d1, _, _, rfl, d2, rfl⟩
    · simp at h
  · simp at h


/-! ### the document's events -/
theorem rif_1 : runF g1 100 [.br true] 40 [.sbool true] [] [] = some (.agg [.lit .i64 1, .lit .i64 1], [], [true = true]) := by kernel_rfl
theorem rif_0 : runF g1 100 [.br false] 40 [.sbool false] [] [] = some (.agg [.lit .i64 1, .lit .i64 0], [], [false = false]) := by kernel_rfl
def F40 : SumF := fun args B => match args, B with
  | [.sbool b], [] => some { val := .agg [.lit .i64 1, .int .i64 (if b = true then 1 else 0)] }
  | _, _ => none
theorem den_lits {w0 : World} {O : Go.Vx.Own} {ρ : Rho} {n : Int} {v : Value} (h : DenV w0 O ρ (.agg [.lit .i64 1, .lit .i64 n]) v) : DenV w0 O ρ (.agg [.lit .i64 1, .int .i64 n]) v := by
  rcases h with h | ⟨h1, h⟩
  · simp at h
  · refine .inr ⟨h1, ?_⟩
    simp only [DenC, DenL] at h ⊢
    exact h
theorem acc40 : Acc g1 40 F40 := by
  intro args B out h hC
  unfold F40 at h
  split at h
  · rename_i b
    simp only [Option.some.injEq] at h; subst h
    cases b with
    | true => exact FnOk.val (C := []) (rd := []) (FnOk.pure g1_ok rif_1 (by simp [AllC])) (fun _ _ _ _ h => den_lits h)
    | false => exact FnOk.val (C := []) (rd := []) (FnOk.pure g1_ok rif_0 (by simp [AllC])) (fun _ _ _ _ h => den_lits h)
  · simp at h
theorem rat_run (n : Int) : runF g1 100 [] 41 [.int .i64 n] [] [] = some (.agg [.lit .i64 2, .int .i64 n], [], []) := by kernel_rfl
def F41 : SumF := fun args B => match args, B with
  | [.int .i64 n], [] => some { val := .agg [.lit .i64 2, .int .i64 n] }
  | _, _ => none
theorem acc41 : Acc g1 41 F41 := by
  intro args B out h hC
  unfold F41 at h
  split at h
  · simp only [Option.some.injEq] at h; subst h
    exact FnOk.pure g1_ok (rat_run _) (by simp [AllC])
  · simp at h
theorem rop_run (n : Int) : runF g1 100 [] 42 [.int .i64 n] [] [] = some (.agg [.lit .i64 3, .int .i64 n], [], []) := by kernel_rfl
def F42 : SumF := fun args B => match args, B with
  | [.int .i64 n], [] => some { val := .agg [.lit .i64 3, .int .i64 n] }
  | _, _ => none
theorem acc42 : Acc g1 42 F42 := by
  intro args B out h hC
  unfold F42 at h
  split at h
  · simp only [Option.some.injEq] at h; subst h
    exact FnOk.pure g1_ok (rop_run _) (by simp [AllC])
  · simp at h

/-! ### two lists of events that are one -/
abbrev leKeep : List Nat := [0, 1, 5]
noncomputable abbrev leBody : Code := bodyAt Tryd.prog 21 4
abbrev leS (i : Nat) : List (Nat × SV) := leKeep.zip [.own 0, .own 1, .int .i64 (i : Int)]
noncomputable abbrev leB (l : List (List Int)) : List Body := [.rows [.i64, .i64] l, .rows [.i64, .i64] l]
theorem le_go (i : Nat) (l : List (List Int)) : runC g1 200 41 [.br true, .br false, .br false] leBody (leS i) (leB l) leKeep [0, 1] =
    some (Ex.normal, [SV.own (0 : Nat), SV.own (1 : Nat), SV.int IntKind.i64 ((↑i : Int) + (1 : Int))], [some (Body.rows [IntKind.i64, IntKind.i64] l), some (Body.rows [IntKind.i64, IntKind.i64] l)], [Fits IntKind.i64 (↑l.length : Int), decide ((↑i : Int) < (↑l.length : Int)) = true, i < l.length, (0 : Int) ≤ (↑i : Int) ∧ (↑i : Int) < (↑(List.length l) : Int), i < l.length, (0 : Int) ≤ (↑i : Int) ∧ (↑i : Int) < (↑(List.length l) : Int), (!decide ((l.getD (↑i : Int).toNat []).getD ((0 : Nat) + (0 : Nat) + (0 : Nat)) (0 : Int) = (l.getD (↑i : Int).toNat []).getD ((0 : Nat) + (0 : Nat) + (0 : Nat)) (0 : Int))) = false, i < l.length, (0 : Int) ≤ (↑i : Int) ∧ (↑i : Int) < (↑(List.length l) : Int), i < l.length, (0 : Int) ≤ (↑i : Int) ∧ (↑i : Int) < (↑(List.length l) : Int), (!decide ((l.getD (↑i : Int).toNat []).getD ((0 : Nat) + (1 : Nat) + (0 : Nat)) (0 : Int) = (l.getD (↑i : Int).toNat []).getD ((0 : Nat) + (1 : Nat) + (0 : Nat)) (0 : Int))) = false, Fits IntKind.i64 ((↑i : Int) + (1 : Int))]) := by kernel_rfl
theorem le_end (i : Nat) (l : List (List Int)) : runC g1 200 41 [.br false] leBody (leS i) (leB l) leKeep [0, 1] =
    some (Ex.exit (0 : Nat), [SV.own (0 : Nat), SV.own (1 : Nat), SV.int IntKind.i64 (↑i : Int)], [some (Body.rows [IntKind.i64, IntKind.i64] l), some (Body.rows [IntKind.i64, IntKind.i64] l)], [Fits IntKind.i64 (↑l.length : Int), decide ((↑i : Int) < (↑l.length : Int)) = false]) := by kernel_rfl
def leG : LoopF := fun vals B => match vals, B with
  | [.own 0, .own 1, .int .i64 0], [.rows K la, .rows K2 lb] => match sameKs K [.i64, .i64], sameKs K2 [.i64, .i64] with
    | true, true => some ([], [.rows [.i64, .i64] la, .rows [.i64, .i64] lb], [la = lb, la.length ≤ 140737488355328])
    | _, _ => none
  | _, _ => none
theorem le_loop : LoopGood g1 41 (.loop leBody) leKeep 2 (.exit 0) (mkLoopN leG) := by
  refine LoopGood.mkN (by decide) fun vals B S' B' C hG hC hlen w0 O hgl => ?_
  clear hlen
  unfold leG at hG
  split at hG
  · rename_i K la K2 lb
    split at hG
    · rename_i hK hK2
      obtain rfl := sameKs_eq hK
      obtain rfl := sameKs_eq hK2
      simp only [Option.some.injEq, Prod.mk.injEq] at hG
      obtain ⟨rfl, rfl, rfl⟩ := hG
      simp only [allC_cons, allC_nil, and_true] at hC
      obtain ⟨rfl, h3⟩ := hC
      have j2 : ∀ j : Nat, j < 2 → ([0, 1] : List Nat)[j]? = some j := fun j hj => by
        match j, hj with
        | 0, _ => rfl
        | 1, _ => rfl
      have F1 : Fits .i64 (la.length : Int) := Go.Vx.fits_small h3
      refine SimC.iter (g := g1) (S := fun i => leS i) (B := fun _ => leB la) (N := la.length) (fun i hi => ?_) ?_ (by simp) 0 (by omega)
      · have F4 : Fits .i64 ((i : Int) + 1) := fits_of (by omega) (by omega)
        exact SimC.run (B' := leB la) g1_ok (by decide) (le_go i la) (by (simp only [allC_cons, allC_nil, and_true]; repeat' (with_reducible (first | refine And.intro ?_ ?_ | exact True.intro | assumption | omega | exact decide_eq_true (by first | assumption | omega) | exact decide_eq_false (by first | assumption | omega) | rfl | (simp; done))))) (by decide) j2 (by decide) (by simp) hgl
      · exact SimC.weaken (SimC.run (B' := leB la) g1_ok (by decide) (le_end la.length la) (by (simp only [allC_cons, allC_nil, and_true]; repeat' (with_reducible (first | refine And.intro ?_ ?_ | exact True.intro | assumption | omega | exact decide_eq_true (by first | assumption | omega) | exact decide_eq_false (by first | assumption | omega) | rfl | (simp; done))))) (by decide) j2 (by decide) (by simp) hgl) (fun t => .inr (by simp [mkT, tget, Tr.get_lf]))
    · simp at hG
  · simp at hG
theorem se_run (la lb : List (List Int)) : runF g1 200 [.br false, .loop 4 leKeep 2 (.exit 0) (mkLoopN leG)] 21 [.own 0, .own 1] [.rows [.i64, .i64] la, .rows [.i64, .i64] lb] [] =
    some (SV.bool true, [some (Body.rows [IntKind.i64, IntKind.i64] la), some (Body.rows [IntKind.i64, IntKind.i64] lb)], [Fits IntKind.i64 (↑lb.length : Int), Fits IntKind.i64 (↑la.length : Int), (!decide ((↑la.length : Int) = (↑lb.length : Int))) = false, LoopGood g1 41 (.loop leBody) leKeep 2 (.exit 0) (mkLoopN leG), la = lb, la.length ≤ (140737488355328 : Nat)]) := by kernel_rfl
def seF : SumF := fun args B => match args, B with
  | [.own 0, .own 1], [.rows K la, .rows K2 lb] => match sameKs K [.i64, .i64], sameKs K2 [.i64, .i64] with
    | true, true => some { val := .sbool true, C := [la = lb, la.length ≤ 140737488355328] }
    | _, _ => none
  | _, _ => none
theorem se_acc : Acc g1 21 seF := by
  intro args B out h hC
  unfold seF at h
  split at h
  · rename_i K la K2 lb
    split at h
    · rename_i hK hK2
      obtain rfl := sameKs_eq hK
      obtain rfl := sameKs_eq hK2
      simp only [Option.some.injEq] at h; subst h
      simp only [allC_cons, allC_nil, and_true] at hC
      obtain ⟨rfl, hl⟩ := hC
      have F1 : Fits .i64 (la.length : Int) := Go.Vx.fits_small hl
      have hL := le_loop
      refine FnOk.toSb (b := true) ?_ rfl
      refine FnOk.run (out := { val := .bool true }) (new := []) g1_ok (se_run _ _) (by (simp only [allC_cons, allC_nil, and_true]; repeat' (with_reducible (first | refine And.intro ?_ ?_ | exact True.intro | assumption | omega | exact decide_eq_true (by first | assumption | omega) | exact decide_eq_false (by first | assumption | omega) | rfl | (simp; done))))) (by simp [upto]) rfl (by simp) (by simp) fun j hj => ?_
      match j, hj with
      | 0, _ => rfl
      | 1, _ => rfl
      | j + 2, hj => exact absurd hj (by simp)
    · simp at h
  · simp at h
/-! ### all accounts of MacPlays -/

end Go.Proofs.Tryd

namespace Go.Proofs.Tryd
open Go Go.Vx
/-! ### DigestTwo: the loop's runs -/
noncomputable abbrev gA (p : Addr) : Ctx := gT p (fun _ => true)
abbrev twKeep : List Nat := [0, 1, 2, 3, 9, 11, 17, 18, 19]
noncomputable abbrev twBody : Code := bodyAt Tryd.prog 3 14
noncomputable abbrev twO (u v : Int) (k : List Int) (q : Nat → Bool) (d : Nat → List Int) (m : Nat) (i : Int) : List SV := [.int .i64 u, .int .i64 v, .roi .u8 k, .ro 2 m (rowY q d), .ptr 0 0, .ptr 1 0, .own 2, .own 3, .int .i64 i]
noncomputable abbrev twS (u v : Int) (k : List Int) (q : Nat → Bool) (d : Nat → List Int) (m i : Nat) : List (Nat × SV) := twKeep.zip (twO u v k q d m (i : Int))
noncomputable abbrev twB (a b : Nat → Int) (x y : List Int) : List Body := [dgV nilR a, dgV nilR b, .ints .u8 x, .ints .u8 y]
end Go.Proofs.Tryd
