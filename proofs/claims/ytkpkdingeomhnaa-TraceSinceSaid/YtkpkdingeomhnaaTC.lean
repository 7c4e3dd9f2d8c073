/- Accounts of this seat's functions: lemmas, no statement of their own. No conditions. -/
import Derived.Test.YtkpkdingeomhnaaV4
import Derived.Test.YtkpkdingeomhnaaTB
namespace Go.Proofs.Ytkpkdingeomhnaa
open Go Go.Vx

/-! ### ev -/
abbrev evKeep : List Nat := [0, 1, 5]
noncomputable abbrev evBody : Code := bodyAt Try.prog 16 4
abbrev evS (oa ob na : Nat) (i : Nat) : List (Nat × SV) := evKeep.zip [.sl 0 0 oa 2 0 na false, .sl 1 0 ob 2 0 na false, .int .i64 (i : Int)]
theorem ev_go (la lb : List (List Int)) (oa ob na i : Nat) : runC g1 200 26 [.br true, .br false] evBody (evS oa ob na i) [.rows [.i64, .i64] la, .rows [.i64, .i64] lb] evKeep [0, 1] =
    some (Ex.normal, [SV.sl (0 : Nat) (0 : Nat) oa (2 : Nat) (0 : Nat) na false, SV.sl (1 : Nat) (0 : Nat) ob (2 : Nat) (0 : Nat) na false, SV.int IntKind.i64 ((↑i : Int) + (1 : Int))], [some (Body.rows [IntKind.i64, IntKind.i64] la), some (Body.rows [IntKind.i64, IntKind.i64] lb)], [Fits IntKind.i64 (↑na : Int), decide ((↑i : Int) < (↑na : Int)) = true, ob + i < lb.length, ob + i < lb.length, (0 : Int) ≤ (↑i : Int) ∧ (↑i : Int) < (↑na : Int), oa + i < la.length, oa + i < la.length, (0 : Int) ≤ (↑i : Int) ∧ (↑i : Int) < (↑na : Int), (!decide ([(la.getD (oa + (↑i : Int).toNat) []).getD ((0 : Nat) + (0 : Nat)) (0 : Int), (la.getD (oa + (↑i : Int).toNat) []).getD ((0 : Nat) + ((0 : Nat) + (1 : Nat))) (0 : Int)] = [(lb.getD (ob + (↑i : Int).toNat) []).getD ((0 : Nat) + (0 : Nat)) (0 : Int), (lb.getD (ob + (↑i : Int).toNat) []).getD ((0 : Nat) + ((0 : Nat) + (1 : Nat))) (0 : Int)])) = false, Fits IntKind.i64 ((↑i : Int) + (1 : Int))]) := by kernel_rfl
theorem ev_no (la lb : List (List Int)) (oa ob na i : Nat) : runC g1 200 26 [.br true, .br true] evBody (evS oa ob na i) [.rows [.i64, .i64] la, .rows [.i64, .i64] lb] [4] [0, 1] =
    some (Ex.ret, [SV.bool false], [some (Body.rows [IntKind.i64, IntKind.i64] la), some (Body.rows [IntKind.i64, IntKind.i64] lb)], [Fits IntKind.i64 (↑na : Int), decide ((↑i : Int) < (↑na : Int)) = true, ob + i < lb.length, ob + i < lb.length, (0 : Int) ≤ (↑i : Int) ∧ (↑i : Int) < (↑na : Int), oa + i < la.length, oa + i < la.length, (0 : Int) ≤ (↑i : Int) ∧ (↑i : Int) < (↑na : Int), (!decide ([(la.getD (oa + (↑i : Int).toNat) []).getD ((0 : Nat) + (0 : Nat)) (0 : Int), (la.getD (oa + (↑i : Int).toNat) []).getD ((0 : Nat) + ((0 : Nat) + (1 : Nat))) (0 : Int)] = [(lb.getD (ob + (↑i : Int).toNat) []).getD ((0 : Nat) + (0 : Nat)) (0 : Int), (lb.getD (ob + (↑i : Int).toNat) []).getD ((0 : Nat) + ((0 : Nat) + (1 : Nat))) (0 : Int)])) = true]) := by kernel_rfl
theorem ev_end (la lb : List (List Int)) (oa ob na i : Nat) : runC g1 200 26 [.br false] evBody (evS oa ob na i) [.rows [.i64, .i64] la, .rows [.i64, .i64] lb] evKeep [0, 1] =
    some (Ex.exit (0 : Nat), [SV.sl (0 : Nat) (0 : Nat) oa (2 : Nat) (0 : Nat) na false, SV.sl (1 : Nat) (0 : Nat) ob (2 : Nat) (0 : Nat) na false, SV.int IntKind.i64 (↑i : Int)], [some (Body.rows [IntKind.i64, IntKind.i64] la), some (Body.rows [IntKind.i64, IntKind.i64] lb)], [Fits IntKind.i64 (↑na : Int), decide ((↑i : Int) < (↑na : Int)) = false]) := by kernel_rfl
def evG (e : List (Nat × SV)) (q : List (List Int) → List (List Int) → Nat → Nat → Nat → Nat → Prop) : LoopF := fun vals B => match vals, B with
  | [.sl 0 0 oa 2 0 na false, .sl 1 0 ob 2 0 nb false, .int .i64 0], [.rows [.i64, .i64] la, .rows [.i64, .i64] lb] => some (e, [.rows [.i64, .i64] la, .rows [.i64, .i64] lb], [q la lb oa ob na nb])
  | _, _ => none
def evQ (la lb : List (List Int)) (oa ob na nb : Nat) : Prop := nb = na ∧ Fits .i64 (na : Int) ∧ oa + na ≤ la.length ∧ ob + na ≤ lb.length ∧ (∀ r ∈ la, r.length = 2) ∧ (∀ r ∈ lb, r.length = 2) ∧ ∀ i, i < na → la.getD (oa + i) [] = lb.getD (ob + i) []
def evR (la lb : List (List Int)) (oa ob na nb : Nat) : Prop := nb = na ∧ Fits .i64 (na : Int) ∧ oa + na ≤ la.length ∧ ob + na ≤ lb.length ∧ (∀ r ∈ la, r.length = 2) ∧ (∀ r ∈ lb, r.length = 2) ∧ ∃ k, k < na ∧ (∀ i, i < k → la.getD (oa + i) [] = lb.getD (ob + i) []) ∧ la.getD (oa + k) [] ≠ lb.getD (ob + k) []


theorem ev_step {la lb : List (List Int)} {oa ob na i : Nat} (hf : Fits .i64 (na : Int)) (ha : oa + na ≤ la.length) (hb : ob + na ≤ lb.length) (ra : ∀ r ∈ la, r.length = 2) (rb : ∀ r ∈ lb, r.length = 2) (hi : i < na) {w0 : World} {O : Vx.Own} (hG : GlobOk g1 w0 O) :
    (la.getD (oa + i) [] = lb.getD (ob + i) [] → SimC g1.P w0 O 26 evBody (evS oa ob na i) [.rows [.i64, .i64] la, .rows [.i64, .i64] lb] .normal (evS oa ob na (i + 1)) [.rows [.i64, .i64] la, .rows [.i64, .i64] lb] 2) ∧
    (la.getD (oa + i) [] ≠ lb.getD (ob + i) [] → SimC g1.P w0 O 26 evBody (evS oa ob na i) [.rows [.i64, .i64] la, .rows [.i64, .i64] lb] .ret [(4, .bool false)] [.rows [.i64, .i64] la, .rows [.i64, .i64] lb] 2) := by
  have e1 := row2 ra (show oa + i < la.length by omega)
  have e2 := row2 rb (show ob + i < lb.length by omega)
  have hb' := fits_int hf
  have hfi : Fits .i64 ((i : Int) + 1) := by simp [Fits, IntKind.min, IntKind.max, IntKind.signed, IntKind.bits]; omega
  refine ⟨fun h => ?_, fun h => ?_⟩
  · refine SimC.run (B' := [.rows [.i64, .i64] la, .rows [.i64, .i64] lb]) g1_ok (by decide) (ev_go la lb oa ob na i) ?_ (by simp) (fun j hj => by match j, hj with
      | 0, _ => rfl
      | 1, _ => rfl
      | j + 2, hj => exact absurd hj (by omega)) (by decide) (by simp) hG
    have e3 := e1.trans (h.trans e2.symm)
    have h1 : oa + i < la.length := by omega
    have h2 : ob + i < lb.length := by omega
    simp only [allC_cons, allC_nil, and_true]
    exact ⟨hf, decide_eq_true (by omega), h2, h2, ⟨by omega, by omega⟩, h1, h1, ⟨by omega, by omega⟩, by rw [show ((i : Int)).toNat = i from rfl]; exact congrArg Bool.not (decide_eq_true e3), hfi⟩

  · refine SimC.run (B' := [.rows [.i64, .i64] la, .rows [.i64, .i64] lb]) (keep := [4]) g1_ok (by decide) (ev_no la lb oa ob na i) ?_ (by simp) (fun j hj => by match j, hj with
      | 0, _ => rfl
      | 1, _ => rfl
      | j + 2, hj => exact absurd hj (by omega)) (by decide) (by simp) hG
    have e3 : ¬ _ = _ := fun e => h (e1.symm.trans (e.trans e2))
    have h1 : oa + i < la.length := by omega
    have h2 : ob + i < lb.length := by omega
    simp only [allC_cons, allC_nil, and_true]
    exact ⟨hf, decide_eq_true (by omega), h2, h2, ⟨by omega, by omega⟩, h1, h1, ⟨by omega, by omega⟩, by rw [show ((i : Int)).toNat = i from rfl]; exact congrArg Bool.not (decide_eq_false e3)⟩

theorem ev_all : LoopGood g1 26 (.loop evBody) evKeep 2 (.exit 0) (mkLoopN (evG [] evQ)) := by
  refine LoopGood.mkN (by decide) fun vals B S' B' C hG hC hlen w0 O hgl => ?_
  clear hlen
  unfold evG at hG
  split at hG
  · simp only [Option.some.injEq, Prod.mk.injEq] at hG
    obtain ⟨rfl, rfl, rfl⟩ := hG
    simp only [allC_cons, allC_nil, and_true] at hC
    obtain ⟨rfl, hf, ha, hb, ra, rb, hq⟩ := hC
    rename_i oa ob na la lb
    refine SimC.iter (g := g1) (S := evS oa ob na) (B := fun _ => [.rows [.i64, .i64] la, .rows [.i64, .i64] lb]) (N := na) (fun i hi => (ev_step hf ha hb ra rb hi hgl).1 (hq i hi)) ?_ (by simp) 0 (by omega)
    refine SimC.weaken (SimC.run (B' := [.rows [.i64, .i64] la, .rows [.i64, .i64] lb]) g1_ok (by decide) (ev_end la lb oa ob na na) ?_ (by simp) (fun j hj => by match j, hj with
      | 0, _ => rfl
      | 1, _ => rfl
      | j + 2, hj => exact absurd hj (by omega)) (by decide) (by simp) hgl) fun t => .inr rfl
    simp [allC_cons, allC_nil, hf]
  · simp at hG
theorem ev_diff : LoopGood g1 26 (.loop evBody) evKeep 2 .ret (mkLoopN (evG [(4, .bool false)] evR)) := by
  refine LoopGood.mkN (by decide) fun vals B S' B' C hG hC hlen w0 O hgl => ?_
  clear hlen
  unfold evG at hG
  split at hG
  · simp only [Option.some.injEq, Prod.mk.injEq] at hG
    obtain ⟨rfl, rfl, rfl⟩ := hG
    simp only [allC_cons, allC_nil, and_true] at hC
    obtain ⟨rfl, hf, ha, hb, ra, rb, k, hk, hq, hne⟩ := hC
    rename_i oa ob na la lb
    exact SimC.iter (g := g1) (S := evS oa ob na) (B := fun _ => [.rows [.i64, .i64] la, .rows [.i64, .i64] lb]) (N := k) (fun i hi => (ev_step hf ha hb ra rb (by omega) hgl).1 (hq i hi)) ((ev_step hf ha hb ra rb hk hgl).2 hne) (by simp) 0 (by omega)
  · simp at hG

/-! ### rn -/
abbrev rnKeep : List Nat := [0, 1, 5]
noncomputable abbrev rnBody : Code := bodyAt Try.prog 27 4
abbrev rnS (oa ob na : Nat) (i : Nat) : List (Nat × SV) := rnKeep.zip [.sl 0 0 oa 3 0 na false, .sl 1 0 ob 3 0 na false, .int .i64 (i : Int)]
theorem rn_go (la lb : List (List Int)) (oa ob na i : Nat) : runC g1 200 26 [.br true, .br false] rnBody (rnS oa ob na i) [.rows [.i64, .i64, .i64] la, .rows [.i64, .i64, .i64] lb] rnKeep [0, 1] =
    some (Ex.normal, [SV.sl (0 : Nat) (0 : Nat) oa (3 : Nat) (0 : Nat) na false, SV.sl (1 : Nat) (0 : Nat) ob (3 : Nat) (0 : Nat) na false, SV.int IntKind.i64 ((↑i : Int) + (1 : Int))], [some (Body.rows [IntKind.i64, IntKind.i64, IntKind.i64] la), some (Body.rows [IntKind.i64, IntKind.i64, IntKind.i64] lb)], [Fits IntKind.i64 (↑na : Int), decide ((↑i : Int) < (↑na : Int)) = true, ob + i < lb.length, ob + i < lb.length, ob + i < lb.length, (0 : Int) ≤ (↑i : Int) ∧ (↑i : Int) < (↑na : Int), oa + i < la.length, oa + i < la.length, oa + i < la.length, (0 : Int) ≤ (↑i : Int) ∧ (↑i : Int) < (↑na : Int), (!decide ([(la.getD (oa + (↑i : Int).toNat) []).getD ((0 : Nat) + (0 : Nat)) (0 : Int), (la.getD (oa + (↑i : Int).toNat) []).getD ((0 : Nat) + ((0 : Nat) + (1 : Nat))) (0 : Int), (la.getD (oa + (↑i : Int).toNat) []).getD ((0 : Nat) + ((0 : Nat) + (1 : Nat) + (1 : Nat))) (0 : Int)] = [(lb.getD (ob + (↑i : Int).toNat) []).getD ((0 : Nat) + (0 : Nat)) (0 : Int), (lb.getD (ob + (↑i : Int).toNat) []).getD ((0 : Nat) + ((0 : Nat) + (1 : Nat))) (0 : Int), (lb.getD (ob + (↑i : Int).toNat) []).getD ((0 : Nat) + ((0 : Nat) + (1 : Nat) + (1 : Nat))) (0 : Int)])) = false, Fits IntKind.i64 ((↑i : Int) + (1 : Int))]) := by kernel_rfl
theorem rn_no (la lb : List (List Int)) (oa ob na i : Nat) : runC g1 200 26 [.br true, .br true] rnBody (rnS oa ob na i) [.rows [.i64, .i64, .i64] la, .rows [.i64, .i64, .i64] lb] [4] [0, 1] =
    some (Ex.ret, [SV.bool false], [some (Body.rows [IntKind.i64, IntKind.i64, IntKind.i64] la), some (Body.rows [IntKind.i64, IntKind.i64, IntKind.i64] lb)], [Fits IntKind.i64 (↑na : Int), decide ((↑i : Int) < (↑na : Int)) = true, ob + i < lb.length, ob + i < lb.length, ob + i < lb.length, (0 : Int) ≤ (↑i : Int) ∧ (↑i : Int) < (↑na : Int), oa + i < la.length, oa + i < la.length, oa + i < la.length, (0 : Int) ≤ (↑i : Int) ∧ (↑i : Int) < (↑na : Int), (!decide ([(la.getD (oa + (↑i : Int).toNat) []).getD ((0 : Nat) + (0 : Nat)) (0 : Int), (la.getD (oa + (↑i : Int).toNat) []).getD ((0 : Nat) + ((0 : Nat) + (1 : Nat))) (0 : Int), (la.getD (oa + (↑i : Int).toNat) []).getD ((0 : Nat) + ((0 : Nat) + (1 : Nat) + (1 : Nat))) (0 : Int)] = [(lb.getD (ob + (↑i : Int).toNat) []).getD ((0 : Nat) + (0 : Nat)) (0 : Int), (lb.getD (ob + (↑i : Int).toNat) []).getD ((0 : Nat) + ((0 : Nat) + (1 : Nat))) (0 : Int), (lb.getD (ob + (↑i : Int).toNat) []).getD ((0 : Nat) + ((0 : Nat) + (1 : Nat) + (1 : Nat))) (0 : Int)])) = true]) := by kernel_rfl
theorem rn_end (la lb : List (List Int)) (oa ob na i : Nat) : runC g1 200 26 [.br false] rnBody (rnS oa ob na i) [.rows [.i64, .i64, .i64] la, .rows [.i64, .i64, .i64] lb] rnKeep [0, 1] =
    some (Ex.exit (0 : Nat), [SV.sl (0 : Nat) (0 : Nat) oa (3 : Nat) (0 : Nat) na false, SV.sl (1 : Nat) (0 : Nat) ob (3 : Nat) (0 : Nat) na false, SV.int IntKind.i64 (↑i : Int)], [some (Body.rows [IntKind.i64, IntKind.i64, IntKind.i64] la), some (Body.rows [IntKind.i64, IntKind.i64, IntKind.i64] lb)], [Fits IntKind.i64 (↑na : Int), decide ((↑i : Int) < (↑na : Int)) = false]) := by kernel_rfl
def rnG (e : List (Nat × SV)) (q : List (List Int) → List (List Int) → Nat → Nat → Nat → Nat → Prop) : LoopF := fun vals B => match vals, B with
  | [.sl 0 0 oa 3 0 na false, .sl 1 0 ob 3 0 nb false, .int .i64 0], [.rows [.i64, .i64, .i64] la, .rows [.i64, .i64, .i64] lb] => some (e, [.rows [.i64, .i64, .i64] la, .rows [.i64, .i64, .i64] lb], [q la lb oa ob na nb])
  | _, _ => none
def rnQ (la lb : List (List Int)) (oa ob na nb : Nat) : Prop := nb = na ∧ Fits .i64 (na : Int) ∧ oa + na ≤ la.length ∧ ob + na ≤ lb.length ∧ (∀ r ∈ la, r.length = 3) ∧ (∀ r ∈ lb, r.length = 3) ∧ ∀ i, i < na → la.getD (oa + i) [] = lb.getD (ob + i) []
def rnR (la lb : List (List Int)) (oa ob na nb : Nat) : Prop := nb = na ∧ Fits .i64 (na : Int) ∧ oa + na ≤ la.length ∧ ob + na ≤ lb.length ∧ (∀ r ∈ la, r.length = 3) ∧ (∀ r ∈ lb, r.length = 3) ∧ ∃ k, k < na ∧ (∀ i, i < k → la.getD (oa + i) [] = lb.getD (ob + i) []) ∧ la.getD (oa + k) [] ≠ lb.getD (ob + k) []


theorem rn_step {la lb : List (List Int)} {oa ob na i : Nat} (hf : Fits .i64 (na : Int)) (ha : oa + na ≤ la.length) (hb : ob + na ≤ lb.length) (ra : ∀ r ∈ la, r.length = 3) (rb : ∀ r ∈ lb, r.length = 3) (hi : i < na) {w0 : World} {O : Vx.Own} (hG : GlobOk g1 w0 O) :
    (la.getD (oa + i) [] = lb.getD (ob + i) [] → SimC g1.P w0 O 26 rnBody (rnS oa ob na i) [.rows [.i64, .i64, .i64] la, .rows [.i64, .i64, .i64] lb] .normal (rnS oa ob na (i + 1)) [.rows [.i64, .i64, .i64] la, .rows [.i64, .i64, .i64] lb] 2) ∧
    (la.getD (oa + i) [] ≠ lb.getD (ob + i) [] → SimC g1.P w0 O 26 rnBody (rnS oa ob na i) [.rows [.i64, .i64, .i64] la, .rows [.i64, .i64, .i64] lb] .ret [(4, .bool false)] [.rows [.i64, .i64, .i64] la, .rows [.i64, .i64, .i64] lb] 2) := by
  have e1 := row3 ra (show oa + i < la.length by omega)
  have e2 := row3 rb (show ob + i < lb.length by omega)
  have hb' := fits_int hf
  have hfi : Fits .i64 ((i : Int) + 1) := by simp [Fits, IntKind.min, IntKind.max, IntKind.signed, IntKind.bits]; omega
  refine ⟨fun h => ?_, fun h => ?_⟩
  · refine SimC.run (B' := [.rows [.i64, .i64, .i64] la, .rows [.i64, .i64, .i64] lb]) g1_ok (by decide) (rn_go la lb oa ob na i) ?_ (by simp) (fun j hj => by match j, hj with
      | 0, _ => rfl
      | 1, _ => rfl
      | j + 2, hj => exact absurd hj (by omega)) (by decide) (by simp) hG
    have e3 := e1.trans (h.trans e2.symm)
    have h1 : oa + i < la.length := by omega
    have h2 : ob + i < lb.length := by omega
    simp only [allC_cons, allC_nil, and_true]
    exact ⟨hf, decide_eq_true (by omega), h2, h2, h2, ⟨by omega, by omega⟩, h1, h1, h1, ⟨by omega, by omega⟩, by rw [show ((i : Int)).toNat = i from rfl]; exact congrArg Bool.not (decide_eq_true e3), hfi⟩

  · refine SimC.run (B' := [.rows [.i64, .i64, .i64] la, .rows [.i64, .i64, .i64] lb]) (keep := [4]) g1_ok (by decide) (rn_no la lb oa ob na i) ?_ (by simp) (fun j hj => by match j, hj with
      | 0, _ => rfl
      | 1, _ => rfl
      | j + 2, hj => exact absurd hj (by omega)) (by decide) (by simp) hG
    have e3 : ¬ _ = _ := fun e => h (e1.symm.trans (e.trans e2))
    have h1 : oa + i < la.length := by omega
    have h2 : ob + i < lb.length := by omega
    simp only [allC_cons, allC_nil, and_true]
    exact ⟨hf, decide_eq_true (by omega), h2, h2, h2, ⟨by omega, by omega⟩, h1, h1, h1, ⟨by omega, by omega⟩, by rw [show ((i : Int)).toNat = i from rfl]; exact congrArg Bool.not (decide_eq_false e3)⟩

theorem rn_all : LoopGood g1 26 (.loop rnBody) rnKeep 2 (.exit 0) (mkLoopN (rnG [] rnQ)) := by
  refine LoopGood.mkN (by decide) fun vals B S' B' C hG hC hlen w0 O hgl => ?_
  clear hlen
  unfold rnG at hG
  split at hG
  · simp only [Option.some.injEq, Prod.mk.injEq] at hG
    obtain ⟨rfl, rfl, rfl⟩ := hG
    simp only [allC_cons, allC_nil, and_true] at hC
    obtain ⟨rfl, hf, ha, hb, ra, rb, hq⟩ := hC
    rename_i oa ob na la lb
    refine SimC.iter (g := g1) (S := rnS oa ob na) (B := fun _ => [.rows [.i64, .i64, .i64] la, .rows [.i64, .i64, .i64] lb]) (N := na) (fun i hi => (rn_step hf ha hb ra rb hi hgl).1 (hq i hi)) ?_ (by simp) 0 (by omega)
    refine SimC.weaken (SimC.run (B' := [.rows [.i64, .i64, .i64] la, .rows [.i64, .i64, .i64] lb]) g1_ok (by decide) (rn_end la lb oa ob na na) ?_ (by simp) (fun j hj => by match j, hj with
      | 0, _ => rfl
      | 1, _ => rfl
      | j + 2, hj => exact absurd hj (by omega)) (by decide) (by simp) hgl) fun t => .inr rfl
    simp [allC_cons, allC_nil, hf]
  · simp at hG
theorem rn_diff : LoopGood g1 26 (.loop rnBody) rnKeep 2 .ret (mkLoopN (rnG [(4, .bool false)] rnR)) := by
  refine LoopGood.mkN (by decide) fun vals B S' B' C hG hC hlen w0 O hgl => ?_
  clear hlen
  unfold rnG at hG
  split at hG
  · simp only [Option.some.injEq, Prod.mk.injEq] at hG
    obtain ⟨rfl, rfl, rfl⟩ := hG
    simp only [allC_cons, allC_nil, and_true] at hC
    obtain ⟨rfl, hf, ha, hb, ra, rb, k, hk, hq, hne⟩ := hC
    rename_i oa ob na la lb
    exact SimC.iter (g := g1) (S := rnS oa ob na) (B := fun _ => [.rows [.i64, .i64, .i64] la, .rows [.i64, .i64, .i64] lb]) (N := k) (fun i hi => (rn_step hf ha hb ra rb (by omega) hgl).1 (hq i hi)) ((rn_step hf ha hb ra rb hk hgl).2 hne) (by simp) 0 (by omega)
  · simp at hG

/-! ### eq -/
abbrev eqKeep : List Nat := [0, 1, 12, 13]
noncomputable abbrev eqBody : Code := bodyAt Try.prog 35 4
abbrev eqS (oa ob na : Nat) (i : Nat) : List (Nat × SV) := eqKeep.zip [.sl 0 0 oa 2 0 na false, .sl 1 0 ob 2 0 na false, .int .i64 (na : Int), .int .i64 (i : Int)]
theorem eq_go (la lb : List (List Int)) (oa ob na i : Nat) : runC g1 200 26 [.br true, .br false] eqBody (eqS oa ob na i) [.rows [.i64, .i64] la, .rows [.i64, .i64] lb] eqKeep [0, 1] =
    some (Ex.normal, [SV.sl (0 : Nat) (0 : Nat) oa (2 : Nat) (0 : Nat) na false, SV.sl (1 : Nat) (0 : Nat) ob (2 : Nat) (0 : Nat) na false, SV.int IntKind.i64 (↑na : Int), SV.int IntKind.i64 ((↑i : Int) + (1 : Int))], [some (Body.rows [IntKind.i64, IntKind.i64] la), some (Body.rows [IntKind.i64, IntKind.i64] lb)], [decide ((↑i : Int) < (↑na : Int)) = true, ob + i < lb.length, ob + i < lb.length, (0 : Int) ≤ (↑i : Int) ∧ (↑i : Int) < (↑na : Int), oa + i < la.length, oa + i < la.length, (0 : Int) ≤ (↑i : Int) ∧ (↑i : Int) < (↑na : Int), (!decide ([(la.getD (oa + (↑i : Int).toNat) []).getD ((0 : Nat) + (0 : Nat)) (0 : Int), (la.getD (oa + (↑i : Int).toNat) []).getD ((0 : Nat) + ((0 : Nat) + (1 : Nat))) (0 : Int)] = [(lb.getD (ob + (↑i : Int).toNat) []).getD ((0 : Nat) + (0 : Nat)) (0 : Int), (lb.getD (ob + (↑i : Int).toNat) []).getD ((0 : Nat) + ((0 : Nat) + (1 : Nat))) (0 : Int)])) = false, Fits IntKind.i64 ((↑i : Int) + (1 : Int))]) := by kernel_rfl
theorem eq_no (la lb : List (List Int)) (oa ob na i : Nat) : runC g1 200 26 [.br true, .br true] eqBody (eqS oa ob na i) [.rows [.i64, .i64] la, .rows [.i64, .i64] lb] [4] [0, 1] =
    some (Ex.ret, [SV.bool false], [some (Body.rows [IntKind.i64, IntKind.i64] la), some (Body.rows [IntKind.i64, IntKind.i64] lb)], [decide ((↑i : Int) < (↑na : Int)) = true, ob + i < lb.length, ob + i < lb.length, (0 : Int) ≤ (↑i : Int) ∧ (↑i : Int) < (↑na : Int), oa + i < la.length, oa + i < la.length, (0 : Int) ≤ (↑i : Int) ∧ (↑i : Int) < (↑na : Int), (!decide ([(la.getD (oa + (↑i : Int).toNat) []).getD ((0 : Nat) + (0 : Nat)) (0 : Int), (la.getD (oa + (↑i : Int).toNat) []).getD ((0 : Nat) + ((0 : Nat) + (1 : Nat))) (0 : Int)] = [(lb.getD (ob + (↑i : Int).toNat) []).getD ((0 : Nat) + (0 : Nat)) (0 : Int), (lb.getD (ob + (↑i : Int).toNat) []).getD ((0 : Nat) + ((0 : Nat) + (1 : Nat))) (0 : Int)])) = true]) := by kernel_rfl
theorem eq_end (la lb : List (List Int)) (oa ob na i : Nat) : runC g1 200 26 [.br false] eqBody (eqS oa ob na i) [.rows [.i64, .i64] la, .rows [.i64, .i64] lb] eqKeep [0, 1] =
    some (Ex.exit (0 : Nat), [SV.sl (0 : Nat) (0 : Nat) oa (2 : Nat) (0 : Nat) na false, SV.sl (1 : Nat) (0 : Nat) ob (2 : Nat) (0 : Nat) na false, SV.int IntKind.i64 (↑na : Int), SV.int IntKind.i64 (↑i : Int)], [some (Body.rows [IntKind.i64, IntKind.i64] la), some (Body.rows [IntKind.i64, IntKind.i64] lb)], [decide ((↑i : Int) < (↑na : Int)) = false]) := by kernel_rfl
def eqG (e : List (Nat × SV)) (q : List (List Int) → List (List Int) → Nat → Nat → Nat → Nat → Prop) : LoopF := fun vals B => match vals, B with
  | [.sl 0 0 oa 2 0 na false, .sl 1 0 ob 2 0 nb false, .int .i64 xl, .int .i64 0], [.rows [.i64, .i64] la, .rows [.i64, .i64] lb] => some (e, [.rows [.i64, .i64] la, .rows [.i64, .i64] lb], [q la lb oa ob na nb, xl = (na : Int)])
  | _, _ => none
def eqQ (la lb : List (List Int)) (oa ob na nb : Nat) : Prop := nb = na ∧ Fits .i64 (na : Int) ∧ oa + na ≤ la.length ∧ ob + na ≤ lb.length ∧ (∀ r ∈ la, r.length = 2) ∧ (∀ r ∈ lb, r.length = 2) ∧ ∀ i, i < na → la.getD (oa + i) [] = lb.getD (ob + i) []
def eqR (la lb : List (List Int)) (oa ob na nb : Nat) : Prop := nb = na ∧ Fits .i64 (na : Int) ∧ oa + na ≤ la.length ∧ ob + na ≤ lb.length ∧ (∀ r ∈ la, r.length = 2) ∧ (∀ r ∈ lb, r.length = 2) ∧ ∃ k, k < na ∧ (∀ i, i < k → la.getD (oa + i) [] = lb.getD (ob + i) []) ∧ la.getD (oa + k) [] ≠ lb.getD (ob + k) []


theorem eq_step {la lb : List (List Int)} {oa ob na i : Nat} (hf : Fits .i64 (na : Int)) (ha : oa + na ≤ la.length) (hb : ob + na ≤ lb.length) (ra : ∀ r ∈ la, r.length = 2) (rb : ∀ r ∈ lb, r.length = 2) (hi : i < na) {w0 : World} {O : Vx.Own} (hG : GlobOk g1 w0 O) :
    (la.getD (oa + i) [] = lb.getD (ob + i) [] → SimC g1.P w0 O 26 eqBody (eqS oa ob na i) [.rows [.i64, .i64] la, .rows [.i64, .i64] lb] .normal (eqS oa ob na (i + 1)) [.rows [.i64, .i64] la, .rows [.i64, .i64] lb] 2) ∧
    (la.getD (oa + i) [] ≠ lb.getD (ob + i) [] → SimC g1.P w0 O 26 eqBody (eqS oa ob na i) [.rows [.i64, .i64] la, .rows [.i64, .i64] lb] .ret [(4, .bool false)] [.rows [.i64, .i64] la, .rows [.i64, .i64] lb] 2) := by
  have e1 := row2 ra (show oa + i < la.length by omega)
  have e2 := row2 rb (show ob + i < lb.length by omega)
  have hb' := fits_int hf
  have hfi : Fits .i64 ((i : Int) + 1) := by simp [Fits, IntKind.min, IntKind.max, IntKind.signed, IntKind.bits]; omega
  refine ⟨fun h => ?_, fun h => ?_⟩
  · refine SimC.run (B' := [.rows [.i64, .i64] la, .rows [.i64, .i64] lb]) g1_ok (by decide) (eq_go la lb oa ob na i) ?_ (by simp) (fun j hj => by match j, hj with
      | 0, _ => rfl
      | 1, _ => rfl
      | j + 2, hj => exact absurd hj (by omega)) (by decide) (by simp) hG
    have e3 := e1.trans (h.trans e2.symm)
    have h1 : oa + i < la.length := by omega
    have h2 : ob + i < lb.length := by omega
    simp only [allC_cons, allC_nil, and_true]
    exact ⟨decide_eq_true (by omega), h2, h2, ⟨by omega, by omega⟩, h1, h1, ⟨by omega, by omega⟩, by rw [show ((i : Int)).toNat = i from rfl]; exact congrArg Bool.not (decide_eq_true e3), hfi⟩

  · refine SimC.run (B' := [.rows [.i64, .i64] la, .rows [.i64, .i64] lb]) (keep := [4]) g1_ok (by decide) (eq_no la lb oa ob na i) ?_ (by simp) (fun j hj => by match j, hj with
      | 0, _ => rfl
      | 1, _ => rfl
      | j + 2, hj => exact absurd hj (by omega)) (by decide) (by simp) hG
    have e3 : ¬ _ = _ := fun e => h (e1.symm.trans (e.trans e2))
    have h1 : oa + i < la.length := by omega
    have h2 : ob + i < lb.length := by omega
    simp only [allC_cons, allC_nil, and_true]
    exact ⟨decide_eq_true (by omega), h2, h2, ⟨by omega, by omega⟩, h1, h1, ⟨by omega, by omega⟩, by rw [show ((i : Int)).toNat = i from rfl]; exact congrArg Bool.not (decide_eq_false e3)⟩

theorem eq_all : LoopGood g1 26 (.loop eqBody) eqKeep 2 (.exit 0) (mkLoopN (eqG [] eqQ)) := by
  refine LoopGood.mkN (by decide) fun vals B S' B' C hG hC hlen w0 O hgl => ?_
  clear hlen
  unfold eqG at hG
  split at hG
  · simp only [Option.some.injEq, Prod.mk.injEq] at hG
    obtain ⟨rfl, rfl, rfl⟩ := hG
    simp only [allC_cons, allC_nil, and_true] at hC
    obtain ⟨⟨rfl, hf, ha, hb, ra, rb, hq⟩, rfl⟩ := hC
    rename_i oa ob na la lb
    refine SimC.iter (g := g1) (S := eqS oa ob na) (B := fun _ => [.rows [.i64, .i64] la, .rows [.i64, .i64] lb]) (N := na) (fun i hi => (eq_step hf ha hb ra rb hi hgl).1 (hq i hi)) ?_ (by simp) 0 (by omega)
    refine SimC.weaken (SimC.run (B' := [.rows [.i64, .i64] la, .rows [.i64, .i64] lb]) g1_ok (by decide) (eq_end la lb oa ob na na) ?_ (by simp) (fun j hj => by match j, hj with
      | 0, _ => rfl
      | 1, _ => rfl
      | j + 2, hj => exact absurd hj (by omega)) (by decide) (by simp) hgl) fun t => .inr rfl
    simp [allC_cons, allC_nil, hf]
  · simp at hG
theorem eq_diff : LoopGood g1 26 (.loop eqBody) eqKeep 2 .ret (mkLoopN (eqG [(4, .bool false)] eqR)) := by
  refine LoopGood.mkN (by decide) fun vals B S' B' C hG hC hlen w0 O hgl => ?_
  clear hlen
  unfold eqG at hG
  split at hG
  · simp only [Option.some.injEq, Prod.mk.injEq] at hG
    obtain ⟨rfl, rfl, rfl⟩ := hG
    simp only [allC_cons, allC_nil, and_true] at hC
    obtain ⟨⟨rfl, hf, ha, hb, ra, rb, k, hk, hq, hne⟩, rfl⟩ := hC
    rename_i oa ob na la lb
    exact SimC.iter (g := g1) (S := eqS oa ob na) (B := fun _ => [.rows [.i64, .i64] la, .rows [.i64, .i64] lb]) (N := k) (fun i hi => (eq_step hf ha hb ra rb (by omega) hgl).1 (hq i hi)) ((eq_step hf ha hb ra rb hk hgl).2 hne) (by simp) 0 (by omega)
  · simp at hG
end Go.Proofs.Ytkpkdingeomhnaa
