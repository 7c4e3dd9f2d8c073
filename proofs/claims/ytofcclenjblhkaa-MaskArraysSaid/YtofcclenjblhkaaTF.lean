/- Accounts of this seat's functions: lemmas, no statement of their own. No conditions. -/
import Derived.Test.YtofcclenjblhkaaTD
namespace Go.Proofs.Ytofcclenjblhkaa.arrays
open Go Go.Vx

def bitX (n : Nat) (a : Nat → Int) (i k : Nat) : Int := Int.ofNat (((listF n a 0).getD i 0).toNat ^^^ 1 * 2 ^ k % 256)
def turned (n : Nat) (a : Nat → Int) (i k : Nat) : Nat → Int := fun j => if i = j then bitX n a i k else a j
noncomputable abbrev t16 (t : Nat → Int) := svF (List.replicate 16 .u8) t 0
noncomputable abbrev t32 (t : Nat → Int) := svF (List.replicate 32 .u8) t 0
abbrev keep7 : List Nat := [5, 7, 11, 12, 4, 8]
noncomputable abbrev body7 : Code := bodyAt Try.prog 4 7
noncomputable abbrev S7 (s : Int) (i k : Nat) : List (Nat × SV) := keep7.zip [.ptr 0 0, .ptr 1 0, .int .i64 i, .int .i64 k, .int .u64 s, .ptr 2 0]
noncomputable abbrev BB (t a b : Nat → Int) : List Body := [.cells (t16 t), .cells (t32 a), .cells (t32 b)]
abbrev unlike (n : Nat) (a : Nat → Int) (i k : Nat) : List Prop := [(!decide ((if listF n a 0 = listF n (turned n a i k) 0 then (1 : Int) else 0) = 0)) = false, (!decide ((if listF n (turned n a i k) 0 = listF n a 0 then (1 : Int) else 0) = 0)) = false]
abbrev within (n i k : Nat) : List Prop := [i < n, 0 ≤ (i : Int) ∧ (i : Int) < (n : Int), 0 ≤ (k : Int), i < n, 0 ≤ (i : Int) ∧ (i : Int) < (n : Int)]

theorem r7a (t a b : Nat → Int) (s : Int) (i k : Nat) : runC g2 200 109 [.br true, .br false, .br false, .br true, .br false, .br false] body7 (S7 s i k) (BB t a b) keep7 [0, 1, 2] =
    some (.normal, [.ptr 0 0, .ptr 1 0, .int .i64 i, .int .i64 (k + 1), .int .u64 s, .ptr 2 0], (BB t a b).map some, [decide ((k : Int) < 8) = true] ++ within 32 i k ++ unlike 32 a i k ++ [decide ((i : Int) < 16) = true] ++ within 16 i k ++ unlike 16 t i k ++ [Fits .i64 (k + 1)]) := by kernel_rfl
theorem r7b (t a b : Nat → Int) (s : Int) (i k : Nat) : runC g2 200 109 [.br true, .br false, .br false, .br false] body7 (S7 s i k) (BB t a b) keep7 [0, 1, 2] =
    some (.normal, [.ptr 0 0, .ptr 1 0, .int .i64 i, .int .i64 (k + 1), .int .u64 s, .ptr 2 0], (BB t a b).map some, [decide ((k : Int) < 8) = true] ++ within 32 i k ++ unlike 32 a i k ++ [decide ((i : Int) < 16) = false, Fits .i64 (k + 1)]) := by kernel_rfl
theorem r7o (t a b : Nat → Int) (s : Int) (i : Nat) : runC g2 200 109 [.br false] body7 (S7 s i 8) (BB t a b) keep7 [0, 1, 2] =
    some (.exit 2, [.ptr 0 0, .ptr 1 0, .int .i64 i, .int .i64 (8 : Nat), .int .u64 s, .ptr 2 0], (BB t a b).map some, [decide (((8 : Nat) : Int) < 8) = false]) := by kernel_rfl

theorem turned_ne {n : Nat} {a : Nat → Int} {i k : Nat} (hi : i < n) (hk : k < 8) (hf : Fits .u8 (a i)) : ¬ listF n a 0 = listF n (turned n a i k) 0 := by
  rw [listF_eq0]
  intro h
  have := h i hi
  unfold turned at this
  rw [if_pos rfl] at this
  unfold bitX at this
  rw [List.getD_eq_getElem?_getD, listF_get, if_pos hi, Nat.zero_add] at this
  obtain ⟨x, hx, hx'⟩ := fits_u8 hf
  rw [hx] at this
  simp only [Option.getD_some, Int.toNat_natCast, Int.ofNat_eq_natCast] at this
  have h2 : x = x ^^^ 1 * 2 ^ k % 256 := by omega
  have h3 : x ^^^ x = x ^^^ (x ^^^ 1 * 2 ^ k % 256) := by rw [← h2]
  rw [Nat.xor_self, ← Nat.xor_assoc, Nat.xor_self, Nat.zero_xor] at h3
  have : ∀ k, k < 8 → ¬ 0 = 1 * 2 ^ k % 256 := by decide
  exact this k hk h3
theorem unlike_ok {n : Nat} {a : Nat → Int} {i k : Nat} (hi : i < n) (hk : k < 8) (hf : Fits .u8 (a i)) : AllC (unlike n a i k) := by
  have h1 := turned_ne (k := k) hi hk hf
  have h2 : ¬ listF n (turned n a i k) 0 = listF n a 0 := fun e => h1 e.symm
  simp only [allC_cons, allC_nil, and_true]
  rw [if_neg h1, if_neg h2]
  exact ⟨by decide, by decide⟩
theorem within_ok {n i k : Nat} (hi : i < n) : AllC (within n i k) := by
  simp only [allC_cons, allC_nil, and_true]
  refine ⟨hi, ⟨by omega, by omega⟩, by omega, hi, by omega, by omega⟩

noncomputable def G7 : LoopF := fun vals B => match vals, B with
  | [.ptr 0 0, .ptr 1 0, .int .i64 i, .int .i64 0, .int .u64 s, .ptr 2 0], [.cells xs, .cells ys, .cells zs] => match numsAs (List.replicate 16 .u8) xs, numsAs (List.replicate 32 .u8) ys, numsAs (List.replicate 32 .u8) zs with
    | some lt, some la, some lb => some ([(5, .ptr 0 0), (7, .ptr 1 0), (11, .int .i64 i), (4, .int .u64 s), (8, .ptr 2 0)], BB (atL lt) (atL la) (atL lb), [0 ≤ i ∧ i < 32])
    | _, _, _ => none
  | _, _ => none

theorem loop7 : LoopGood g2 109 (.loop body7) keep7 3 (.exit 2) (mkLoopN G7) := by
  refine LoopGood.mkN (by decide) fun vals B S' B' C hG hC hlen w0 O hgl => ?_
  clear hlen
  unfold G7 at hG
  split at hG
  · rename_i i s xs ys zs
    split at hG
    · rename_i lt la lb ht ha hb'
      simp only [Option.some.injEq, Prod.mk.injEq] at hG
      obtain ⟨rfl, rfl, rfl⟩ := hG
      have hi := hC.one
      obtain ⟨n, rfl⟩ : ∃ n : Nat, i = n := ⟨i.toNat, by omega⟩
      refine SimC.preI (B1 := BB (atL lt) (atL la) (atL lb)) ?_ ⟨cells_nums ht, cells_nums ha, cells_nums hb', trivial⟩
      refine SimC.facts (by simp) (by simp) fun _ hb => ?_
      have f1 := hb (.cells (t16 (atL lt))) (by simp)
      have f2 := hb (.cells (t32 (atL la))) (by simp)
      refine SimC.iter (g := g2) (S := S7 s n) (B := fun _ => BB (atL lt) (atL la) (atL lb)) (N := 8) (fun k hk => ?_) ?_ (by simp) 0 (by omega)
      · have ua := unlike_ok (n := 32) (a := atL la) (i := n) (k := k) (by omega) hk (by have := facts_svF f2 n .u8 (rep_get (by omega)); rwa [Nat.zero_add] at this)
        have wa := within_ok (n := 32) (i := n) (k := k) (by omega)
        have hk2 : Fits .i64 ((k : Int) + 1) := by simp [Fits, IntKind.min, IntKind.max, IntKind.signed, IntKind.bits]; omega
        have hk3 : (k : Int) < 8 := by omega
        by_cases h : n < 16
        · have ut := unlike_ok (n := 16) (a := atL lt) (i := n) (k := k) h hk (by have := facts_svF f1 n .u8 (rep_get h); rwa [Nat.zero_add] at this)
          have wt := within_ok (n := 16) (i := n) (k := k) h
          refine SimC.run (B' := BB (atL lt) (atL la) (atL lb)) g2_ok (by decide) (r7a (atL lt) (atL la) (atL lb) s n k) ?_ (by simp) (by intro j hj; match j, hj with | 0, _ => rfl | 1, _ => rfl | 2, _ => rfl) (by decide) (by simp) hgl
          have h2 : (n : Int) < 16 := by omega
          simp only [allC_append, ua, wa, ut, wt, allC_cons, allC_nil, hk2, hk3, h2]
          decide
        · refine SimC.run (B' := BB (atL lt) (atL la) (atL lb)) g2_ok (by decide) (r7b (atL lt) (atL la) (atL lb) s n k) ?_ (by simp) (by intro j hj; match j, hj with | 0, _ => rfl | 1, _ => rfl | 2, _ => rfl) (by decide) (by simp) hgl
          have h2 : ¬ (n : Int) < 16 := by omega
          simp only [allC_append, ua, wa, allC_cons, allC_nil, hk2, hk3, h2]
          decide
      · refine SimC.weaken (SimC.run (B' := BB (atL lt) (atL la) (atL lb)) g2_ok (by decide) (r7o (atL lt) (atL la) (atL lb) s n) ?_ (by simp) (by intro j hj; match j, hj with | 0, _ => rfl | 1, _ => rfl | 2, _ => rfl) (by decide) (by simp) hgl) fun t => ?_
        · simp [allC_cons, allC_nil]
        · refine sub_mkT (fun y hy => ?_) t
          simp at hy
          rcases hy with rfl | rfl | rfl | rfl | rfl <;> exact ⟨by simp, rfl⟩
    · simp at hG
  · simp at hG

abbrev keep4 : List Nat := [4, 5, 7, 8, 11]
noncomputable abbrev body4 : Code := bodyAt Try.prog 4 4
noncomputable abbrev S4 (s : Int) (i : Nat) : List (Nat × SV) := keep4.zip [.int .u64 s, .ptr 0 0, .ptr 1 0, .ptr 2 0, .int .i64 i]
theorem r4 (t a b : Nat → Int) (s : Int) (i : Nat) : runC g2 200 109 [.br true, .loop 7 keep7 3 (.exit 2) (mkLoopN G7)] body4 (S4 s i) (BB t a b) keep4 [0, 1, 2] =
    some (.normal, [.int .u64 s, .ptr 0 0, .ptr 1 0, .ptr 2 0, .int .i64 (i + 1)], (BB t a b).map some, [decide ((i : Int) < 32) = true, LoopGood g2 109 (.loop body7) keep7 3 (.exit 2) (mkLoopN G7), 0 ≤ (i : Int) ∧ (i : Int) < 32, Fits .i64 (i + 1)]) := by kernel_rfl
theorem r4o (t a b : Nat → Int) (s : Int) : runC g2 200 109 [.br false] body4 (S4 s 32) (BB t a b) keep4 [0, 1, 2] =
    some (.exit 0, [.int .u64 s, .ptr 0 0, .ptr 1 0, .ptr 2 0, .int .i64 (32 : Nat)], (BB t a b).map some, [decide (((32 : Nat) : Int) < 32) = false]) := by kernel_rfl
noncomputable def G4 : LoopF := fun vals B => match vals, B with
  | [.int .u64 s, .ptr 0 0, .ptr 1 0, .ptr 2 0, .int .i64 0], [.cells xs, .cells ys, .cells zs] => match numsAs (List.replicate 16 .u8) xs, numsAs (List.replicate 32 .u8) ys, numsAs (List.replicate 32 .u8) zs with
    | some lt, some la, some lb => some ([(4, .int .u64 s), (7, .ptr 1 0), (8, .ptr 2 0)], BB (atL lt) (atL la) (atL lb), [])
    | _, _, _ => none
  | _, _ => none
theorem loop4 : LoopGood g2 109 (.loop body4) keep4 3 (.exit 0) (mkLoopN G4) := by
  refine LoopGood.mkN (by decide) fun vals B S' B' C hG hC hlen w0 O hgl => ?_
  clear hlen
  unfold G4 at hG
  split at hG
  · rename_i s xs ys zs
    split at hG
    · rename_i lt la lb ht ha hb'
      simp only [Option.some.injEq, Prod.mk.injEq] at hG
      obtain ⟨rfl, rfl, rfl⟩ := hG
      refine SimC.preI (B1 := BB (atL lt) (atL la) (atL lb)) ?_ ⟨cells_nums ht, cells_nums ha, cells_nums hb', trivial⟩
      refine SimC.iter (g := g2) (S := S4 s) (B := fun _ => BB (atL lt) (atL la) (atL lb)) (N := 32) (fun i hi => ?_) ?_ (by simp) 0 (by omega)
      · refine SimC.run (B' := BB (atL lt) (atL la) (atL lb)) g2_ok (by decide) (r4 (atL lt) (atL la) (atL lb) s i) ?_ (by simp) (by intro j hj; match j, hj with | 0, _ => rfl | 1, _ => rfl | 2, _ => rfl) (by decide) (by simp) hgl
        simp only [allC_cons, allC_nil, loop7]
        simp [Fits, IntKind.min, IntKind.max, IntKind.signed, IntKind.bits]; omega
      · refine SimC.weaken (SimC.run (B' := BB (atL lt) (atL la) (atL lb)) g2_ok (by decide) (r4o (atL lt) (atL la) (atL lb) s) ?_ (by simp) (by intro j hj; match j, hj with | 0, _ => rfl | 1, _ => rfl | 2, _ => rfl) (by decide) (by simp) hgl) fun t => ?_
        · simp [allC_cons, allC_nil]
        · refine sub_mkT (fun y hy => ?_) t
          simp at hy
          rcases hy with rfl | rfl | rfl <;> exact ⟨by simp, rfl⟩
    · simp at hG
  · simp at hG

noncomputable abbrev aargs (t u a b : Nat → Int) (s : Int) : List SV := [.agg (t16 t), .agg (t16 u), .agg (t32 a), .agg (t32 b), .int .u64 s]
abbrev eqC (n : Nat) (t u : Nat → Int) : Prop := (!decide ((if listF n t 0 = listF n u 0 then (1 : Int) else 0) = if decide (listF n t 0 = listF n u 0) = true then 1 else 0)) = false
abbrev oneC (n : Nat) (t : Nat → Int) : Prop := (!decide ((if listF n t 0 = listF n t 0 then (1 : Int) else 0) = 1)) = false
abbrev goodC (t u a b : Nat → Int) (s : Int) (p : Bool) : List Prop := [eqC 16 t u, oneC 32 a, oneC 16 t, eqC 32 a b, LoopGood g2 109 (.loop body4) keep4 3 (.exit 0) (mkLoopN G4), decide (Int.ofNat (s.toNat % 2) = 0) = p]
theorem law1 (t u a b : Nat → Int) (s : Int) : runF g2 200 [.br false, .br false, .br false, .br false, .loop 4 keep4 3 (.exit 0) (mkLoopN G4), .br true] 4 (aargs t u a b s) [] [] =
    some (.sbool (decide (listF 32 (fun j => if s % 2 = 1 then a j else b j) 0 = listF 32 b 0)), [], goodC t u a b s true) := by kernel_rfl
theorem law0 (t u a b : Nat → Int) (s : Int) : runF g2 200 [.br false, .br false, .br false, .br false, .loop 4 keep4 3 (.exit 0) (mkLoopN G4), .br false] 4 (aargs t u a b s) [] [] =
    some (.sbool (decide (listF 32 (fun j => if s % 2 = 1 then a j else b j) 0 = listF 32 a 0)), [], goodC t u a b s false) := by kernel_rfl
theorem goodC_ok {t u a b : Nat → Int} {s : Int} {p : Bool} (h : decide (Int.ofNat (s.toNat % 2) = 0) = p) : AllC (goodC t u a b s p) := by
  simp only [allC_cons, allC_nil, and_true]
  exact ⟨by simp, by simp, by simp, by simp, loop4, h⟩
theorem arrays_ok (t u a b : Nat → Int) (s : Int) : FnOk g2 4 (aargs t u a b s) [] { val := .sbool true } := by
  refine FnOk.facts fun ⟨_, _, _, _, h0, _⟩ => ?_
  obtain ⟨m, rfl, hm⟩ := fits_u64 h0
  by_cases h : m % 2 = 1
  · have h2 : (m : Int) % 2 = 1 := by omega
    have := law0 t u a b m
    simp only [h2, if_true, decide_true] at this
    exact FnOk.pure g2_ok this (goodC_ok (by simp; omega))
  · have h2 : ¬ (m : Int) % 2 = 1 := by omega
    have := law1 t u a b m
    simp only [h2, if_false, decide_true] at this
    exact FnOk.pure g2_ok this (goodC_ok (by simp; omega))
end Go.Proofs.Ytofcclenjblhkaa.arrays
