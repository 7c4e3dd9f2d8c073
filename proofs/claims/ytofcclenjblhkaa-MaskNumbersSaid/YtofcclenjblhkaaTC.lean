/- Accounts of this seat's functions: lemmas, no statement of their own. No conditions. -/
import Derived.Test.YtofcclenjblhkaaTA
import Derived.Test.YtofcclenjblhkaaV3
namespace Go.Proofs.Ytofcclenjblhkaa.numbers
open Go Go.Vx

abbrev keep : List Nat := [0, 1, 2, 7, 9]
noncomputable abbrev S (a b s : Int) (i : Nat) : List (Nat × SV) := keep.zip [.int .u64 a, .int .u64 b, .int .u64 s, .own 0, .int .i64 i]
noncomputable abbrev body : Code := bodyAt Try.prog 3 9

theorem round1 (a b s : Int) (L : List Int) (i : Nat) : runC g1 400 107 [.br true, .br true, .br false, .br false, .br false, .br false, .br true, .br false, .br false, .br false, .br false] body (S a b s i) [.ints .u64 L] keep [0] =
    some (Ex.normal, [SV.int IntKind.u64 a, SV.int IntKind.u64 b, SV.int IntKind.u64 s, SV.own (0 : Nat), SV.int IntKind.i64 ((↑i : Int) + (1 : Int))], [some (Body.ints IntKind.u64 L)], [Fits IntKind.i64 (↑L.length : Int), decide ((↑i : Int) < (↑L.length : Int)) = true, i + (0 : Nat) < L.length, (0 : Int) ≤ (↑i : Int) ∧ (↑i : Int) < (↑(ecount (Body.ints IntKind.u64 L)) : Int), decide (Int.ofNat (s.toNat % (Int.ofNat (nat_lit 1 + (1 : Nat))).toNat) = Int.ofNat (0 : Nat)) = true, (!decide ((if a < L.getD ((↑i : Int).toNat + ((0 : Nat) + (0 : Nat))) (0 : Int) then (1 : Int) else (0 : Int)) = if decide (a < L.getD ((↑i : Int).toNat + ((0 : Nat) + (0 : Nat))) (0 : Int)) = true then (1 : Int) else (0 : Int))) = false, (!decide ((if L.getD ((↑i : Int).toNat + ((0 : Nat) + (0 : Nat))) (0 : Int) < a then (1 : Int) else (0 : Int)) = if decide (L.getD ((↑i : Int).toNat + ((0 : Nat) + (0 : Nat))) (0 : Int) < a) = true then (1 : Int) else (0 : Int))) = false, (!decide ((if L.getD ((↑i : Int).toNat + ((0 : Nat) + (0 : Nat))) (0 : Int) = a then (1 : Int) else (0 : Int)) = if decide (L.getD ((↑i : Int).toNat + ((0 : Nat) + (0 : Nat))) (0 : Int) = a) = true then (1 : Int) else (0 : Int))) = false, (!decide ((if s % (2 : Int) = (1 : Int) then L.getD ((↑i : Int).toNat + ((0 : Nat) + (0 : Nat))) (0 : Int) else a) = a)) = false, i + (0 : Nat) < L.length, (0 : Int) ≤ (↑i : Int) ∧ (↑i : Int) < (↑(ecount (Body.ints IntKind.u64 L)) : Int), i + (0 : Nat) < L.length, (0 : Int) ≤ (↑i : Int) ∧ (↑i : Int) < (↑(ecount (Body.ints IntKind.u64 L)) : Int), decide (Int.ofNat (s.toNat % (Int.ofNat (nat_lit 1 + (1 : Nat))).toNat) = Int.ofNat (0 : Nat)) = true, (!decide ((if L.getD ((↑i : Int).toNat + ((0 : Nat) + (0 : Nat))) (0 : Int) < b then (1 : Int) else (0 : Int)) = if decide (L.getD ((↑i : Int).toNat + ((0 : Nat) + (0 : Nat))) (0 : Int) < b) = true then (1 : Int) else (0 : Int))) = false, (!decide ((if b < L.getD ((↑i : Int).toNat + ((0 : Nat) + (0 : Nat))) (0 : Int) then (1 : Int) else (0 : Int)) = if decide (b < L.getD ((↑i : Int).toNat + ((0 : Nat) + (0 : Nat))) (0 : Int)) = true then (1 : Int) else (0 : Int))) = false, (!decide ((if b = L.getD ((↑i : Int).toNat + ((0 : Nat) + (0 : Nat))) (0 : Int) then (1 : Int) else (0 : Int)) = if decide (b = L.getD ((↑i : Int).toNat + ((0 : Nat) + (0 : Nat))) (0 : Int)) = true then (1 : Int) else (0 : Int))) = false, (!decide ((if s % (2 : Int) = (1 : Int) then b else L.getD ((↑i : Int).toNat + ((0 : Nat) + (0 : Nat))) (0 : Int)) = L.getD ((↑i : Int).toNat + ((0 : Nat) + (0 : Nat))) (0 : Int))) = false, Fits IntKind.i64 ((↑i : Int) + (1 : Int))]) := by kernel_rfl
theorem round0 (a b s : Int) (L : List Int) (i : Nat) : runC g1 400 107 [.br true, .br false, .br false, .br false, .br false, .br false, .br false, .br false, .br false, .br false, .br false] body (S a b s i) [.ints .u64 L] keep [0] =
    some (Ex.normal, [SV.int IntKind.u64 a, SV.int IntKind.u64 b, SV.int IntKind.u64 s, SV.own (0 : Nat), SV.int IntKind.i64 ((↑i : Int) + (1 : Int))], [some (Body.ints IntKind.u64 L)], [Fits IntKind.i64 (↑L.length : Int), decide ((↑i : Int) < (↑L.length : Int)) = true, i + (0 : Nat) < L.length, (0 : Int) ≤ (↑i : Int) ∧ (↑i : Int) < (↑(ecount (Body.ints IntKind.u64 L)) : Int), decide (Int.ofNat (s.toNat % (Int.ofNat (nat_lit 1 + (1 : Nat))).toNat) = Int.ofNat (0 : Nat)) = false, (!decide ((if a < L.getD ((↑i : Int).toNat + ((0 : Nat) + (0 : Nat))) (0 : Int) then (1 : Int) else (0 : Int)) = if decide (a < L.getD ((↑i : Int).toNat + ((0 : Nat) + (0 : Nat))) (0 : Int)) = true then (1 : Int) else (0 : Int))) = false, (!decide ((if L.getD ((↑i : Int).toNat + ((0 : Nat) + (0 : Nat))) (0 : Int) < a then (1 : Int) else (0 : Int)) = if decide (L.getD ((↑i : Int).toNat + ((0 : Nat) + (0 : Nat))) (0 : Int) < a) = true then (1 : Int) else (0 : Int))) = false, (!decide ((if L.getD ((↑i : Int).toNat + ((0 : Nat) + (0 : Nat))) (0 : Int) = a then (1 : Int) else (0 : Int)) = if decide (L.getD ((↑i : Int).toNat + ((0 : Nat) + (0 : Nat))) (0 : Int) = a) = true then (1 : Int) else (0 : Int))) = false, (!decide ((if s % (2 : Int) = (1 : Int) then L.getD ((↑i : Int).toNat + ((0 : Nat) + (0 : Nat))) (0 : Int) else a) = L.getD ((↑i : Int).toNat + ((0 : Nat) + (0 : Nat))) (0 : Int))) = false, i + (0 : Nat) < L.length, (0 : Int) ≤ (↑i : Int) ∧ (↑i : Int) < (↑(ecount (Body.ints IntKind.u64 L)) : Int), i + (0 : Nat) < L.length, (0 : Int) ≤ (↑i : Int) ∧ (↑i : Int) < (↑(ecount (Body.ints IntKind.u64 L)) : Int), decide (Int.ofNat (s.toNat % (Int.ofNat (nat_lit 1 + (1 : Nat))).toNat) = Int.ofNat (0 : Nat)) = false, (!decide ((if L.getD ((↑i : Int).toNat + ((0 : Nat) + (0 : Nat))) (0 : Int) < b then (1 : Int) else (0 : Int)) = if decide (L.getD ((↑i : Int).toNat + ((0 : Nat) + (0 : Nat))) (0 : Int) < b) = true then (1 : Int) else (0 : Int))) = false, (!decide ((if b < L.getD ((↑i : Int).toNat + ((0 : Nat) + (0 : Nat))) (0 : Int) then (1 : Int) else (0 : Int)) = if decide (b < L.getD ((↑i : Int).toNat + ((0 : Nat) + (0 : Nat))) (0 : Int)) = true then (1 : Int) else (0 : Int))) = false, (!decide ((if b = L.getD ((↑i : Int).toNat + ((0 : Nat) + (0 : Nat))) (0 : Int) then (1 : Int) else (0 : Int)) = if decide (b = L.getD ((↑i : Int).toNat + ((0 : Nat) + (0 : Nat))) (0 : Int)) = true then (1 : Int) else (0 : Int))) = false, (!decide ((if s % (2 : Int) = (1 : Int) then b else L.getD ((↑i : Int).toNat + ((0 : Nat) + (0 : Nat))) (0 : Int)) = b)) = false, Fits IntKind.i64 ((↑i : Int) + (1 : Int))]) := by kernel_rfl
theorem out_ (a b s : Int) (L : List Int) (i : Nat) : runC g1 400 107 [.br false] body (S a b s i) [.ints .u64 L] keep [0] =
    some (Ex.exit (2 : Nat), [SV.int IntKind.u64 a, SV.int IntKind.u64 b, SV.int IntKind.u64 s, SV.own (0 : Nat), SV.int IntKind.i64 (↑i : Int)], [some (Body.ints IntKind.u64 L)], [Fits IntKind.i64 (↑L.length : Int), decide ((↑i : Int) < (↑L.length : Int)) = false]) := by kernel_rfl
theorem keepOk : ∀ k ∈ keep, k < 65535 := by decide
noncomputable def G : LoopF := fun vals B => match vals, B with
  | [.int .u64 a, .int .u64 b, .int .u64 s, .own 0, .int .i64 0], [.ints .u64 L] => some ([(0, .int .u64 a)], [.ints .u64 L], [L.length = 72])
  | _, _ => none

theorem loop_ : LoopGood g1 107 (.loop body) keep 1 (.exit 2) (mkLoopN G) := by
  refine LoopGood.mkN keepOk fun vals B S' B' C hG hC hlen w0 O hgl => ?_
  clear hlen
  unfold G at hG
  split at hG
  · rename_i a b s L
    simp only [Option.some.injEq, Prod.mk.injEq] at hG
    obtain ⟨rfl, rfl, rfl⟩ := hG
    have hL : L.length = 72 := hC.one
    refine SimC.facts (by simp) (by simp) fun hf hb => ?_
    have hs : Fits .u64 s := hf (2, .int .u64 s) (by simp)
    obtain ⟨n, rfl, hn⟩ := fits_u64 hs
    have := SimC.iter (g := g1) (w0 := w0) (O := O) (nT := 107) (c := body) (m := 1) (e := .exit 2) (S := S a b n) (B := fun _ => [.ints .u64 L]) (N := 72) (S' := [(0, .int .u64 a)]) (B' := [.ints .u64 L])
      (fun i hi => ?_) ?_ (by simp) 0 (by omega)
    · exact this
    · by_cases h1 : n % 2 = 1
      · have h2 : (n : Int) % 2 = 1 := by omega
        refine SimC.run (B' := [.ints .u64 L]) g1_ok (by decide) (round0 a b n L i) ?_ (by simp) (by simp) keepOk (by simp) hgl
        simp only [allC_cons, allC_nil, ecount, Int.toNat_natCast, Int.ofNat_eq_natCast, h1, h2, hL]
        simp [Fits, IntKind.min, IntKind.max, IntKind.signed, IntKind.bits]
        omega
      · have h2 : ¬ (n : Int) % 2 = 1 := by omega
        have h3 : n % 2 = 0 := by omega
        refine SimC.run (B' := [.ints .u64 L]) g1_ok (by decide) (round1 a b n L i) ?_ (by simp) (by simp) keepOk (by simp) hgl
        simp only [allC_cons, allC_nil, ecount, Int.toNat_natCast, Int.ofNat_eq_natCast, h2, h3, hL]
        simp [Fits, IntKind.min, IntKind.max, IntKind.signed, IntKind.bits, h3]
        omega
    · refine SimC.weaken (SimC.run (B' := [.ints .u64 L]) g1_ok (by decide) (out_ a b n L 72) ?_ (by simp) (by simp) keepOk (by simp) hgl) fun t => ?_
      · simp [allC_cons, allC_nil, hL, Fits, IntKind.min, IntKind.max, IntKind.signed, IntKind.bits]
      · exact sub_mkT (by intro y hy; simp at hy; subst hy; exact ⟨by simp, rfl⟩) t
  · simp at hG

/-! the first loop: the list grows -/
abbrev keep5 : List Nat := [0, 1, 2, 7, 8]
noncomputable abbrev S5 (a b s : Int) (x y : SV) : List (Nat × SV) := keep5.zip [.int .u64 a, .int .u64 b, .int .u64 s, x, y]
noncomputable abbrev body5 : Code := bodyAt Try.prog 3 5
def grow (L : List Int) (a : Int) : Nat → List Int
  | 0 => L
  | n + 1 => grow L a n ++ [Int.ofNat (a.toNat ^^^ 1 * 2 ^ n % 18446744073709551616)]
theorem grow_len (L : List Int) (a : Int) : ∀ n, (grow L a n).length = L.length + n
  | 0 => rfl
  | n + 1 => by simp [grow, grow_len L a n]; omega
theorem first5 (a b s : Int) (L : Nat → Int) : runC g1 400 107 [.br true] body5 (S5 a b s (.sl 0 8 0 1 0 8 true) (.int .i64 0)) [.cells (svF (List.replicate 8 .u64) L 0)] keep5 [2] =
    some (.normal, [.int .u64 a, .int .u64 b, .int .u64 s, .own 0, .int .i64 (0 + 1)], [some (.ints .u64 (grow (listF 8 L 0) a 1))], [decide ((0 : Int) < 64) = true, (grow (listF 8 L 0) a 1).length * 8 ≤ 2 ^ 47, (0 : Int) ≤ 0, Fits .i64 (0 + 1)]) := by kernel_rfl
theorem step5 (a b s : Int) (L : List Int) (i : Nat) : runC g1 400 107 [.br true] body5 (S5 a b s (.own 0) (.int .i64 i)) [.ints .u64 (grow L a i)] keep5 [2] =
    some (.normal, [.int .u64 a, .int .u64 b, .int .u64 s, .own 0, .int .i64 (i + 1)], [some (.ints .u64 (grow L a (i + 1)))], [decide ((i : Int) < 64) = true, (grow L a (i + 1)).length * 8 ≤ 2 ^ 47, 0 ≤ (i : Int), Fits .i64 (i + 1)]) := by kernel_rfl
theorem out5 (a b s : Int) (L : List Int) : runC g1 400 107 [.br false] body5 (S5 a b s (.own 0) (.int .i64 (64 : Nat))) [.ints .u64 L] keep5 [0] =
    some (.exit 0, [.int .u64 a, .int .u64 b, .int .u64 s, .own 0, .int .i64 (64 : Nat)], [some (.ints .u64 L)], [decide (((64 : Nat) : Int) < 64) = false]) := by kernel_rfl

noncomputable def G5 : LoopF := fun vals B => match vals, B with
  | [.int .u64 a, .int .u64 b, .int .u64 s, .sl 0 8 0 1 0 8 true, .int .i64 0], [.cells [.int .u64 x0, .int .u64 x1, .int .u64 x2, .int .u64 x3, .int .u64 x4, .int .u64 x5, .int .u64 x6, .int .u64 x7]] =>
    some ([(0, .int .u64 a), (1, .int .u64 b), (2, .int .u64 s), (7, .own 0)], [.ints .u64 (grow [x0, x1, x2, x3, x4, x5, x6, x7] a 64)], [])
  | _, _ => none
theorem loop5 : LoopGood g1 107 (.loop body5) keep5 0 (.exit 0) (mkLoopN G5) := by
  refine LoopGood.mkN (by decide) fun vals B S' B' C hG hC hlen w0 O hgl => ?_
  clear hlen
  unfold G5 at hG
  split at hG
  · rename_i a b s x0 x1 x2 x3 x4 x5 x6 x7
    simp only [Option.some.injEq, Prod.mk.injEq] at hG
    obtain ⟨rfl, rfl, rfl⟩ := hG
    let L : Nat → Int := fun j => ([x0, x1, x2, x3, x4, x5, x6, x7] : List Int).getD j 0
    have h0 : SimC g1.P w0 O 107 body5 (S5 a b s (.sl 0 8 0 1 0 8 true) (.int .i64 0)) [.cells (svF (List.replicate 8 .u64) L 0)] .normal (S5 a b s (.own 0) (.int .i64 ((1 : Nat) : Int))) [.ints .u64 (grow (listF 8 L 0) a 1)] 0 :=
      SimC.run (B' := [.ints .u64 (grow (listF 8 L 0) a 1)]) g1_ok (by decide) (first5 a b s L) (by
        simp [allC_cons, allC_nil, grow_len, listF_length, Fits, IntKind.min, IntKind.max, IntKind.signed, IntKind.bits]) (by simp) (by simp) (by decide) (by simp) hgl
    have h1 : SimC g1.P w0 O 107 (.loop body5) (S5 a b s (.own 0) (.int .i64 ((1 : Nat) : Int))) [.ints .u64 (grow (listF 8 L 0) a 1)] (.exit 0) [(0, .int .u64 a), (1, .int .u64 b), (2, .int .u64 s), (7, .own 0)] [.ints .u64 (grow (listF 8 L 0) a 64)] 0 := by
      refine SimC.iter (g := g1) (S := fun i => S5 a b s (.own 0) (.int .i64 i)) (B := fun i => [.ints .u64 (grow (listF 8 L 0) a i)]) (N := 64) (fun i hi => ?_) ?_ (by simp) 1 (by omega)
      · refine SimC.run (B' := [.ints .u64 (grow (listF 8 L 0) a (i + 1))]) g1_ok (by decide) (step5 a b s (listF 8 L 0) i) ?_ (by simp) (by simp) (by decide) (by simp) hgl
        simp [allC_cons, allC_nil, grow_len, listF_length, Fits, IntKind.min, IntKind.max, IntKind.signed, IntKind.bits]
        omega
      · refine SimC.weaken (SimC.run (B' := [.ints .u64 (grow (listF 8 L 0) a 64)]) g1_ok (by decide) (out5 a b s _) ?_ (by simp) (by simp) (by decide) (by simp) hgl) fun t => ?_
        · simp [allC_cons, allC_nil]
        · refine sub_mkT (fun y hy => ?_) t
          simp at hy
          rcases hy with rfl | rfl | rfl | rfl <;> exact ⟨by simp, rfl⟩
    exact SimC.next (Nat.le_refl _) h0 h1
  · simp at hG

theorem law (a b s : Int) : runF g1 400 [.loop 5 keep5 0 (.exit 0) (mkLoopN G5), .loop 9 keep 1 (.exit 2) (mkLoopN G), .br true, .br true] 3 [.int .u64 a, .int .u64 b, .int .u64 s] [] [] =
    some (SV.sbool (decide ((if a < a then (1 : Int) else (0 : Int)) = Int.ofNat (0 : Nat))), [], [LoopGood g1 107 (.loop body5) keep5 0 (.exit 0) (mkLoopN G5), LoopGood g1 107 (.loop body) keep 1 (.exit 2) (mkLoopN G), (grow [a, b, Int.ofNat ((a.toNat + (1 : Nat)) % (18446744073709551616 : Nat)), Int.ofNat ((b.toNat + (18446744073709551615 : Nat)) % (18446744073709551616 : Nat)), (0 : Int), (18446744073709551615 : Int), (9223372036854775808 : Int), (9223372036854775807 : Int)] a (64 : Nat)).length = (72 : Nat), decide ((if a = a then (1 : Int) else (0 : Int)) = Int.ofNat (nat_lit 0 + (1 : Nat))) = true]) := by kernel_rfl
theorem law_ok (a b s : Int) : FnOk g1 3 [.int .u64 a, .int .u64 b, .int .u64 s] [] { val := .sbool true } := by
  have h := law a b s
  simp only [Int.lt_irrefl, if_false, decide_true, Int.ofNat_eq_natCast, Int.natCast_zero] at h
  exact FnOk.pure g1_ok h (by
    simp only [allC_cons, allC_nil, and_true]
    exact ⟨loop5, loop_, by rw [grow_len]; rfl, by simp⟩)
end Go.Proofs.Ytofcclenjblhkaa.numbers
