/- Accounts of this seat's functions: lemmas, no statement of their own. No conditions. -/
import Derived.Test.YtkpkdingeomhnaaTK
namespace Go.Proofs.Ytkpkdingeomhnaa
open Go Go.Vx
/-! ### TracePlays -/
abbrev ppKeep : List Nat := [0, 3, 4, 5, 6]
noncomputable abbrev ppBody : Code := bodyAt Try.prog 3 7
abbrev ppS (a : Nat → Nat → Int) (n i : Nat) : List (Nat × SV) := ppKeep.zip [.ro 3 n (scriptF a), .ptr 0 0, .ptr 1 0, .own 2, .int .i64 (i : Int)]
theorem pp_go1 (a : Nat → Nat → Int) (n i : Nat) (l m w : List (List Int)) : runC g4 300 87 [.br true, .br true, .br true, .br false, .br false] ppBody (ppS a n i) [.log l, .log m, .rows [.i64, .i64] w] ppKeep [0, 1, 6] =
    some (Ex.normal, [SV.ro (3 : Nat) n (scriptF a), SV.ptr (0 : Nat) (0 : Nat), SV.ptr (1 : Nat) (0 : Nat), SV.own (2 : Nat), SV.int IntKind.i64 ((↑i : Int) + (1 : Int))], [some (Body.log (l ++ stepL (a i (0 : Nat)) (a i (1 : Nat)) (decide (a (↑i : Int).toNat (2 : Nat) = (1 : Int))))), some (Body.log (m ++ stepL (a i (0 : Nat)) (a i (1 : Nat)) (decide (a (↑i : Int).toNat (2 : Nat) = (1 : Int))))), some (Body.rows [IntKind.i64, IntKind.i64] (w ++ [[evKind (a i (0 : Nat)), evVal (a i (0 : Nat)) (a i (1 : Nat)) (decide (a (↑i : Int).toNat (2 : Nat) = (1 : Int)))]]))], [decide ((↑i : Int) < (↑n : Int)) = true, Fits IntKind.i64 (↑n : Int), decide ((↑i : Int) < (2000 : Int)) = true, (0 : Int) ≤ (↑i : Int) ∧ (↑i : Int) < (↑n : Int), l.length < (1099511627776 : Nat), m.length < (1099511627776 : Nat), isEv (a i (0 : Nat)) = true, (w ++ [[evKind (a i (0 : Nat)), evVal (a i (0 : Nat)) (a i (1 : Nat)) (decide (a (↑i : Int).toNat (2 : Nat) = (1 : Int)))]]).length * (16 : Nat) ≤ (140737488355328 : Nat), m ++ stepL (a i (0 : Nat)) (a i (1 : Nat)) (decide (a (↑i : Int).toNat (2 : Nat) = (1 : Int))) = w ++ [[evKind (a i (0 : Nat)), evVal (a i (0 : Nat)) (a i (1 : Nat)) (decide (a (↑i : Int).toNat (2 : Nat) = (1 : Int)))]], (m ++ stepL (a i (0 : Nat)) (a i (1 : Nat)) (decide (a (↑i : Int).toNat (2 : Nat) = (1 : Int)))).length ≤ (2000 : Nat), false = false, l ++ stepL (a i (0 : Nat)) (a i (1 : Nat)) (decide (a (↑i : Int).toNat (2 : Nat) = (1 : Int))) = w ++ [[evKind (a i (0 : Nat)), evVal (a i (0 : Nat)) (a i (1 : Nat)) (decide (a (↑i : Int).toNat (2 : Nat) = (1 : Int)))]], (l ++ stepL (a i (0 : Nat)) (a i (1 : Nat)) (decide (a (↑i : Int).toNat (2 : Nat) = (1 : Int)))).length ≤ (2000 : Nat), false = false, Fits IntKind.i64 ((↑i : Int) + (1 : Int))]) := by kernel_rfl
theorem pp_go0 (a : Nat → Nat → Int) (n i : Nat) (l m w : List (List Int)) : runC g4 300 87 [.br true, .br true, .br false, .br false, .br false] ppBody (ppS a n i) [.log l, .log m, .rows [.i64, .i64] w] ppKeep [0, 1, 2] =
    some (Ex.normal, [SV.ro (3 : Nat) n (scriptF a), SV.ptr (0 : Nat) (0 : Nat), SV.ptr (1 : Nat) (0 : Nat), SV.own (2 : Nat), SV.int IntKind.i64 ((↑i : Int) + (1 : Int))], [some (Body.log (l ++ stepL (a i (0 : Nat)) (a i (1 : Nat)) (decide (a (↑i : Int).toNat (2 : Nat) = (1 : Int))))), some (Body.log (m ++ stepL (a i (0 : Nat)) (a i (1 : Nat)) (decide (a (↑i : Int).toNat (2 : Nat) = (1 : Int))))), some (Body.rows [IntKind.i64, IntKind.i64] w)], [decide ((↑i : Int) < (↑n : Int)) = true, Fits IntKind.i64 (↑n : Int), decide ((↑i : Int) < (2000 : Int)) = true, (0 : Int) ≤ (↑i : Int) ∧ (↑i : Int) < (↑n : Int), l.length < (1099511627776 : Nat), m.length < (1099511627776 : Nat), isEv (a i (0 : Nat)) = false, m ++ stepL (a i (0 : Nat)) (a i (1 : Nat)) (decide (a (↑i : Int).toNat (2 : Nat) = (1 : Int))) = w, (m ++ stepL (a i (0 : Nat)) (a i (1 : Nat)) (decide (a (↑i : Int).toNat (2 : Nat) = (1 : Int)))).length ≤ (2000 : Nat), false = false, l ++ stepL (a i (0 : Nat)) (a i (1 : Nat)) (decide (a (↑i : Int).toNat (2 : Nat) = (1 : Int))) = w, (l ++ stepL (a i (0 : Nat)) (a i (1 : Nat)) (decide (a (↑i : Int).toNat (2 : Nat) = (1 : Int)))).length ≤ (2000 : Nat), false = false, Fits IntKind.i64 ((↑i : Int) + (1 : Int))]) := by kernel_rfl
theorem pp_end (a : Nat → Nat → Int) (n i : Nat) (l m w : List (List Int)) : runC g4 300 87 [.br false] ppBody (ppS a n i) [.log l, .log m, .rows [.i64, .i64] w] ppKeep [0, 1, 2] =
    some (Ex.exit (0 : Nat), [SV.ro (3 : Nat) n (scriptF a), SV.ptr (0 : Nat) (0 : Nat), SV.ptr (1 : Nat) (0 : Nat), SV.own (2 : Nat), SV.int IntKind.i64 (↑i : Int)], [some (Body.log l), some (Body.log m), some (Body.rows [IntKind.i64, IntKind.i64] w)], [decide ((↑i : Int) < (↑n : Int)) = false, Fits IntKind.i64 (↑n : Int)]) := by kernel_rfl
theorem pp_most (a : Nat → Nat → Int) (n i : Nat) (l m w : List (List Int)) : runC g4 300 87 [.br true, .br false] ppBody (ppS a n i) [.log l, .log m, .rows [.i64, .i64] w] ppKeep [0, 1, 2] =
    some (Ex.exit (0 : Nat), [SV.ro (3 : Nat) n (scriptF a), SV.ptr (0 : Nat) (0 : Nat), SV.ptr (1 : Nat) (0 : Nat), SV.own (2 : Nat), SV.int IntKind.i64 (↑i : Int)], [some (Body.log l), some (Body.log m), some (Body.rows [IntKind.i64, IntKind.i64] w)], [decide ((↑i : Int) < (↑n : Int)) = true, Fits IntKind.i64 (↑n : Int), decide ((↑i : Int) < (2000 : Int)) = false]) := by kernel_rfl
theorem evs_snoc (a : Nat → Nat → Int) (i : Nat) : evs a (i + 1) = evs a i ++ stepL (a i 0) (a i 1) (decide (a i 2 = 1)) := rfl
theorem ids3 {k : Nat} : ∀ j : Nat, j < 2 → ([0, 1, k] : List Nat)[j]? = some j := fun j hj => by
  match j, hj with
  | 0, _ => rfl
  | 1, _ => rfl
theorem pp_step (a : Nat → Nat → Int) {n : Nat} (hn : Fits .i64 (n : Int)) {i : Nat} (h1 : i < n) (h2 : i < 2000) {w0 : World} {O : Vx.Own} (hG : GlobOk g4 w0 O) :
    SimC g4.P w0 O 87 ppBody (ppS a n i) [.log (evs a i), .log (evs a i), .rows [.i64, .i64] (evs a i)] .normal (ppS a n (i + 1)) [.log (evs a (i + 1)), .log (evs a (i + 1)), .rows [.i64, .i64] (evs a (i + 1))] 2 := by
  have hl := evs_len a i
  have hl1 := evs_len a (i + 1)
  have F4 := fits_i hn h1
  by_cases he : isEv (a i 0) = true
  · have e : stepL (a i 0) (a i 1) (decide (a i 2 = 1)) = [[evKind (a i 0), evVal (a i 0) (a i 1) (decide (a i 2 = 1))]] := by simp only [stepL, if_pos he]
    have e2 : evs a (i + 1) = evs a i ++ [[evKind (a i 0), evVal (a i 0) (a i 1) (decide (a i 2 = 1))]] := by rw [evs_snoc, e]
    refine SimC.run (B' := [.log (evs a (i + 1)), .log (evs a (i + 1)), .rows [.i64, .i64] (evs a (i + 1))]) (ids := [0, 1, 6]) g4_ok (by decide) (by have := pp_go1 a n i (evs a i) (evs a i) (evs a i); simp only [Int.toNat_natCast] at this; rw [← evs_snoc, ← e2] at this; exact this) ?_ (by decide) (fun j hj => ids3 j hj) (by decide) (by simp) hG
    (simp only [allC_cons, allC_nil, and_true]; repeat' (with_reducible (first | refine And.intro ?_ ?_ | exact True.intro | assumption | omega | exact decide_eq_true (by first | assumption | omega) | exact decide_eq_false (by first | assumption | omega) | rfl | (simp; done))))
  · have e : stepL (a i 0) (a i 1) (decide (a i 2 = 1)) = [] := by simp only [stepL, if_neg he]
    have e2 : evs a (i + 1) = evs a i := by rw [evs_snoc, e, List.append_nil]
    have he' : isEv (a i 0) = false := by simpa using he
    rw [e2]
    refine SimC.run (B' := [.log (evs a i), .log (evs a i), .rows [.i64, .i64] (evs a i)]) (ids := [0, 1, 2]) g4_ok (by decide) (by have := pp_go0 a n i (evs a i) (evs a i) (evs a i); simp only [Int.toNat_natCast] at this; rw [e, List.append_nil] at this; exact this) ?_ (by decide) (fun j hj => ids3 j hj) (by decide) (by simp) hG
    (simp only [allC_cons, allC_nil, and_true]; repeat' (with_reducible (first | refine And.intro ?_ ?_ | exact True.intro | assumption | omega | exact decide_eq_true (by first | assumption | omega) | exact decide_eq_false (by first | assumption | omega) | rfl | (simp; done))))
def ppG : LoopF := fun vals B => match vals, B with
  | [.ro 3 n f, .ptr 0 0, .ptr 1 0, .raw (.slice none 0 0), .int .i64 0], [.log [], .cells [.int .i64 0, .raw (.slice none 0 0)]] =>
    some ([(3, .ptr 0 0), (4, .ptr 1 0), (5, .own 2)], [.log (evs (aOf f) (min n 2000)), .log (evs (aOf f) (min n 2000)), .rows [.i64, .i64] (evs (aOf f) (min n 2000))], [f = scriptF (aOf f), Fits .i64 (n : Int)])
  | _, _ => none
abbrev pqKeep : List Nat := [3, 4, 5, 12]
noncomputable abbrev pqBody : Code := bodyAt Try.prog 3 18
abbrev pqS (i : Nat) : List (Nat × SV) := pqKeep.zip [.ptr 0 0, .ptr 1 0, .own 2, .int .i64 (i : Int)]
theorem pq_go (i : Nat) (l m w : List (List Int)) : runC g4 300 87 [.br true, .br false, .br false] pqBody (pqS i) [.log l, .log m, .rows [.i64, .i64] w] pqKeep [0, 1, 2] =
    some (Ex.normal, [SV.ptr (0 : Nat) (0 : Nat), SV.ptr (1 : Nat) (0 : Nat), SV.own (2 : Nat), SV.int IntKind.i64 ((↑i : Int) + (1 : Int))], [some (Body.log l), some (Body.log m), some (Body.rows [IntKind.i64, IntKind.i64] w)], [decide ((↑i : Int) ≤ (7 : Int)) = true, m = w, m.length ≤ (2000 : Nat), false = false, l = w, l.length ≤ (2000 : Nat), false = false, Fits IntKind.i64 ((↑i : Int) + (1 : Int))]) := by kernel_rfl
theorem pq_end (i : Nat) (l m w : List (List Int)) : runC g4 300 87 [.br false] pqBody (pqS i) [.log l, .log m, .rows [.i64, .i64] w] pqKeep [0, 1, 2] =
    some (Ex.exit (2 : Nat), [SV.ptr (0 : Nat) (0 : Nat), SV.ptr (1 : Nat) (0 : Nat), SV.own (2 : Nat), SV.int IntKind.i64 (↑i : Int)], [some (Body.log l), some (Body.log m), some (Body.rows [IntKind.i64, IntKind.i64] w)], [decide ((↑i : Int) ≤ (7 : Int)) = false]) := by kernel_rfl
def pqG : LoopF := fun vals B => match vals, B with
  | [.ptr 0 0, .ptr 1 0, .own 2, .int .i64 4], [.log l, .log m, .rows K w] => match sameKs K [.i64, .i64] with
    | true => some ([], [.log l, .log m, .rows [.i64, .i64] w], [l = w, m = w, w.length ≤ 2000])
    | false => none
  | _, _ => none
theorem pp_loop : LoopGood g4 87 (.loop ppBody) ppKeep 2 (.exit 0) (mkLoopN ppG) := by
  refine LoopGood.mkN (by decide) fun vals B S' B' C hG hC hlen w0 O hgl => ?_
  clear hlen
  unfold ppG at hG
  split at hG
  · rename_i n f
    simp only [Option.some.injEq, Prod.mk.injEq] at hG
    obtain ⟨rfl, rfl, rfl⟩ := hG
    simp only [allC_cons, allC_nil, and_true] at hC
    obtain ⟨hf, hn⟩ := hC
    generalize aOf f = a at hf ⊢
    subst hf
    refine SimC.log0 (l := false) 1 rfl (SimC.adoptS (.rows [.i64, .i64] []) 5 rfl rfl (by simp) (by simp) ?_)
    refine SimC.iter (g := g4) (S := ppS a n) (B := fun i => [.log (evs a i), .log (evs a i), .rows [.i64, .i64] (evs a i)]) (N := min n 2000) (fun i hi => pp_step a hn (by omega) (by omega) hgl) ?_ (by simp) 0 (by omega)
    by_cases h : n ≤ 2000
    · rw [Nat.min_eq_left h]
      refine SimC.weaken (SimC.run (B' := [.log (evs a n), .log (evs a n), .rows [.i64, .i64] (evs a n)]) (ids := [0, 1, 2]) g4_ok (by decide) (pp_end a n n _ _ _) ?_ (by decide) (fun j hj => ids3 j hj) (by decide) (by simp) hgl) (sub_mkT (by simp; exact ⟨rfl, rfl, rfl⟩))
      simp only [allC_cons, allC_nil, and_true]
      exact ⟨decide_eq_false (by omega), hn⟩
    · rw [Nat.min_eq_right (by omega)]
      refine SimC.weaken (SimC.run (B' := [.log (evs a 2000), .log (evs a 2000), .rows [.i64, .i64] (evs a 2000)]) (ids := [0, 1, 2]) g4_ok (by decide) (pp_most a n 2000 _ _ _) ?_ (by decide) (fun j hj => ids3 j hj) (by decide) (by simp) hgl) (sub_mkT (by simp; exact ⟨rfl, rfl, rfl⟩))
      simp only [allC_cons, allC_nil, and_true]
      exact ⟨decide_eq_true (by omega), hn, decide_eq_false (by decide)⟩
  · simp at hG
theorem pq_loop : LoopGood g4 87 (.loop pqBody) pqKeep 3 (.exit 2) (mkLoopN pqG) := by
  refine LoopGood.mkN (by decide) fun vals B S' B' C hG hC hlen w0 O hgl => ?_
  clear hlen
  unfold pqG at hG
  split at hG
  · rename_i l m K w
    split at hG
    · rename_i hK
      obtain rfl := sameKs_eq hK
      simp only [Option.some.injEq, Prod.mk.injEq] at hG
      obtain ⟨rfl, rfl, rfl⟩ := hG
      simp only [allC_cons, allC_nil, and_true] at hC
      obtain ⟨rfl, h2, hl⟩ := hC
      subst h2
      have i3 : ∀ j : Nat, j < 3 → ([0, 1, 2] : List Nat)[j]? = some j := fun j hj => by
        match j, hj with
        | 0, _ => rfl
        | 1, _ => rfl
        | 2, _ => rfl
      refine SimC.iter (g := g4) (S := fun i => pqS (4 + i)) (B := fun _ => [.log m, .log m, .rows [.i64, .i64] m]) (N := 4) (fun i hi => ?_) ?_ (by simp) 0 (by omega)
      · refine SimC.run (B' := [.log m, .log m, .rows [.i64, .i64] m]) (ids := [0, 1, 2]) g4_ok (by decide) (pq_go (4 + i) m m m) ?_ (by decide) i3 (by decide) (by simp) hgl
        have F : Fits .i64 (((4 + i : Nat) : Int) + 1) := fits_of (by omega) (by omega)
        (simp only [allC_cons, allC_nil, and_true]; repeat' (with_reducible (first | refine And.intro ?_ ?_ | exact True.intro | assumption | omega | exact decide_eq_true (by first | assumption | omega) | exact decide_eq_false (by first | assumption | omega) | rfl | (simp; done))))
      · refine SimC.weaken (SimC.run (B' := [.log m, .log m, .rows [.i64, .i64] m]) (ids := [0, 1, 2]) g4_ok (by decide) (pq_end (4 + 4) m m m) ?_ (by decide) i3 (by decide) (by simp) hgl) (fun t => .inr (by simp [mkT, tget, Tr.get_lf]))
        simp only [allC_cons, allC_nil, and_true]
        exact decide_eq_false (by decide)
    · simp at hG
  · simp at hG
theorem plays_run (n : Nat) (f : Nat → SV) : runF g4 300 [.loop 7 ppKeep 2 (.exit 0) (mkLoopN ppG), .loop 18 pqKeep 3 (.exit 2) (mkLoopN pqG)] 3 [.ro 3 n f] [] [] =
    some (SV.sbool true, [], [LoopGood g4 87 (.loop ppBody) ppKeep 2 (.exit 0) (mkLoopN ppG), f = scriptF (aOf f), Fits IntKind.i64 (↑n : Int), LoopGood g4 87 (.loop pqBody) pqKeep 3 (.exit 2) (mkLoopN pqG), evs (aOf f) (min n (2000 : Nat)) = evs (aOf f) (min n (2000 : Nat)), evs (aOf f) (min n (2000 : Nat)) = evs (aOf f) (min n (2000 : Nat)), (evs (aOf f) (min n (2000 : Nat))).length ≤ (2000 : Nat)]) := by kernel_rfl
theorem plays_ok (n : Nat) (a : Nat → Nat → Int) (hn : Fits .i64 (n : Int)) : FnOk g4 3 [.ro 3 n (scriptF a)] [] { val := .sbool true } := by
  have hs := aOf_script a
  have hl := evs_len (aOf (scriptF a)) (min n 2000)
  have h1 := pp_loop
  have h2 := pq_loop
  have h3 := hs.symm
  refine FnOk.pure g4_ok (plays_run n (scriptF a)) ?_
  (simp only [allC_cons, allC_nil, and_true]; repeat' (with_reducible (first | refine And.intro ?_ ?_ | exact True.intro | assumption | omega | exact decide_eq_true (by first | assumption | omega) | exact decide_eq_false (by first | assumption | omega) | rfl | (simp; done))))
end Go.Proofs.Ytkpkdingeomhnaa
