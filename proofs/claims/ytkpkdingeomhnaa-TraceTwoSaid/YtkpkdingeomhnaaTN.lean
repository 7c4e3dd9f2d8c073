/- Accounts of this seat's functions: lemmas, no statement of their own. No conditions. -/
import Derived.Test.YtkpkdingeomhnaaTM
namespace Go.Proofs.Ytkpkdingeomhnaa
open Go Go.Vx
/-! ### TraceTwo -/
abbrev twKeep : List Nat := [0, 1, 5, 6, 7]
noncomputable abbrev twBody : Code := bodyAt Try.prog 5 6
abbrev twS (a : Nat → Nat → Int) (n : Nat) (b : Nat → Nat → Int) (m : Nat) (i : Nat) : List (Nat × SV) := twKeep.zip [.ro 3 n (scriptF a), .ro 3 m (scriptF b), .ptr 0 0, .ptr 1 0, .int .i64 (i : Int)]
theorem tw_tt0 (a : Nat → Nat → Int) (n : Nat) (b : Nat → Nat → Int) (m i : Nat) (l w : List (List Int)) : runC g4 300 85 [.br true, .br true, .br true, .br true, .br false] twBody (twS a n b m i) [.log l, .log w] twKeep [0, 1] =
    some (Ex.normal, [SV.ro (3 : Nat) n (scriptF a), SV.ro (3 : Nat) m (scriptF b), SV.ptr (0 : Nat) (0 : Nat), SV.ptr (1 : Nat) (0 : Nat), SV.int IntKind.i64 ((↑i : Int) + (1 : Int))], [some (Body.log (l ++ stepL (a i (0 : Nat)) (a i (1 : Nat)) (decide (a (↑i : Int).toNat (2 : Nat) = (1 : Int))))), some (Body.log (w ++ stepL (b i (0 : Nat)) (b i (1 : Nat)) (decide (b (↑i : Int).toNat (2 : Nat) = (1 : Int)))))], [decide ((↑i : Int) < (↑n : Int)) = true, Fits IntKind.i64 (↑n : Int), decide ((↑i : Int) < (2000 : Int)) = true, Fits IntKind.i64 (↑n : Int), decide ((↑i : Int) < (↑n : Int)) = true, l.length < (1099511627776 : Nat), (0 : Int) ≤ (↑i : Int) ∧ (↑i : Int) < (↑n : Int), Fits IntKind.i64 (↑m : Int), decide ((↑i : Int) < (↑m : Int)) = true, w.length < (1099511627776 : Nat), (0 : Int) ≤ (↑i : Int) ∧ (↑i : Int) < (↑m : Int), decide ((↑i : Int) = (2 : Int)) = false, Fits IntKind.i64 ((↑i : Int) + (1 : Int))]) := by kernel_rfl
theorem tw_tt1 (a : Nat → Nat → Int) (n : Nat) (b : Nat → Nat → Int) (m i : Nat) (l w : List (List Int)) : runC g4 300 85 [.br true, .br true, .br true, .br true, .br true, .br true] twBody (twS a n b m i) [.log l, .log w] twKeep [0, 1] =
    some (Ex.normal, [SV.ro (3 : Nat) n (scriptF a), SV.ro (3 : Nat) m (scriptF b), SV.ptr (0 : Nat) (0 : Nat), SV.ptr (1 : Nat) (0 : Nat), SV.int IntKind.i64 ((↑i : Int) + (1 : Int))], [some (Body.log (l ++ stepL (a i (0 : Nat)) (a i (1 : Nat)) (decide (a (↑i : Int).toNat (2 : Nat) = (1 : Int))))), some (Body.log (w ++ stepL (b i (0 : Nat)) (b i (1 : Nat)) (decide (b (↑i : Int).toNat (2 : Nat) = (1 : Int)))))], [decide ((↑i : Int) < (↑n : Int)) = true, Fits IntKind.i64 (↑n : Int), decide ((↑i : Int) < (2000 : Int)) = true, Fits IntKind.i64 (↑n : Int), decide ((↑i : Int) < (↑n : Int)) = true, l.length < (1099511627776 : Nat), (0 : Int) ≤ (↑i : Int) ∧ (↑i : Int) < (↑n : Int), Fits IntKind.i64 (↑m : Int), decide ((↑i : Int) < (↑m : Int)) = true, w.length < (1099511627776 : Nat), (0 : Int) ≤ (↑i : Int) ∧ (↑i : Int) < (↑m : Int), decide ((↑i : Int) = (2 : Int)) = true, (0 : Nat) < (1099511627776 : Nat), true = true, Fits IntKind.i64 ((↑i : Int) + (1 : Int))]) := by kernel_rfl
theorem tw_tf0 (a : Nat → Nat → Int) (n : Nat) (b : Nat → Nat → Int) (m i : Nat) (l w : List (List Int)) : runC g4 300 85 [.br true, .br true, .br true, .br false, .br false] twBody (twS a n b m i) [.log l, .log w] twKeep [0, 1] =
    some (Ex.normal, [SV.ro (3 : Nat) n (scriptF a), SV.ro (3 : Nat) m (scriptF b), SV.ptr (0 : Nat) (0 : Nat), SV.ptr (1 : Nat) (0 : Nat), SV.int IntKind.i64 ((↑i : Int) + (1 : Int))], [some (Body.log (l ++ stepL (a i (0 : Nat)) (a i (1 : Nat)) (decide (a (↑i : Int).toNat (2 : Nat) = (1 : Int))))), some (Body.log w)], [decide ((↑i : Int) < (↑n : Int)) = true, Fits IntKind.i64 (↑n : Int), decide ((↑i : Int) < (2000 : Int)) = true, Fits IntKind.i64 (↑n : Int), decide ((↑i : Int) < (↑n : Int)) = true, l.length < (1099511627776 : Nat), (0 : Int) ≤ (↑i : Int) ∧ (↑i : Int) < (↑n : Int), Fits IntKind.i64 (↑m : Int), decide ((↑i : Int) < (↑m : Int)) = false, decide ((↑i : Int) = (2 : Int)) = false, Fits IntKind.i64 ((↑i : Int) + (1 : Int))]) := by kernel_rfl
theorem tw_tf1 (a : Nat → Nat → Int) (n : Nat) (b : Nat → Nat → Int) (m i : Nat) (l w : List (List Int)) : runC g4 300 85 [.br true, .br true, .br true, .br false, .br true, .br true] twBody (twS a n b m i) [.log l, .log w] twKeep [0, 1] =
    some (Ex.normal, [SV.ro (3 : Nat) n (scriptF a), SV.ro (3 : Nat) m (scriptF b), SV.ptr (0 : Nat) (0 : Nat), SV.ptr (1 : Nat) (0 : Nat), SV.int IntKind.i64 ((↑i : Int) + (1 : Int))], [some (Body.log (l ++ stepL (a i (0 : Nat)) (a i (1 : Nat)) (decide (a (↑i : Int).toNat (2 : Nat) = (1 : Int))))), some (Body.log w)], [decide ((↑i : Int) < (↑n : Int)) = true, Fits IntKind.i64 (↑n : Int), decide ((↑i : Int) < (2000 : Int)) = true, Fits IntKind.i64 (↑n : Int), decide ((↑i : Int) < (↑n : Int)) = true, l.length < (1099511627776 : Nat), (0 : Int) ≤ (↑i : Int) ∧ (↑i : Int) < (↑n : Int), Fits IntKind.i64 (↑m : Int), decide ((↑i : Int) < (↑m : Int)) = false, decide ((↑i : Int) = (2 : Int)) = true, (0 : Nat) < (1099511627776 : Nat), true = true, Fits IntKind.i64 ((↑i : Int) + (1 : Int))]) := by kernel_rfl
theorem tw_ft0 (a : Nat → Nat → Int) (n : Nat) (b : Nat → Nat → Int) (m i : Nat) (l w : List (List Int)) : runC g4 300 85 [.br false, .br true, .br true, .br false, .br true, .br false] twBody (twS a n b m i) [.log l, .log w] twKeep [0, 1] =
    some (Ex.normal, [SV.ro (3 : Nat) n (scriptF a), SV.ro (3 : Nat) m (scriptF b), SV.ptr (0 : Nat) (0 : Nat), SV.ptr (1 : Nat) (0 : Nat), SV.int IntKind.i64 ((↑i : Int) + (1 : Int))], [some (Body.log l), some (Body.log (w ++ stepL (b i (0 : Nat)) (b i (1 : Nat)) (decide (b (↑i : Int).toNat (2 : Nat) = (1 : Int)))))], [decide ((↑i : Int) < (↑m : Int)) = true, Fits IntKind.i64 (↑m : Int), decide ((↑i : Int) < (↑n : Int)) = false, Fits IntKind.i64 (↑n : Int), decide ((↑i : Int) < (2000 : Int)) = true, Fits IntKind.i64 (↑n : Int), decide ((↑i : Int) < (↑n : Int)) = false, Fits IntKind.i64 (↑m : Int), decide ((↑i : Int) < (↑m : Int)) = true, w.length < (1099511627776 : Nat), (0 : Int) ≤ (↑i : Int) ∧ (↑i : Int) < (↑m : Int), decide ((↑i : Int) = (2 : Int)) = false, Fits IntKind.i64 ((↑i : Int) + (1 : Int))]) := by kernel_rfl
theorem tw_ft1 (a : Nat → Nat → Int) (n : Nat) (b : Nat → Nat → Int) (m i : Nat) (l w : List (List Int)) : runC g4 300 85 [.br false, .br true, .br true, .br false, .br true, .br true, .br true] twBody (twS a n b m i) [.log l, .log w] twKeep [0, 1] =
    some (Ex.normal, [SV.ro (3 : Nat) n (scriptF a), SV.ro (3 : Nat) m (scriptF b), SV.ptr (0 : Nat) (0 : Nat), SV.ptr (1 : Nat) (0 : Nat), SV.int IntKind.i64 ((↑i : Int) + (1 : Int))], [some (Body.log l), some (Body.log (w ++ stepL (b i (0 : Nat)) (b i (1 : Nat)) (decide (b (↑i : Int).toNat (2 : Nat) = (1 : Int)))))], [decide ((↑i : Int) < (↑m : Int)) = true, Fits IntKind.i64 (↑m : Int), decide ((↑i : Int) < (↑n : Int)) = false, Fits IntKind.i64 (↑n : Int), decide ((↑i : Int) < (2000 : Int)) = true, Fits IntKind.i64 (↑n : Int), decide ((↑i : Int) < (↑n : Int)) = false, Fits IntKind.i64 (↑m : Int), decide ((↑i : Int) < (↑m : Int)) = true, w.length < (1099511627776 : Nat), (0 : Int) ≤ (↑i : Int) ∧ (↑i : Int) < (↑m : Int), decide ((↑i : Int) = (2 : Int)) = true, (0 : Nat) < (1099511627776 : Nat), true = true, Fits IntKind.i64 ((↑i : Int) + (1 : Int))]) := by kernel_rfl
theorem tw_end (a : Nat → Nat → Int) (n : Nat) (b : Nat → Nat → Int) (m i : Nat) (l w : List (List Int)) : runC g4 300 85 [.br false, .br false] twBody (twS a n b m i) [.log l, .log w] twKeep [0, 1] =
    some (Ex.exit (0 : Nat), [SV.ro (3 : Nat) n (scriptF a), SV.ro (3 : Nat) m (scriptF b), SV.ptr (0 : Nat) (0 : Nat), SV.ptr (1 : Nat) (0 : Nat), SV.int IntKind.i64 (↑i : Int)], [some (Body.log l), some (Body.log w)], [decide ((↑i : Int) < (↑m : Int)) = false, Fits IntKind.i64 (↑m : Int), decide ((↑i : Int) < (↑n : Int)) = false, Fits IntKind.i64 (↑n : Int)]) := by kernel_rfl
theorem tw_most1 (a : Nat → Nat → Int) (n : Nat) (b : Nat → Nat → Int) (m i : Nat) (l w : List (List Int)) : runC g4 300 85 [.br true, .br false] twBody (twS a n b m i) [.log l, .log w] twKeep [0, 1] =
    some (Ex.exit (0 : Nat), [SV.ro (3 : Nat) n (scriptF a), SV.ro (3 : Nat) m (scriptF b), SV.ptr (0 : Nat) (0 : Nat), SV.ptr (1 : Nat) (0 : Nat), SV.int IntKind.i64 (↑i : Int)], [some (Body.log l), some (Body.log w)], [decide ((↑i : Int) < (↑n : Int)) = true, Fits IntKind.i64 (↑n : Int), decide ((↑i : Int) < (2000 : Int)) = false]) := by kernel_rfl
theorem tw_most0 (a : Nat → Nat → Int) (n : Nat) (b : Nat → Nat → Int) (m i : Nat) (l w : List (List Int)) : runC g4 300 85 [.br false, .br true, .br false] twBody (twS a n b m i) [.log l, .log w] twKeep [0, 1] =
    some (Ex.exit (0 : Nat), [SV.ro (3 : Nat) n (scriptF a), SV.ro (3 : Nat) m (scriptF b), SV.ptr (0 : Nat) (0 : Nat), SV.ptr (1 : Nat) (0 : Nat), SV.int IntKind.i64 (↑i : Int)], [some (Body.log l), some (Body.log w)], [decide ((↑i : Int) < (↑m : Int)) = true, Fits IntKind.i64 (↑m : Int), decide ((↑i : Int) < (↑n : Int)) = false, Fits IntKind.i64 (↑n : Int), decide ((↑i : Int) < (2000 : Int)) = false]) := by kernel_rfl
def twG : LoopF := fun vals B => match vals, B with
  | [.ro 3 n f, .ro 3 m h, .ptr 0 0, .ptr 1 0, .int .i64 0], [.log [], .log []] =>
    some ([(0, .ro 3 n f), (1, .ro 3 m h), (5, .ptr 0 0), (6, .ptr 1 0)], [.log (evs (aOf f) (min n 2000)), .log (evs (aOf h) (min m 2000))], [f = scriptF (aOf f), Fits .i64 (n : Int), h = scriptF (aOf h), Fits .i64 (m : Int)])
  | _, _ => none
theorem evs_lt (a : Nat → Nat → Int) {i n : Nat} (h : i < n) : evs a (min (i + 1) n) = evs a (min i n) ++ stepL (a i 0) (a i 1) (decide (a i 2 = 1)) := by
  rw [Nat.min_eq_left h, Nat.min_eq_left (Nat.le_of_lt h)]; rfl
theorem evs_ge (a : Nat → Nat → Int) {i n : Nat} (h : n ≤ i) : evs a (min (i + 1) n) = evs a (min i n) := by
  rw [Nat.min_eq_right h, Nat.min_eq_right (by omega)]
theorem tw_step (a b : Nat → Nat → Int) {n m : Nat} (hn : Fits .i64 (n : Int)) (hm : Fits .i64 (m : Int)) {i : Nat} (h1 : i < n ∨ i < m) (h2 : i < 2000) {w0 : World} {O : Vx.Own} (hG : GlobOk g4 w0 O) :
    SimC g4.P w0 O 85 twBody (twS a n b m i) [.log (evs a (min i n)), .log (evs b (min i m))] .normal (twS a n b m (i + 1)) [.log (evs a (min (i + 1) n)), .log (evs b (min (i + 1) m))] 2 := by
  have hl := evs_len a (min i n)
  have hl1 := evs_len b (min i m)
  have F4 : Fits .i64 ((i : Int) + 1) := fits_of (by omega) (by omega)
  have ids : ∀ j : Nat, j < 2 → ([0, 1] : List Nat)[j]? = some j := fun j hj => by
    match j, hj with
    | 0, _ => rfl
    | 1, _ => rfl
  by_cases hp : i < n
  · rw [evs_lt a hp]
    by_cases hq : i < m
    · rw [evs_lt b hq]
      by_cases hr : (i : Int) = 2
      · exact SimC.run g4_ok (by decide) (tw_tt1 a n b m i _ _) (by (simp only [allC_cons, allC_nil, and_true]; repeat' (with_reducible (first | refine And.intro ?_ ?_ | exact True.intro | assumption | omega | exact decide_eq_true (by first | assumption | omega) | exact decide_eq_false (by first | assumption | omega) | rfl | (simp; done))))) (by decide) ids (by decide) (by simp) hG
      · exact SimC.run g4_ok (by decide) (tw_tt0 a n b m i _ _) (by (simp only [allC_cons, allC_nil, and_true]; repeat' (with_reducible (first | refine And.intro ?_ ?_ | exact True.intro | assumption | omega | exact decide_eq_true (by first | assumption | omega) | exact decide_eq_false (by first | assumption | omega) | rfl | (simp; done))))) (by decide) ids (by decide) (by simp) hG
    · rw [evs_ge b (by omega)]
      by_cases hr : (i : Int) = 2
      · exact SimC.run g4_ok (by decide) (tw_tf1 a n b m i _ _) (by (simp only [allC_cons, allC_nil, and_true]; repeat' (with_reducible (first | refine And.intro ?_ ?_ | exact True.intro | assumption | omega | exact decide_eq_true (by first | assumption | omega) | exact decide_eq_false (by first | assumption | omega) | rfl | (simp; done))))) (by decide) ids (by decide) (by simp) hG
      · exact SimC.run g4_ok (by decide) (tw_tf0 a n b m i _ _) (by (simp only [allC_cons, allC_nil, and_true]; repeat' (with_reducible (first | refine And.intro ?_ ?_ | exact True.intro | assumption | omega | exact decide_eq_true (by first | assumption | omega) | exact decide_eq_false (by first | assumption | omega) | rfl | (simp; done))))) (by decide) ids (by decide) (by simp) hG
  · rw [evs_ge a (by omega)]
    have hq : i < m := by omega
    rw [evs_lt b hq]
    by_cases hr : (i : Int) = 2
    · exact SimC.run g4_ok (by decide) (tw_ft1 a n b m i _ _) (by (simp only [allC_cons, allC_nil, and_true]; repeat' (with_reducible (first | refine And.intro ?_ ?_ | exact True.intro | assumption | omega | exact decide_eq_true (by first | assumption | omega) | exact decide_eq_false (by first | assumption | omega) | rfl | (simp; done))))) (by decide) ids (by decide) (by simp) hG
    · exact SimC.run g4_ok (by decide) (tw_ft0 a n b m i _ _) (by (simp only [allC_cons, allC_nil, and_true]; repeat' (with_reducible (first | refine And.intro ?_ ?_ | exact True.intro | assumption | omega | exact decide_eq_true (by first | assumption | omega) | exact decide_eq_false (by first | assumption | omega) | rfl | (simp; done))))) (by decide) ids (by decide) (by simp) hG
theorem tw_loop : LoopGood g4 85 (.loop twBody) twKeep 2 (.exit 0) (mkLoopN twG) := by
  refine LoopGood.mkN (by decide) fun vals B S' B' C hG hC hlen w0 O hgl => ?_
  clear hlen
  unfold twG at hG
  split at hG
  · rename_i n f m h
    simp only [Option.some.injEq, Prod.mk.injEq] at hG
    obtain ⟨rfl, rfl, rfl⟩ := hG
    simp only [allC_cons, allC_nil, and_true] at hC
    obtain ⟨hf, hn, hh, hm⟩ := hC
    generalize aOf f = a at hf ⊢
    generalize aOf h = b at hh ⊢
    subst hf
    subst hh
    have ids : ∀ j : Nat, j < 2 → ([0, 1] : List Nat)[j]? = some j := fun j hj => by
      match j, hj with
      | 0, _ => rfl
      | 1, _ => rfl
    have e0 : ∀ (c : Nat → Nat → Int) (k : Nat), evs c (min 0 k) = [] := fun c k => by rw [Nat.zero_min]; rfl
    have key := SimC.iter (g := g4) (nT := 85) (c := twBody) (m := 2) (w0 := w0) (O := O) (e := .exit 0) (S := twS a n b m) (B := fun i => [.log (evs a (min i n)), .log (evs b (min i m))]) (N := min (max n m) 2000)
      (S' := [(0, .ro 3 n (scriptF a)), (1, .ro 3 m (scriptF b)), (5, .ptr 0 0), (6, .ptr 1 0)]) (B' := [.log (evs a (min n 2000)), .log (evs b (min m 2000))]) (fun i hi => tw_step a b hn hm (by omega) (by omega) hgl) ?_ (by simp) 0 (by omega)
    · simp only [e0] at key
      exact key
    have ea : evs a (min (min (max n m) 2000) n) = evs a (min n 2000) := by congr 1; omega
    have eb : evs b (min (min (max n m) 2000) m) = evs b (min m 2000) := by congr 1; omega
    simp only [ea, eb]
    by_cases h : max n m ≤ 2000
    · rw [Nat.min_eq_left h]
      exact SimC.weaken (SimC.run (B' := [.log (evs a (min n 2000)), .log (evs b (min m 2000))]) g4_ok (by decide) (tw_end a n b m (max n m) _ _) (by (simp only [allC_cons, allC_nil, and_true]; repeat' (with_reducible (first | refine And.intro ?_ ?_ | exact True.intro | assumption | omega | exact decide_eq_true (by first | assumption | omega) | exact decide_eq_false (by first | assumption | omega) | rfl | (simp; done))))) (by decide) ids (by decide) (by simp) hgl) (sub_mkT (by simp; exact ⟨rfl, rfl, rfl, rfl⟩))
    · rw [Nat.min_eq_right (by omega)]
      by_cases hp : 2000 < n
      · exact SimC.weaken (SimC.run (B' := [.log (evs a (min n 2000)), .log (evs b (min m 2000))]) g4_ok (by decide) (tw_most1 a n b m 2000 _ _) (by (simp only [allC_cons, allC_nil, and_true]; repeat' (with_reducible (first | refine And.intro ?_ ?_ | exact True.intro | assumption | omega | exact decide_eq_true (by first | assumption | omega) | exact decide_eq_false (by first | assumption | omega) | rfl | (simp; done))))) (by decide) ids (by decide) (by simp) hgl) (sub_mkT (by simp; exact ⟨rfl, rfl, rfl, rfl⟩))
      · exact SimC.weaken (SimC.run (B' := [.log (evs a (min n 2000)), .log (evs b (min m 2000))]) g4_ok (by decide) (tw_most0 a n b m 2000 _ _) (by (simp only [allC_cons, allC_nil, and_true]; repeat' (with_reducible (first | refine And.intro ?_ ?_ | exact True.intro | assumption | omega | exact decide_eq_true (by first | assumption | omega) | exact decide_eq_false (by first | assumption | omega) | rfl | (simp; done))))) (by decide) ids (by decide) (by simp) hgl) (sub_mkT (by simp; exact ⟨rfl, rfl, rfl, rfl⟩))
  · simp at hG
theorem tw_run (n m : Nat) (f h : Nat → SV) : runF g4 300 [.loop 6 twKeep 2 (.exit 0) (mkLoopN twG), .br true, .br true, .br true] 5 [.ro 3 n f, .ro 3 m h] [] [] =
    some (SV.sbool true, [], [LoopGood g4 85 (.loop twBody) twKeep 2 (.exit 0) (mkLoopN twG), f = scriptF (aOf f), Fits IntKind.i64 (↑n : Int), h = scriptF (aOf h), Fits IntKind.i64 (↑m : Int), decide (sub (evs (aOf h) (min m (2000 : Nat))) (0 : Nat) (evs (aOf h) (min m (2000 : Nat))).length = sub (evs (aOf h) (min m (2000 : Nat))) (0 : Nat) (evs (aOf h) (min m (2000 : Nat))).length) = true, (0 : Nat) + (evs (aOf h) (min m (2000 : Nat))).length ≤ (evs (aOf h) (min m (2000 : Nat))).length, (0 : Nat) + (evs (aOf h) (min m (2000 : Nat))).length ≤ (evs (aOf h) (min m (2000 : Nat))).length, (evs (aOf h) (min m (2000 : Nat))).length ≤ (140737488355328 : Nat), (evs (aOf h) (min m (2000 : Nat))).length ≤ (140737488355328 : Nat), h = scriptF (aOf h), Fits IntKind.i64 (↑m : Int), (evs (aOf h) (min m (2000 : Nat))).length * (16 : Nat) ≤ (140737488355328 : Nat), decide (sub (evs (aOf f) (min n (2000 : Nat))) (0 : Nat) (evs (aOf f) (min n (2000 : Nat))).length = sub (evs (aOf f) (min n (2000 : Nat))) (0 : Nat) (evs (aOf f) (min n (2000 : Nat))).length) = true, (0 : Nat) + (evs (aOf f) (min n (2000 : Nat))).length ≤ (evs (aOf f) (min n (2000 : Nat))).length, (0 : Nat) + (evs (aOf f) (min n (2000 : Nat))).length ≤ (evs (aOf f) (min n (2000 : Nat))).length, (evs (aOf f) (min n (2000 : Nat))).length ≤ (140737488355328 : Nat), (evs (aOf f) (min n (2000 : Nat))).length ≤ (140737488355328 : Nat), f = scriptF (aOf f), Fits IntKind.i64 (↑n : Int), (evs (aOf f) (min n (2000 : Nat))).length * (16 : Nat) ≤ (140737488355328 : Nat)]) := by kernel_rfl
theorem two_ok (n : Nat) (a : Nat → Nat → Int) (hn : Fits .i64 (n : Int)) (m : Nat) (b : Nat → Nat → Int) (hm : Fits .i64 (m : Int)) : FnOk g4 5 [.ro 3 n (scriptF a), .ro 3 m (scriptF b)] [] { val := .sbool true } := by
  have hs := (aOf_script a).symm
  have hs2 := (aOf_script b).symm
  have hl := evs_min (aOf (scriptF a)) n
  have hl2 := evs_min (aOf (scriptF b)) m
  have hw := tw_loop
  refine FnOk.pure g4_ok (tw_run n m (scriptF a) (scriptF b)) ?_
  (simp only [allC_cons, allC_nil, and_true]; repeat' (with_reducible (first | refine And.intro ?_ ?_ | exact True.intro | assumption | omega | exact decide_eq_true (by first | assumption | omega) | exact decide_eq_false (by first | assumption | omega) | rfl | (simp; done))))
end Go.Proofs.Ytkpkdingeomhnaa
