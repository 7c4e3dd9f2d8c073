/- Accounts of this seat's functions: lemmas, no statement of their own. No conditions. -/
import Derived.Test.YtkpkdingeomhnaaTE
namespace Go.Proofs.Ytkpkdingeomhnaa
open Go Go.Vx

noncomputable abbrev g2 : Ctx := g1.add [(16, scanF [.i64, .i64]), (27, scanF [.i64, .i64, .i64]), (35, scanF [.i64, .i64]), (10, logStepF), (11, eventF), (22, behindF)]
theorem g2_ok : CtxU g2 := g1_ok.add mixed noGo (by
  intro x hx
  simp only [List.mem_cons, List.not_mem_nil, or_false] at hx
  rcases hx with rfl | rfl | rfl | rfl | rfl | rfl
  · exact ev_acc
  · exact rn_acc
  · exact eq_acc
  · exact acc10
  · exact acc11
  · exact acc22)

/-! ### scripts -/
def scriptF (a : Nat → Nat → Int) : Nat → SV := fun i => .agg [.int .i64 (a i 0), .int .i64 (a i 1), .sbool (decide (a i 2 = 1))]
def cellN (cs : List SV) (j : Nat) : Int := match cs[j]? with | some (.int _ n) => n | some (.sbool true) => 1 | _ => 0
def aOf (f : Nat → SV) (i j : Nat) : Int := match f i with | .agg cs => cellN cs j | _ => 0
theorem aOf_script (a : Nat → Nat → Int) : scriptF (aOf (scriptF a)) = scriptF a := by
  funext i
  have h2 : decide (aOf (scriptF a) i 2 = 1) = decide (a i 2 = 1) := by
    show decide (cellN [_, _, SV.sbool (decide (a i 2 = 1))] 2 = 1) = _
    cases h : decide (a i 2 = 1) <;> simp [cellN]
  show SV.agg [.int .i64 (a i 0), .int .i64 (a i 1), .sbool (decide (aOf (scriptF a) i 2 = 1))] = _
  rw [h2]; rfl
def evAt (a : Nat → Nat → Int) (i : Nat) : List (List Int) := stepL (a i 0) (a i 1) (decide (a i 2 = 1))
def evs (a : Nat → Nat → Int) : Nat → List (List Int)
  | 0 => []
  | n + 1 => evs a n ++ evAt a n
theorem evAt_len (a : Nat → Nat → Int) (i : Nat) : (evAt a i).length ≤ 1 := by unfold evAt stepL; split <;> simp
theorem evs_len (a : Nat → Nat → Int) : ∀ n, (evs a n).length ≤ n
  | 0 => by simp [evs]
  | n + 1 => by have := evs_len a n; have := evAt_len a n; simp only [evs, List.length_append]; omega


/-! ### filled -/
abbrev fiKeep : List Nat := [0, 4, 5, 6]
noncomputable abbrev fiBody : Code := bodyAt Try.prog 14 4
abbrev fiS (a : Nat → Nat → Int) (n i : Nat) : List (Nat × SV) := fiKeep.zip [.ro 3 n (scriptF a), .ptr 0 0, .sbool true, .int .i64 (i : Int)]
theorem fi_go (a : Nat → Nat → Int) (n i : Nat) (l : List (List Int)) : runC g2 200 31 [.br true, .br true] fiBody (fiS a n i) [.log l] fiKeep [0] =
    some (Ex.normal, [SV.ro (3 : Nat) n (scriptF a), SV.ptr (0 : Nat) (0 : Nat), SV.sbool true, SV.int IntKind.i64 ((↑i : Int) + (1 : Int))], [some (Body.log (l ++ stepL (a i (0 : Nat)) (a i (1 : Nat)) (decide (a (↑i : Int).toNat (2 : Nat) = (1 : Int)))))], [decide ((↑i : Int) < (↑n : Int)) = true, Fits IntKind.i64 (↑n : Int), decide ((↑i : Int) < (2000 : Int)) = true, l.length < (1099511627776 : Nat), (0 : Int) ≤ (↑i : Int) ∧ (↑i : Int) < (↑n : Int), Fits IntKind.i64 ((↑i : Int) + (1 : Int))]) := by kernel_rfl
theorem fi_end (a : Nat → Nat → Int) (n i : Nat) (l : List (List Int)) : runC g2 200 31 [.br false] fiBody (fiS a n i) [.log l] fiKeep [0] =
    some (Ex.exit (0 : Nat), [SV.ro (3 : Nat) n (scriptF a), SV.ptr (0 : Nat) (0 : Nat), SV.sbool true, SV.int IntKind.i64 (↑i : Int)], [some (Body.log l)], [decide ((↑i : Int) < (↑n : Int)) = false, Fits IntKind.i64 (↑n : Int)]) := by kernel_rfl
theorem fi_most (a : Nat → Nat → Int) (n i : Nat) (l : List (List Int)) : runC g2 200 31 [.br true, .br false] fiBody (fiS a n i) [.log l] fiKeep [0] =
    some (Ex.exit (0 : Nat), [SV.ro (3 : Nat) n (scriptF a), SV.ptr (0 : Nat) (0 : Nat), SV.sbool true, SV.int IntKind.i64 (↑i : Int)], [some (Body.log l)], [decide ((↑i : Int) < (↑n : Int)) = true, Fits IntKind.i64 (↑n : Int), decide ((↑i : Int) < (2000 : Int)) = false]) := by kernel_rfl
/-! ### logs -/
abbrev loKeep : List Nat := [0, 3, 4]
noncomputable abbrev loBody : Code := bodyAt Try.prog 15 3
abbrev loS (a : Nat → Nat → Int) (n i : Nat) : List (Nat × SV) := loKeep.zip [.ro 3 n (scriptF a), .own 0, .int .i64 (i : Int)]
theorem lo_go1 (a : Nat → Nat → Int) (n i : Nat) (l : List (List Int)) : runC g2 200 31 [.br true, .br true, .br true] loBody (loS a n i) [.rows [.i64, .i64] l] loKeep [3] =
    some (Ex.normal, [SV.ro (3 : Nat) n (scriptF a), SV.own (0 : Nat), SV.int IntKind.i64 ((↑i : Int) + (1 : Int))], [some (Body.rows [IntKind.i64, IntKind.i64] (l ++ [[evKind (a i (0 : Nat)), evVal (a i (0 : Nat)) (a i (1 : Nat)) (decide (a (↑i : Int).toNat (2 : Nat) = (1 : Int)))]]))], [decide ((↑i : Int) < (↑n : Int)) = true, Fits IntKind.i64 (↑n : Int), decide ((↑i : Int) < (2000 : Int)) = true, (0 : Int) ≤ (↑i : Int) ∧ (↑i : Int) < (↑n : Int), isEv (a i (0 : Nat)) = true, (l ++ [[evKind (a i (0 : Nat)), evVal (a i (0 : Nat)) (a i (1 : Nat)) (decide (a (↑i : Int).toNat (2 : Nat) = (1 : Int)))]]).length * (16 : Nat) ≤ (140737488355328 : Nat), Fits IntKind.i64 ((↑i : Int) + (1 : Int))]) := by kernel_rfl
theorem lo_go0 (a : Nat → Nat → Int) (n i : Nat) (l : List (List Int)) : runC g2 200 31 [.br true, .br true, .br false] loBody (loS a n i) [.rows [.i64, .i64] l] loKeep [0] =
    some (Ex.normal, [SV.ro (3 : Nat) n (scriptF a), SV.own (0 : Nat), SV.int IntKind.i64 ((↑i : Int) + (1 : Int))], [some (Body.rows [IntKind.i64, IntKind.i64] l)], [decide ((↑i : Int) < (↑n : Int)) = true, Fits IntKind.i64 (↑n : Int), decide ((↑i : Int) < (2000 : Int)) = true, (0 : Int) ≤ (↑i : Int) ∧ (↑i : Int) < (↑n : Int), isEv (a i (0 : Nat)) = false, Fits IntKind.i64 ((↑i : Int) + (1 : Int))]) := by kernel_rfl
theorem lo_end (a : Nat → Nat → Int) (n i : Nat) (l : List (List Int)) : runC g2 200 31 [.br false] loBody (loS a n i) [.rows [.i64, .i64] l] loKeep [0] =
    some (Ex.exit (0 : Nat), [SV.ro (3 : Nat) n (scriptF a), SV.own (0 : Nat), SV.int IntKind.i64 (↑i : Int)], [some (Body.rows [IntKind.i64, IntKind.i64] l)], [decide ((↑i : Int) < (↑n : Int)) = false, Fits IntKind.i64 (↑n : Int)]) := by kernel_rfl
theorem lo_most (a : Nat → Nat → Int) (n i : Nat) (l : List (List Int)) : runC g2 200 31 [.br true, .br false] loBody (loS a n i) [.rows [.i64, .i64] l] loKeep [0] =
    some (Ex.exit (0 : Nat), [SV.ro (3 : Nat) n (scriptF a), SV.own (0 : Nat), SV.int IntKind.i64 (↑i : Int)], [some (Body.rows [IntKind.i64, IntKind.i64] l)], [decide ((↑i : Int) < (↑n : Int)) = true, Fits IntKind.i64 (↑n : Int), decide ((↑i : Int) < (2000 : Int)) = false]) := by kernel_rfl
theorem fits_i {n i : Nat} (h : Fits .i64 (n : Int)) (hi : i < n) : Fits .i64 ((i : Int) + 1) := by
  have := fits_int h
  simp [Fits, IntKind.min, IntKind.max, IntKind.signed, IntKind.bits]; omega
theorem one_id : ∀ j : Nat, j < 1 → ([0] : List Nat)[j]? = some j := fun j hj => by
  match j, hj with
  | 0, _ => rfl
def fiG : LoopF := fun vals B => match vals, B with
  | [.ro 3 n f, .ptr 0 0, .sbool true, .int .i64 0], [.log []] => some ([(4, .ptr 0 0), (5, .sbool true)], [.log (evs (aOf f) (min n 2000))], [f = scriptF (aOf f), Fits .i64 (n : Int)])
  | _, _ => none
theorem fi_loop : LoopGood g2 31 (.loop fiBody) fiKeep 1 (.exit 0) (mkLoopN fiG) := by
  refine LoopGood.mkN (by decide) fun vals B S' B' C hG hC hlen w0 O hgl => ?_
  clear hlen
  unfold fiG at hG
  split at hG
  · rename_i n f
    simp only [Option.some.injEq, Prod.mk.injEq] at hG
    obtain ⟨rfl, rfl, rfl⟩ := hG
    simp only [allC_cons, allC_nil, and_true] at hC
    obtain ⟨hf, hn⟩ := hC
    generalize aOf f = a at hf ⊢
    subst hf
    refine SimC.iter (g := g2) (S := fiS a n) (B := fun i => [.log (evs a i)]) (N := min n 2000) (fun i hi => ?_) ?_ (by simp) 0 (by omega)
    · have h1 : i < n := by omega
      have h2 : i < 2000 := by omega
      have hl := evs_len a i
      refine SimC.run (B' := [.log (evs a (i + 1))]) g2_ok (by decide) (fi_go a n i (evs a i)) ?_ (by simp) one_id (by decide) (by simp) hgl
      simp only [allC_cons, allC_nil, and_true]
      exact ⟨decide_eq_true (by omega), hn, decide_eq_true (by omega), by omega, ⟨by omega, by omega⟩, fits_i hn h1⟩
    · by_cases h : n ≤ 2000
      · rw [Nat.min_eq_left h]
        refine SimC.weaken (SimC.run (B' := [.log (evs a n)]) g2_ok (by decide) (fi_end a n n (evs a n)) ?_ (by simp) one_id (by decide) (by simp) hgl) (sub_mkT (by simp; exact ⟨rfl, rfl⟩))
        simp only [allC_cons, allC_nil, and_true]
        exact ⟨decide_eq_false (by omega), hn⟩
      · rw [Nat.min_eq_right (by omega)]
        refine SimC.weaken (SimC.run (B' := [.log (evs a 2000)]) g2_ok (by decide) (fi_most a n 2000 (evs a 2000)) ?_ (by simp) one_id (by decide) (by simp) hgl) (sub_mkT (by simp; exact ⟨rfl, rfl⟩))
        simp only [allC_cons, allC_nil, and_true]
        exact ⟨decide_eq_true (by omega), hn, decide_eq_false (by decide)⟩
  · simp at hG

def loG : LoopF := fun vals B => match vals, B with
  | [.ro 3 n f, .raw (.slice none 0 0), .int .i64 0], [] => some ([(3, .own 0)], [.rows [.i64, .i64] (evs (aOf f) (min n 2000))], [f = scriptF (aOf f), Fits .i64 (n : Int)])
  | _, _ => none
theorem lo_loop : LoopGood g2 31 (.loop loBody) loKeep 0 (.exit 0) (mkLoopN loG) := by
  refine LoopGood.mkN (by decide) fun vals B S' B' C hG hC hlen w0 O hgl => ?_
  clear hlen
  unfold loG at hG
  split at hG
  · rename_i n f
    simp only [Option.some.injEq, Prod.mk.injEq] at hG
    obtain ⟨rfl, rfl, rfl⟩ := hG
    simp only [allC_cons, allC_nil, and_true] at hC
    obtain ⟨hf, hn⟩ := hC
    generalize aOf f = a at hf ⊢
    subst hf
    refine SimC.adoptS (.rows [.i64, .i64] []) 3 rfl rfl (by simp) (by simp) ?_
    refine SimC.iter (g := g2) (S := loS a n) (B := fun i => [.rows [.i64, .i64] (evs a i)]) (N := min n 2000) (fun i hi => ?_) ?_ (by simp) 0 (by omega)
    · have h1 : i < n := by omega
      have h2 : i < 2000 := by omega
      have hl := evs_len a i
      by_cases he : isEv (a i 0) = true
      · have e : evs a (i + 1) = evs a i ++ [[evKind (a i 0), evVal (a i 0) (a i 1) (decide (a i 2 = 1))]] := by simp only [evs, evAt, stepL, if_pos he]
        refine SimC.run (B' := [.rows [.i64, .i64] (evs a (i + 1))]) g2_ok (by decide) (by rw [e]; exact lo_go1 a n i (evs a i)) ?_ (by simp) (fun j hj => absurd hj (by omega)) (by decide) (by simp) hgl
        simp only [allC_cons, allC_nil, and_true]
        exact ⟨decide_eq_true (by omega), hn, decide_eq_true (by omega), ⟨by omega, by omega⟩, he, by simp; omega, fits_i hn h1⟩
      · have e : evs a (i + 1) = evs a i := by simp only [evs, evAt, stepL, if_neg he, List.append_nil]
        refine SimC.run (B' := [.rows [.i64, .i64] (evs a (i + 1))]) g2_ok (by decide) (by rw [e]; exact lo_go0 a n i (evs a i)) ?_ (by simp) (fun j hj => absurd hj (by omega)) (by decide) (by simp) hgl
        simp only [allC_cons, allC_nil, and_true]
        exact ⟨decide_eq_true (by omega), hn, decide_eq_true (by omega), ⟨by omega, by omega⟩, by simpa using he, fits_i hn h1⟩
    · by_cases h : n ≤ 2000
      · rw [Nat.min_eq_left h]
        refine SimC.weaken (SimC.run (B' := [.rows [.i64, .i64] (evs a n)]) g2_ok (by decide) (lo_end a n n (evs a n)) ?_ (by simp) (fun j hj => absurd hj (by omega)) (by decide) (by simp) hgl) (sub_mkT (by simp; rfl))
        simp only [allC_cons, allC_nil, and_true]
        exact ⟨decide_eq_false (by omega), hn⟩
      · rw [Nat.min_eq_right (by omega)]
        refine SimC.weaken (SimC.run (B' := [.rows [.i64, .i64] (evs a 2000)]) g2_ok (by decide) (lo_most a n 2000 (evs a 2000)) ?_ (by simp) (fun j hj => absurd hj (by omega)) (by decide) (by simp) hgl) (sub_mkT (by simp; rfl))
        simp only [allC_cons, allC_nil, and_true]
        exact ⟨decide_eq_true (by omega), hn, decide_eq_false (by decide)⟩
  · simp at hG
end Go.Proofs.Ytkpkdingeomhnaa
