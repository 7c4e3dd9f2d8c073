/- Accounts of this seat's functions: lemmas, no statement of their own. No conditions. -/
import Derived.Test.YtibfkpgdpldjbaaTZn
namespace Go.Proofs.Ytibfkpgdpldjbaa
open Go Go.Vx
/-! ### the document's events -/
abbrev evKeep : List Nat := [0, 3, 4]
noncomputable abbrev evBody1 : Code := bodyAt Try.prog 21 3
noncomputable abbrev evBody2 : Code := bodyAt Try.prog 21 7
abbrev evS (n : Int) (a : Nat) : List (Nat × SV) := evKeep.zip [.int .i64 n, .own 0, .int .i64 (a : Int)]
abbrev evR (n : Int) (a b : Nat) : List SV := [.int .i64 n, .own 0, .int .i64 ((a : Int) + (b : Nat))]
theorem ev_go1 (n : Int) (a : Nat) (w : List (List Int)) : runC g9 300 55 [.br true] evBody1 (evS n a) [.rows [.i64, .i64] w] evKeep [5] =
    some (.normal, [.int .i64 n, .own 0, .int .i64 ((a : Int) + 256)], [some (.rows [.i64, .i64] (w ++ [[1, 1], [2, (a : Int)], [3, 21]]))], [Fits .i64 (n - (a : Int)), decide ((256 : Int) ≤ n - (a : Int)) = true, (w ++ [[1, 1], [2, (a : Int)], [3, 21]]).length * 16 ≤ 2 ^ 47, Fits .i64 ((a : Int) + 256)]) := by kernel_rfl
theorem ev_go2 (n : Int) (a : Nat) (w : List (List Int)) : runC g9 300 55 [.br true] evBody2 (evS n a) [.rows [.i64, .i64] w] evKeep [5] =
    some (.normal, [.int .i64 n, .own 0, .int .i64 ((a : Int) + 64)], [some (.rows [.i64, .i64] (w ++ [[1, 1], [2, (a : Int)], [3, 22]]))], [Fits .i64 (n - (a : Int)), decide ((64 : Int) ≤ n - (a : Int)) = true, (w ++ [[1, 1], [2, (a : Int)], [3, 22]]).length * 16 ≤ 2 ^ 47, Fits .i64 ((a : Int) + 64)]) := by kernel_rfl
theorem ev_end1 (n : Int) (a : Nat) (w : List (List Int)) : runC g9 300 55 [.br false] evBody1 (evS n a) [.rows [.i64, .i64] w] evKeep [0] =
    some (.exit 0, [.int .i64 n, .own 0, .int .i64 (a : Int)], [some (.rows [.i64, .i64] w)], [Fits .i64 (n - (a : Int)), decide ((256 : Int) ≤ n - (a : Int)) = false]) := by kernel_rfl
theorem ev_end2 (n : Int) (a : Nat) (w : List (List Int)) : runC g9 300 55 [.br false] evBody2 (evS n a) [.rows [.i64, .i64] w] evKeep [0] =
    some (.exit 2, [.int .i64 n, .own 0, .int .i64 (a : Int)], [some (.rows [.i64, .i64] w)], [Fits .i64 (n - (a : Int)), decide ((64 : Int) ≤ n - (a : Int)) = false]) := by kernel_rfl
def evG1 : LoopF := fun vals B => match vals, B with
  | [.int .i64 n, .raw (.slice none 0 0), .int .i64 0], [] => some ([(0, .int .i64 n), (3, .own 0), (4, .int .i64 ((256 * (n.toNat / 256) : Nat) : Int))], [.rows [.i64, .i64] (e1 (n.toNat / 256))], [0 ≤ n, n ≤ 1000000000])
  | _, _ => none
def evG2 : LoopF := fun vals B => match vals, B with
  | [.int .i64 n, .own 0, .int .i64 a], [.rows K w] => match sameKs K [.i64, .i64] with
    | true => some ([(0, .int .i64 n), (3, .own 0), (4, .int .i64 ((a.toNat + 64 * ((n.toNat - a.toNat) / 64) : Nat) : Int))], [.rows [.i64, .i64] (w ++ e2 a.toNat ((n.toNat - a.toNat) / 64))], [0 ≤ a, a ≤ n, n ≤ 1000000000, w.length ≤ 1000000000])
    | _ => none
  | _, _ => none
theorem ev_loop1 : LoopGood g9 55 (.loop evBody1) evKeep 0 (.exit 0) (mkLoopN evG1) := by
  refine LoopGood.mkN (by decide) fun vals B S' B' C hG hC hlen w0 O hgl => ?_
  clear hlen
  unfold evG1 at hG
  split at hG
  · rename_i n
    simp only [Option.some.injEq, Prod.mk.injEq] at hG
    obtain ⟨rfl, rfl, rfl⟩ := hG
    simp only [allC_cons, allC_nil, and_true] at hC
    obtain ⟨h0, h1⟩ := hC
    refine SimC.adoptS (.rows [.i64, .i64] []) 3 rfl rfl (by simp) (by simp) ?_
    refine SimC.iter (g := g9) (S := fun i => evS n (256 * i)) (B := fun i => [.rows [.i64, .i64] (e1 i)]) (N := n.toNat / 256) (fun i hi => ?_) ?_ (by simp) 0 (by omega)
    · have hl := e1_len i
      have F1 : Fits .i64 (n - ((256 * i : Nat) : Int)) := fits_of (by omega) (by omega)
      have F2 : Fits .i64 (((256 * i : Nat) : Int) + 256) := fits_of (by omega) (by omega)
      have hr := ev_go1 n (256 * i) (e1 i)
      rw [show ((256 * i : Nat) : Int) + 256 = ((256 * (i + 1) : Nat) : Int) by omega] at hr F2
      refine SimC.run (B' := [.rows [.i64, .i64] (e1 (i + 1))]) g9_ok (by decide) hr ?_ (by simp) (fun j hj => absurd hj (by omega)) (by decide) (by simp) hgl
      simp only [allC_cons, allC_nil, and_true, List.length_append, hl, List.length_cons, List.length_nil]
      exact ⟨F1, decide_eq_true (by omega), by omega, F2⟩
    · have F1 : Fits .i64 (n - ((256 * (n.toNat / 256) : Nat) : Int)) := fits_of (by omega) (by omega)
      refine SimC.weaken (SimC.run (B' := [.rows [.i64, .i64] (e1 (n.toNat / 256))]) g9_ok (by decide) (ev_end1 n (256 * (n.toNat / 256)) _) ?_ (by simp) (fun j hj => absurd hj (by omega)) (by decide) (by simp) hgl) (sub_mkT (by simp; exact ⟨rfl, rfl, rfl⟩))
      simp only [allC_cons, allC_nil, and_true]
      exact ⟨F1, decide_eq_false (by omega)⟩
  · simp at hG
theorem ev_loop2 : LoopGood g9 55 (.loop evBody2) evKeep 0 (.exit 2) (mkLoopN evG2) := by
  refine LoopGood.mkN (by decide) fun vals B S' B' C hG hC hlen w0 O hgl => ?_
  clear hlen
  unfold evG2 at hG
  split at hG
  · rename_i n a K w
    split at hG
    · rename_i hK
      obtain rfl := sameKs_eq hK
      simp only [Option.some.injEq, Prod.mk.injEq] at hG
      obtain ⟨rfl, rfl, rfl⟩ := hG
      simp only [allC_cons, allC_nil, and_true] at hC
      obtain ⟨h0, h1, h2, h3⟩ := hC
      obtain ⟨a, rfl⟩ := Int.eq_ofNat_of_zero_le h0
      rw [Int.toNat_natCast]
      have key : SimC g9.P w0 O 55 (.loop evBody2) (evS n (a + 64 * 0)) [.rows [.i64, .i64] (w ++ e2 a 0)] (.exit 2) [(0, .int .i64 n), (3, .own 0), (4, .int .i64 ((a + 64 * ((n.toNat - a) / 64) : Nat) : Int))] [.rows [.i64, .i64] (w ++ e2 a ((n.toNat - a) / 64))] 0 := by
        refine SimC.iter (g := g9) (e := .exit 2) (S := fun i => evS n (a + 64 * i)) (B := fun i => [.rows [.i64, .i64] (w ++ e2 a i)]) (N := (n.toNat - a) / 64) (fun i hi => ?_) ?_ (by simp) 0 (by omega)
        · have hl := e2_len a i
          have F1 : Fits .i64 (n - ((a + 64 * i : Nat) : Int)) := fits_of (by omega) (by omega)
          have F2 : Fits .i64 (((a + 64 * i : Nat) : Int) + 64) := fits_of (by omega) (by omega)
          have hr := ev_go2 n (a + 64 * i) (w ++ e2 a i)
          rw [show ((a + 64 * i : Nat) : Int) + 64 = ((a + 64 * (i + 1) : Nat) : Int) by omega] at hr F2
          have e : w ++ e2 a i ++ [[1, 1], [2, ((a + 64 * i : Nat) : Int)], [3, 22]] = w ++ e2 a (i + 1) := by rw [List.append_assoc]; rfl
          refine SimC.run (B' := [.rows [.i64, .i64] (w ++ e2 a (i + 1))]) g9_ok (by decide) (by rw [← e]; exact hr) ?_ (by simp) (fun j hj => absurd hj (by omega)) (by decide) (by simp) hgl
          simp only [allC_cons, allC_nil, and_true, List.length_append, hl, List.length_cons, List.length_nil]
          exact ⟨F1, decide_eq_true (by omega), by omega, F2⟩
        · have F1 : Fits .i64 (n - ((a + 64 * ((n.toNat - a) / 64) : Nat) : Int)) := fits_of (by omega) (by omega)
          refine SimC.weaken (SimC.run (B' := [.rows [.i64, .i64] (w ++ e2 a ((n.toNat - a) / 64))]) g9_ok (by decide) (ev_end2 n (a + 64 * ((n.toNat - a) / 64)) _) ?_ (by simp) (fun j hj => absurd hj (by omega)) (by decide) (by simp) hgl) (sub_mkT (by simp; exact ⟨rfl, rfl, rfl⟩))
          simp only [allC_cons, allC_nil, and_true]
          exact ⟨F1, decide_eq_false (by omega)⟩
      rw [show e2 a 0 = [] from rfl, List.append_nil] at key
      exact key
    · simp at hG
  · simp at hG
end Go.Proofs.Ytibfkpgdpldjbaa
