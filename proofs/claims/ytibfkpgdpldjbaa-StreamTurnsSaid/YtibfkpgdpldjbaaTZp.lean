/- Accounts of this seat's functions: lemmas, no statement of their own. No conditions. -/
import Derived.Test.YtibfkpgdpldjbaaTZo
namespace Go.Proofs.Ytibfkpgdpldjbaa
open Go Go.Vx
abbrev evA (n : Int) : Int := ((256 * (n.toNat / 256) : Nat) : Int)
abbrev ev1 (n : Int) : List (List Int) := e1 (n.toNat / 256) ++ [[1, 0]]
abbrev ev2 (n : Int) : List (List Int) := ev1 n ++ e2 (evA n).toNat ((n.toNat - (evA n).toNat) / 64)
abbrev evT (n : Int) : Int := (((evA n).toNat + 64 * ((n.toNat - (evA n).toNat) / 64) : Nat) : Int)
abbrev evC (n : Int) (b : Int) : List Prop := [LoopGood g9 55 (.loop evBody1) evKeep 0 (.exit 0) (mkLoopN evG1), 0 ≤ n, n ≤ 1000000000, (ev1 n).length * 16 ≤ 2 ^ 47, LoopGood g9 55 (.loop evBody2) evKeep 0 (.exit 2) (mkLoopN evG2), 0 ≤ evA n, evA n ≤ n, n ≤ 1000000000, (ev1 n).length ≤ 1000000000, (ev2 n ++ [[1, 0], [1, b]]).length * 16 ≤ 2 ^ 47]
theorem ev_run1 (n : Int) : runF g9 300 [.loop 3 evKeep 0 (.exit 0) (mkLoopN evG1), .loop 7 evKeep 0 (.exit 2) (mkLoopN evG2), .br true, .br true] 21 [.int .i64 n] [] [12] =
    some (.own 0, [some (.rows [.i64, .i64] (ev2 n ++ [[1, 0], [1, 1]] ++ [[2, evT n], [3, 22]]))], evC n 1 ++ [decide (0 < n - evT n) = true, Fits .i64 (n - evT n), Fits .i64 (n - evT n), decide (0 < n - evT n) = true, (ev2 n ++ [[1, 0], [1, 1]] ++ [[2, evT n], [3, 22]]).length * 16 ≤ 2 ^ 47]) :=
  run_parts (by kernel_rfl) (by kernel_rfl) (by kernel_rfl)
theorem ev_run0 (n : Int) : runF g9 300 [.loop 3 evKeep 0 (.exit 0) (mkLoopN evG1), .loop 7 evKeep 0 (.exit 2) (mkLoopN evG2), .br false, .br false] 21 [.int .i64 n] [] [8] =
    some (.own 0, [some (.rows [.i64, .i64] (ev2 n ++ [[1, 0], [1, 0]]))], evC n 0 ++ [decide (0 < n - evT n) = false, Fits .i64 (n - evT n), Fits .i64 (n - evT n), decide (0 < n - evT n) = false]) :=
  run_parts (by kernel_rfl) (by kernel_rfl) (by kernel_rfl)
def F21 : SumF := fun args B => match args, B with
  | [.int .i64 n], [] => some { val := .own 0, new := [.rows [.i64, .i64] (evX n.toNat)], C := [0 ≤ n, n ≤ 1000000000] }
  | _, _ => none
theorem acc21 : Acc g9 21 F21 := by
  intro args B out h hC
  unfold F21 at h
  split at h
  · rename_i n
    simp only [Option.some.injEq] at h; subst h
    simp only [allC_cons, allC_nil, and_true] at hC
    obtain ⟨h0, h1⟩ := hC
    obtain ⟨m, rfl⟩ := Int.eq_ofNat_of_zero_le h0
    have hL1 := ev_loop1
    have hL2 := ev_loop2
    have eA : (evA (m : Int)).toNat = a1 m := by unfold evA a1; rw [Int.toNat_natCast, Int.toNat_natCast]
    have eT : evT (m : Int) = (a2 m : Nat) := by unfold evT; rw [eA, Int.toNat_natCast]
    have e2' : ev2 (m : Int) = e1 (m / 256) ++ [[1, 0]] ++ e2 (a1 m) ((m - a1 m) / 64) := by unfold ev2 ev1; rw [eA, Int.toNat_natCast]
    have ha := a2_le m
    have ha1 : a1 m ≤ m := by unfold a1; omega
    have l1 := e1_len (m / 256)
    have l2 := e2_len (a1 m) ((m - a1 m) / 64)
    have L1 : (ev1 (m : Int)).length = 3 * (m / 256) + 1 := by unfold ev1; rw [Int.toNat_natCast, List.length_append, l1]; rfl
    have L2 : (ev2 (m : Int)).length = 3 * (m / 256) + 1 + 3 * ((m - a1 m) / 64) := by rw [e2', List.length_append, List.length_append, l1, l2]; rfl
    have EA : evA (m : Int) = (a1 m : Nat) := by rw [← eA, Int.toNat_of_nonneg (Int.natCast_nonneg _)]
    have F1 : Fits .i64 ((m : Int) - (a2 m : Nat)) := fits_of (by omega) (by omega)
    rw [Int.toNat_natCast]
    by_cases hz : m - a2 m = 0
    · have ex : ev2 (m : Int) ++ [[1, 0], [1, 0]] = evX m := by unfold evX; rw [if_pos hz, e2']; simp
      have hr := ev_run0 m
      rw [ex] at hr
      refine FnOk.run (out := { val := .own 0, new := [.rows [.i64, .i64] (evX m)] }) (new := [8]) g9_ok hr ?_ (by simp [upto]) rfl (by simp) (by simp) fun j hj => ?_
      · have q := ex ▸ (rfl : (evX m).length = (evX m).length)
        simp only [evC, List.cons_append, List.nil_append, List.length_append, List.length_cons, List.length_nil, L1, L2, allC_cons, allC_nil, and_true, eT, EA]
        exact ⟨hL1, by omega, by omega, by omega, hL2, by omega, by omega, by omega, by omega, by omega, decide_eq_false (by omega), F1, F1, decide_eq_false (by omega)⟩
      · match j, hj with
        | 0, _ => rfl
        | j + 1, hj => exact absurd hj (by simp)
    · have ex : ev2 (m : Int) ++ [[1, 0], [1, 1]] ++ [[2, evT (m : Int)], [3, 22]] = evX m := by unfold evX; rw [if_neg hz, e2', eT]; simp
      have hr := ev_run1 m
      have hlen : (evX m).length = 3 * (m / 256) + 1 + 3 * ((m - a1 m) / 64) + 4 := by rw [← ex]; simp only [List.length_append, L2, List.length_cons, List.length_nil]
      rw [ex] at hr
      refine FnOk.run (out := { val := .own 0, new := [.rows [.i64, .i64] (evX m)] }) (new := [12]) g9_ok hr ?_ (by simp [upto]) rfl (by simp) (by simp) fun j hj => ?_
      · simp only [evC, List.cons_append, List.nil_append, List.length_append, List.length_cons, List.length_nil, L1, L2, hlen, allC_cons, allC_nil, and_true, eT, EA]
        exact ⟨hL1, by omega, by omega, by omega, hL2, by omega, by omega, by omega, by omega, by omega, decide_eq_true (by omega), F1, F1, decide_eq_true (by omega), by omega⟩
      · match j, hj with
        | 0, _ => rfl
        | j + 1, hj => exact absurd hj (by simp)
  · simp at h
noncomputable abbrev g12 : Ctx := g9.add [(17, F17), (20, F20), (21, F21)]
theorem g12_ok : CtxU g12 := g9_ok.add mixed noGo (by
  intro x hx
  simp only [List.mem_cons, List.not_mem_nil, or_false] at hx
  rcases hx with rfl | rfl | rfl
  · exact acc17
  · exact acc20
  · exact acc21)
end Go.Proofs.Ytibfkpgdpldjbaa
