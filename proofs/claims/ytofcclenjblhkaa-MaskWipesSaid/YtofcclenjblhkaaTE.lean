/- Accounts of this seat's functions: lemmas, no statement of their own. No conditions. -/
import Derived.Test.YtofcclenjblhkaaTD
namespace Go.Proofs.Ytofcclenjblhkaa.wipes
open Go Go.Vx

abbrev keep : List Nat := [0, 1, 2, 7, 8]
noncomputable abbrev body : Code := bodyAt Try.prog 6 6
noncomputable abbrev S (l : List Int) (a b : Int) (i : Nat) : List (Nat × SV) := keep.zip [.roi .u8 l, .int .i64 a, .int .i64 b, .own 0, .int .i64 i]
theorem rA (l w : List Int) (a b : Int) (i : Nat) : runC g2 200 75 [.br true, .br false, .br true, .br false] body (S l a b i) [.ints .u8 w] keep [0] =
    some (Ex.normal, [SV.roi IntKind.u8 l, SV.int IntKind.i64 a, SV.int IntKind.i64 b, SV.own (0 : Nat), SV.int IntKind.i64 ((↑i : Int) + (1 : Int))], [some (Body.ints IntKind.u8 w)], [Fits IntKind.i64 (↑l.length : Int), decide ((↑i : Int) < (↑l.length : Int)) = true, (0 : Int) ≤ (↑i : Int) ∧ (↑i : Int) < (↑l.length : Int), i + (0 : Nat) < w.length, (0 : Int) ≤ (↑i : Int) ∧ (↑i : Int) < (↑(ecount (Body.ints IntKind.u8 w)) : Int), decide ((↑i : Int) < a) = true, decide (a ≤ (↑i : Int)) = false, (!decide (w.getD ((↑i : Int).toNat + ((0 : Nat) + (0 : Nat))) (0 : Int) = l.getD (↑i : Int).toNat (0 : Int))) = false, Fits IntKind.i64 ((↑i : Int) + (1 : Int))]) := by kernel_rfl
theorem rB (l w : List Int) (a b : Int) (i : Nat) : runC g2 200 75 [.br true, .br true, .br true, .br false, .br false, .br false] body (S l a b i) [.ints .u8 w] keep [0] =
    some (Ex.normal, [SV.roi IntKind.u8 l, SV.int IntKind.i64 a, SV.int IntKind.i64 b, SV.own (0 : Nat), SV.int IntKind.i64 ((↑i : Int) + (1 : Int))], [some (Body.ints IntKind.u8 w)], [Fits IntKind.i64 (↑l.length : Int), decide ((↑i : Int) < (↑l.length : Int)) = true, decide (b ≤ (↑i : Int)) = false, decide ((↑i : Int) < a) = false, (!decide (w.getD ((↑i : Int).toNat + ((0 : Nat) + (0 : Nat))) (0 : Int) = Int.ofNat (0 : Nat))) = false, i + (0 : Nat) < w.length, (0 : Int) ≤ (↑i : Int) ∧ (↑i : Int) < (↑(ecount (Body.ints IntKind.u8 w)) : Int), decide ((↑i : Int) < b) = true, decide (a ≤ (↑i : Int)) = true, Fits IntKind.i64 ((↑i : Int) + (1 : Int))]) := by kernel_rfl
theorem rC (l w : List Int) (a b : Int) (i : Nat) : runC g2 200 75 [.br true, .br true, .br false, .br false, .br true, .br false] body (S l a b i) [.ints .u8 w] keep [0] =
    some (Ex.normal, [SV.roi IntKind.u8 l, SV.int IntKind.i64 a, SV.int IntKind.i64 b, SV.own (0 : Nat), SV.int IntKind.i64 ((↑i : Int) + (1 : Int))], [some (Body.ints IntKind.u8 w)], [Fits IntKind.i64 (↑l.length : Int), decide ((↑i : Int) < (↑l.length : Int)) = true, (0 : Int) ≤ (↑i : Int) ∧ (↑i : Int) < (↑l.length : Int), i + (0 : Nat) < w.length, (0 : Int) ≤ (↑i : Int) ∧ (↑i : Int) < (↑(ecount (Body.ints IntKind.u8 w)) : Int), decide (b ≤ (↑i : Int)) = true, decide ((↑i : Int) < a) = false, decide ((↑i : Int) < b) = false, decide (a ≤ (↑i : Int)) = true, (!decide (w.getD ((↑i : Int).toNat + ((0 : Nat) + (0 : Nat))) (0 : Int) = l.getD (↑i : Int).toNat (0 : Int))) = false, Fits IntKind.i64 ((↑i : Int) + (1 : Int))]) := by kernel_rfl
theorem rO (l w : List Int) (a b : Int) (i : Nat) : runC g2 200 75 [.br false] body (S l a b i) [.ints .u8 w] keep [0] =
    some (Ex.exit (0 : Nat), [SV.roi IntKind.u8 l, SV.int IntKind.i64 a, SV.int IntKind.i64 b, SV.own (0 : Nat), SV.int IntKind.i64 (↑i : Int)], [some (Body.ints IntKind.u8 w)], [Fits IntKind.i64 (↑l.length : Int), decide ((↑i : Int) < (↑l.length : Int)) = false]) := by kernel_rfl
def Wiped (l w : List Int) (a b : Int) : Prop := w.length = l.length ∧ ∀ i : Nat, i < l.length → if a ≤ (i : Int) ∧ (i : Int) < b then w.getD i 0 = 0 else w.getD i 0 = l.getD i 0
noncomputable def G : LoopF := fun vals B => match vals, B with
  | [.roi .u8 l, .int .i64 a, .int .i64 b, .own 0, .int .i64 0], [.ints .u8 w] => some ([], [.ints .u8 w], [Wiped l w a b, Fits .i64 (l.length : Int)])
  | _, _ => none

theorem loop_ : LoopGood g2 75 (.loop body) keep 1 (.exit 0) (mkLoopN G) := by
  refine LoopGood.mkN (by decide) fun vals B S' B' C hG hC hlen w0 O hgl => ?_
  clear hlen
  unfold G at hG
  split at hG
  · rename_i l a b w
    simp only [Option.some.injEq, Prod.mk.injEq] at hG
    obtain ⟨rfl, rfl, rfl⟩ := hG
    simp only [allC_cons, allC_nil, and_true] at hC
    obtain ⟨⟨hw, hwi⟩, hlen⟩ := hC
    have hb := fits_int hlen
    refine SimC.iter (g := g2) (S := S l a b) (B := fun _ => [.ints .u8 w]) (N := l.length) (fun i hi => ?_) ?_ (by simp) 0 (by omega)
    · have hwi := hwi i hi
      by_cases h1 : (i : Int) < a
      · rw [if_neg (by omega)] at hwi
        refine SimC.run (B' := [.ints .u8 w]) g2_ok (by decide) (rA l w a b i) ?_ (by simp) (by simp) (by decide) (by simp) hgl
        have h2 : ¬ a ≤ (i : Int) := by omega
        simp only [Int.toNat_natCast, Nat.add_zero, hwi]
        simp [allC_cons, allC_nil, ecount, hw, h1, h2, hlen, hi]
        simp [Fits, IntKind.min, IntKind.max, IntKind.signed, IntKind.bits]; omega
      · by_cases h2 : (i : Int) < b
        · rw [if_pos (by omega)] at hwi
          refine SimC.run (B' := [.ints .u8 w]) g2_ok (by decide) (rB l w a b i) ?_ (by simp) (by simp) (by decide) (by simp) hgl
          have h3 : a ≤ (i : Int) := by omega
          have h4 : ¬ b ≤ (i : Int) := by omega
          simp only [Int.toNat_natCast, Nat.add_zero, hwi]
          simp [allC_cons, allC_nil, ecount, hw, h1, h2, h3, h4, hlen, hi]
          simp [Fits, IntKind.min, IntKind.max, IntKind.signed, IntKind.bits]; omega
        · rw [if_neg (by omega)] at hwi
          refine SimC.run (B' := [.ints .u8 w]) g2_ok (by decide) (rC l w a b i) ?_ (by simp) (by simp) (by decide) (by simp) hgl
          have h3 : a ≤ (i : Int) := by omega
          have h4 : b ≤ (i : Int) := by omega
          simp only [Int.toNat_natCast, Nat.add_zero, hwi]
          simp [allC_cons, allC_nil, ecount, hw, h1, h2, h3, h4, hlen, hi]
          simp [Fits, IntKind.min, IntKind.max, IntKind.signed, IntKind.bits]; omega
    · refine SimC.weaken (SimC.run (B' := [.ints .u8 w]) g2_ok (by decide) (rO l w a b l.length) ?_ (by simp) (by simp) (by decide) (by simp) hgl) fun t => .inr rfl
      simp [allC_cons, allC_nil, hlen]
  · simp at hG

theorem law1 (l : List Int) (a b : Int) : runF g2 200 [.br true] 6 [.roi .u8 l, .int .i64 a, .int .i64 b] [] [] =
    some (SV.bool true, [], [decide (a < Int.ofNat (0 : Nat)) = true]) := by kernel_rfl
theorem law2 (l : List Int) (a b : Int) : runF g2 200 [.br false, .br true] 6 [.roi .u8 l, .int .i64 a, .int .i64 b] [] [] =
    some (SV.bool true, [], [decide (b < a) = true, decide (a < Int.ofNat (0 : Nat)) = false]) := by kernel_rfl
theorem law3 (l : List Int) (a b : Int) : runF g2 200 [.br false, .br false, .br true] 6 [.roi .u8 l, .int .i64 a, .int .i64 b] [] [] =
    some (SV.bool true, [], [Fits IntKind.i64 (↑l.length : Int), decide (b < a) = false, decide (a < Int.ofNat (0 : Nat)) = false, decide ((↑l.length : Int) < b) = true]) := by kernel_rfl
theorem law4 (l : List Int) (a b : Int) : runF g2 200 [.br false, .br false, .br false, .loop 6 keep 1 (.exit 0) (mkLoopN G)] 6 [.roi .u8 l, .int .i64 a, .int .i64 b] [] [] =
    some (SV.bool true, [], [Fits IntKind.i64 (↑l.length : Int), decide (b < a) = false, decide (a < Int.ofNat (0 : Nat)) = false, decide ((↑l.length : Int) < b) = false, ([] ++ l).length * (1 : Nat) ≤ (140737488355328 : Nat), a.toNat + (0 : Nat) + (List.replicate (b.toNat - a.toNat) (0 : Int)).length ≤ ([] ++ l).length, (0 : Int) ≤ a ∧ a ≤ b ∧ b ≤ (↑(ecount (Body.ints IntKind.u8 ([] ++ l))) : Int), LoopGood g2 75 (.loop body) keep 1 (.exit 0) (mkLoopN G), Wiped l (splice ([] ++ l) (a.toNat + (0 : Nat)) (List.replicate (b.toNat - a.toNat) (0 : Int))) a b, Fits IntKind.i64 (↑l.length : Int)]) := by kernel_rfl
theorem wiped (l : List Int) (a b : Nat) (h1 : a ≤ b) (h2 : b ≤ l.length) : Wiped l (splice l a (List.replicate (b - a) 0)) a b := by
  have hl : (splice l a (List.replicate (b - a) (0 : Int))).length = l.length := by simp [splice]; omega
  refine ⟨hl, fun i hi => ?_⟩
  unfold splice
  simp only [List.getD_eq_getElem?_getD, List.length_replicate]
  by_cases c1 : i < a
  · rw [if_neg (by omega), List.append_assoc, List.getElem?_append_left (by simp; omega), List.getElem?_take, if_pos c1]
  · by_cases c2 : i < b
    · rw [if_pos (by omega), List.getElem?_append_left (by simp; omega), List.getElem?_append_right (by simp; omega), List.getElem?_replicate, if_pos (by simp; omega)]; rfl
    · rw [if_neg (by omega), List.getElem?_append_right (by simp; omega), List.getElem?_drop]
      congr 2
      simp; omega

theorem wipes_ok (l : List Int) (hl : l.length * Try.prog.bytesOf 5 ≤ 140737488351232) (a b : Int) : FnOk g2 6 [.roi .u8 l, .int .i64 a, .int .i64 b] [] { val := .bool true } := by
  have hb : Try.prog.bytesOf 5 = 1 := by kernel_rfl
  rw [hb, Nat.mul_one] at hl
  have hfit : Fits .i64 (l.length : Int) := by simp [Fits, IntKind.min, IntKind.max, IntKind.signed, IntKind.bits]; omega
  by_cases h1 : a < 0
  · refine FnOk.pure g2_ok (law1 l a b) ?_
    simp [allC_cons, allC_nil, h1]
  · by_cases h2 : b < a
    · refine FnOk.pure g2_ok (law2 l a b) ?_
      simp [allC_cons, allC_nil, h1, h2]
    · by_cases h3 : (l.length : Int) < b
      · refine FnOk.pure g2_ok (law3 l a b) ?_
        simp [allC_cons, allC_nil, h1, h2, h3, hfit]
      · refine FnOk.pure g2_ok (law4 l a b) ?_
        obtain ⟨n, rfl⟩ : ∃ n : Nat, a = n := ⟨a.toNat, by omega⟩
        obtain ⟨m, rfl⟩ : ∃ m : Nat, b = m := ⟨b.toNat, by omega⟩
        have hw := wiped l n m (by omega) (by omega)
        simp only [allC_cons, allC_nil, List.nil_append, Int.toNat_natCast, Nat.add_zero, hw, hfit, loop_, ecount, List.length_replicate]
        simp [h2, h3]
        omega
end Go.Proofs.Ytofcclenjblhkaa.wipes
