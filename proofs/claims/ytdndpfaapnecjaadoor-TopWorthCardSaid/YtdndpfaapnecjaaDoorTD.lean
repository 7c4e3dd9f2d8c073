/- Accounts of this seat's functions: lemmas, no statement of their own. No conditions. -/
import Derived.Test.YtdndpfaapnecjaaDoorTB
import Derived.Test.YtdndpfaapnecjaaDoorV4
namespace Go.Proofs.Tryd
open Go Go.Vx
/-! ### ahead F16, OneWay F11, begin F8 -/
def lnF (fr : Nat → Int) (tk : Nat → List Int) (i : Nat) : SV := .agg [.int .i64 (fr i), .roi .i64 (tk i)]
def frO (f : Nat → SV) (i : Nat) : Int := match f i with | .agg [.int _ v, _] => v | _ => 0
def tkO (f : Nat → SV) (i : Nat) : List Int := match f i with | .agg [_, .roi _ l] => l | _ => []
abbrev PA (s : ByteArray) (l0 l1 : List Int) (n : Nat) (f : Nat → SV) : SV := .agg [.raw (.string s), .roi .i64 l0, .roi .i64 l1, .ro 2 n f]
def aheadR : List Int → Bool
  | [] => true
  | [a] => decide (a = 1) || decide (a = 2)
  | [a, b] => decide (a = 1) && decide (b = 2)
  | _ => false
def begR (l0 l1 : List Int) (j : Nat) : Bool := match j with
  | 0 => l0.any (fun a => decide (a = 1))
  | 1 => l1.any (fun a => decide (a = 1))
  | 2 => l0.any (fun a => !decide (a = 1))
  | 3 => l1.any (fun a => !decide (a = 1))
  | _ => false
theorem ah0 (l : List Int) : runF g1 200 [.br true] 16 [.roi .i64 l] [] [] =
    some (SV.bool true, [], [Fits IntKind.i64 (↑l.length : Int), decide ((↑l.length : Int) = (0 : Int)) = true]) := by kernel_rfl
theorem ah1 (l : List Int) : runF g1 200 [.br false, .br true, .br true] 16 [.roi .i64 l] [] [] =
    some (SV.bool true, [], [Fits IntKind.i64 (↑l.length : Int), decide ((↑l.length : Int) = (0 : Int)) = false, decide ((↑l.length : Int) = (1 : Int)) = true, decide (l.getD ((0 : Int)).toNat (0 : Int) = (1 : Int)) = true, (0 : Int) ≤ (0 : Int) ∧ (0 : Int) < (↑l.length : Int)]) := by kernel_rfl
theorem ah2 (l : List Int) : runF g1 200 [.br false, .br true, .br false] 16 [.roi .i64 l] [] [] =
    some (SV.sbool (decide (l.getD ((0 : Int)).toNat (0 : Int) = (2 : Int))), [], [Fits IntKind.i64 (↑l.length : Int), decide ((↑l.length : Int) = (0 : Int)) = false, decide ((↑l.length : Int) = (1 : Int)) = true, (0 : Int) ≤ (0 : Int) ∧ (0 : Int) < (↑l.length : Int), decide (l.getD ((0 : Int)).toNat (0 : Int) = (1 : Int)) = false, (0 : Int) ≤ (0 : Int) ∧ (0 : Int) < (↑l.length : Int)]) := by kernel_rfl
theorem ah3 (l : List Int) : runF g1 200 [.br false, .br false, .br true, .br true] 16 [.roi .i64 l] [] [] =
    some (SV.sbool (decide (l.getD ((1 : Int)).toNat (0 : Int) = (2 : Int))), [], [Fits IntKind.i64 (↑l.length : Int), decide ((↑l.length : Int) = (0 : Int)) = false, decide ((↑l.length : Int) = (1 : Int)) = false, decide ((↑l.length : Int) = (2 : Int)) = true, (0 : Int) ≤ (1 : Int) ∧ (1 : Int) < (↑l.length : Int), decide (l.getD ((0 : Int)).toNat (0 : Int) = (1 : Int)) = true, (0 : Int) ≤ (0 : Int) ∧ (0 : Int) < (↑l.length : Int)]) := by kernel_rfl
theorem ah4 (l : List Int) : runF g1 200 [.br false, .br false, .br true, .br false] 16 [.roi .i64 l] [] [] =
    some (SV.bool false, [], [Fits IntKind.i64 (↑l.length : Int), decide ((↑l.length : Int) = (0 : Int)) = false, decide ((↑l.length : Int) = (1 : Int)) = false, decide ((↑l.length : Int) = (2 : Int)) = true, decide (l.getD ((0 : Int)).toNat (0 : Int) = (1 : Int)) = false, (0 : Int) ≤ (0 : Int) ∧ (0 : Int) < (↑l.length : Int)]) := by kernel_rfl
theorem ah5 (l : List Int) : runF g1 200 [.br false, .br false, .br false] 16 [.roi .i64 l] [] [] =
    some (SV.bool false, [], [Fits IntKind.i64 (↑l.length : Int), decide ((↑l.length : Int) = (0 : Int)) = false, decide ((↑l.length : Int) = (1 : Int)) = false, decide ((↑l.length : Int) = (2 : Int)) = false]) := by kernel_rfl
theorem ow1 (s : ByteArray) (l0 l1 : List Int) (n : Nat) (fr : Nat → Int) (tk : Nat → List Int) : runF g1 200 [.br true] 11 [PA s l0 l1 n (lnF fr tk)] [] [] =
    some (SV.sbool (decide (fr ((0 : Int)).toNat = (0 : Int))), [], [(0 : Int) ≤ (0 : Int) ∧ (0 : Int) < (↑n : Int), decide ((↑n : Int) = (1 : Int)) = true, Fits IntKind.i64 (↑n : Int)]) := by kernel_rfl
theorem ow0 (s : ByteArray) (l0 l1 : List Int) (n : Nat) (fr : Nat → Int) (tk : Nat → List Int) : runF g1 200 [.br false] 11 [PA s l0 l1 n (lnF fr tk)] [] [] =
    some (SV.bool false, [], [decide ((↑n : Int) = (1 : Int)) = false, Fits IntKind.i64 (↑n : Int)]) := by kernel_rfl
theorem bg00 (s : ByteArray) (n : Nat) (f : Nat → SV) : runF g1 600 [.br false, .br false] 8 [PA s [] [] n f] [] [] =
    some (SV.agg [SV.bool false, SV.bool false, SV.bool false, SV.bool false, SV.bool false, SV.bool false, SV.bool false, SV.bool false, SV.bool false, SV.bool false, SV.bool false, SV.bool false], [], [Fits IntKind.i64 (0 : Int), false = false, Fits IntKind.i64 (0 : Int), false = false]) := by kernel_rfl
theorem bg01 (s : ByteArray) (n : Nat) (f : Nat → SV) : runF g1 600 [.br false, .br true, .br true, .br false] 8 [PA s [] [1] n f] [] [] =
    some (SV.agg [SV.bool false, SV.bool true, SV.bool false, SV.bool false, SV.bool false, SV.bool false, SV.bool false, SV.bool false, SV.bool false, SV.bool false, SV.bool false, SV.bool false], [], [Fits IntKind.i64 (0 : Int), false = false, Fits IntKind.i64 (1 : Int), true = true, (0 : Int) ≤ (0 : Int) ∧ (0 : Int) < (↑[(1 : Int)].length : Int), true = true, Fits IntKind.i64 (1 : Int), false = false]) := by kernel_rfl
theorem bg02 (s : ByteArray) (n : Nat) (f : Nat → SV) : runF g1 600 [.br false, .br true, .br false, .br false] 8 [PA s [] [2] n f] [] [] =
    some (SV.agg [SV.bool false, SV.bool false, SV.bool false, SV.bool true, SV.bool false, SV.bool false, SV.bool false, SV.bool false, SV.bool false, SV.bool false, SV.bool false, SV.bool false], [], [Fits IntKind.i64 (0 : Int), false = false, Fits IntKind.i64 (1 : Int), true = true, (0 : Int) ≤ (0 : Int) ∧ (0 : Int) < (↑[(2 : Int)].length : Int), false = false, Fits IntKind.i64 (1 : Int), false = false]) := by kernel_rfl
theorem bg03 (s : ByteArray) (n : Nat) (f : Nat → SV) : runF g1 600 [.br false, .br true, .br true, .br true, .br false, .br false] 8 [PA s [] [1, 2] n f] [] [] =
    some (SV.agg [SV.bool false, SV.bool true, SV.bool false, SV.bool true, SV.bool false, SV.bool false, SV.bool false, SV.bool false, SV.bool false, SV.bool false, SV.bool false, SV.bool false], [], [Fits IntKind.i64 (0 : Int), false = false, Fits IntKind.i64 (2 : Int), true = true, (0 : Int) ≤ (0 : Int) ∧ (0 : Int) < (↑[(1 : Int), (2 : Int)].length : Int), true = true, Fits IntKind.i64 (2 : Int), true = true, (0 : Int) ≤ (1 : Int) ∧ (1 : Int) < (↑[(1 : Int), (2 : Int)].length : Int), false = false, Fits IntKind.i64 (2 : Int), false = false]) := by kernel_rfl
theorem bg10 (s : ByteArray) (n : Nat) (f : Nat → SV) : runF g1 600 [.br true, .br true, .br false, .br false] 8 [PA s [1] [] n f] [] [] =
    some (SV.agg [SV.bool true, SV.bool false, SV.bool false, SV.bool false, SV.bool false, SV.bool false, SV.bool false, SV.bool false, SV.bool false, SV.bool false, SV.bool false, SV.bool false], [], [Fits IntKind.i64 (1 : Int), true = true, (0 : Int) ≤ (0 : Int) ∧ (0 : Int) < (↑[(1 : Int)].length : Int), true = true, Fits IntKind.i64 (1 : Int), false = false, Fits IntKind.i64 (0 : Int), false = false]) := by kernel_rfl
theorem bg11 (s : ByteArray) (n : Nat) (f : Nat → SV) : runF g1 600 [.br true, .br true, .br false, .br true, .br true, .br false] 8 [PA s [1] [1] n f] [] [] =
    some (SV.agg [SV.bool true, SV.bool true, SV.bool false, SV.bool false, SV.bool false, SV.bool false, SV.bool false, SV.bool false, SV.bool false, SV.bool false, SV.bool false, SV.bool false], [], [Fits IntKind.i64 (1 : Int), true = true, (0 : Int) ≤ (0 : Int) ∧ (0 : Int) < (↑[(1 : Int)].length : Int), true = true, Fits IntKind.i64 (1 : Int), false = false, Fits IntKind.i64 (1 : Int), true = true, (0 : Int) ≤ (0 : Int) ∧ (0 : Int) < (↑[(1 : Int)].length : Int), true = true, Fits IntKind.i64 (1 : Int), false = false]) := by kernel_rfl
theorem bg12 (s : ByteArray) (n : Nat) (f : Nat → SV) : runF g1 600 [.br true, .br true, .br false, .br true, .br false, .br false] 8 [PA s [1] [2] n f] [] [] =
    some (SV.agg [SV.bool true, SV.bool false, SV.bool false, SV.bool true, SV.bool false, SV.bool false, SV.bool false, SV.bool false, SV.bool false, SV.bool false, SV.bool false, SV.bool false], [], [Fits IntKind.i64 (1 : Int), true = true, (0 : Int) ≤ (0 : Int) ∧ (0 : Int) < (↑[(1 : Int)].length : Int), true = true, Fits IntKind.i64 (1 : Int), false = false, Fits IntKind.i64 (1 : Int), true = true, (0 : Int) ≤ (0 : Int) ∧ (0 : Int) < (↑[(2 : Int)].length : Int), false = false, Fits IntKind.i64 (1 : Int), false = false]) := by kernel_rfl
theorem bg13 (s : ByteArray) (n : Nat) (f : Nat → SV) : runF g1 600 [.br true, .br true, .br false, .br true, .br true, .br true, .br false, .br false] 8 [PA s [1] [1, 2] n f] [] [] =
    some (SV.agg [SV.bool true, SV.bool true, SV.bool false, SV.bool true, SV.bool false, SV.bool false, SV.bool false, SV.bool false, SV.bool false, SV.bool false, SV.bool false, SV.bool false], [], [Fits IntKind.i64 (1 : Int), true = true, (0 : Int) ≤ (0 : Int) ∧ (0 : Int) < (↑[(1 : Int)].length : Int), true = true, Fits IntKind.i64 (1 : Int), false = false, Fits IntKind.i64 (2 : Int), true = true, (0 : Int) ≤ (0 : Int) ∧ (0 : Int) < (↑[(1 : Int), (2 : Int)].length : Int), true = true, Fits IntKind.i64 (2 : Int), true = true, (0 : Int) ≤ (1 : Int) ∧ (1 : Int) < (↑[(1 : Int), (2 : Int)].length : Int), false = false, Fits IntKind.i64 (2 : Int), false = false]) := by kernel_rfl
theorem bg20 (s : ByteArray) (n : Nat) (f : Nat → SV) : runF g1 600 [.br true, .br false, .br false, .br false] 8 [PA s [2] [] n f] [] [] =
    some (SV.agg [SV.bool false, SV.bool false, SV.bool true, SV.bool false, SV.bool false, SV.bool false, SV.bool false, SV.bool false, SV.bool false, SV.bool false, SV.bool false, SV.bool false], [], [Fits IntKind.i64 (1 : Int), true = true, (0 : Int) ≤ (0 : Int) ∧ (0 : Int) < (↑[(2 : Int)].length : Int), false = false, Fits IntKind.i64 (1 : Int), false = false, Fits IntKind.i64 (0 : Int), false = false]) := by kernel_rfl
theorem bg21 (s : ByteArray) (n : Nat) (f : Nat → SV) : runF g1 600 [.br true, .br false, .br false, .br true, .br true, .br false] 8 [PA s [2] [1] n f] [] [] =
    some (SV.agg [SV.bool false, SV.bool true, SV.bool true, SV.bool false, SV.bool false, SV.bool false, SV.bool false, SV.bool false, SV.bool false, SV.bool false, SV.bool false, SV.bool false], [], [Fits IntKind.i64 (1 : Int), true = true, (0 : Int) ≤ (0 : Int) ∧ (0 : Int) < (↑[(2 : Int)].length : Int), false = false, Fits IntKind.i64 (1 : Int), false = false, Fits IntKind.i64 (1 : Int), true = true, (0 : Int) ≤ (0 : Int) ∧ (0 : Int) < (↑[(1 : Int)].length : Int), true = true, Fits IntKind.i64 (1 : Int), false = false]) := by kernel_rfl
theorem bg22 (s : ByteArray) (n : Nat) (f : Nat → SV) : runF g1 600 [.br true, .br false, .br false, .br true, .br false, .br false] 8 [PA s [2] [2] n f] [] [] =
    some (SV.agg [SV.bool false, SV.bool false, SV.bool true, SV.bool true, SV.bool false, SV.bool false, SV.bool false, SV.bool false, SV.bool false, SV.bool false, SV.bool false, SV.bool false], [], [Fits IntKind.i64 (1 : Int), true = true, (0 : Int) ≤ (0 : Int) ∧ (0 : Int) < (↑[(2 : Int)].length : Int), false = false, Fits IntKind.i64 (1 : Int), false = false, Fits IntKind.i64 (1 : Int), true = true, (0 : Int) ≤ (0 : Int) ∧ (0 : Int) < (↑[(2 : Int)].length : Int), false = false, Fits IntKind.i64 (1 : Int), false = false]) := by kernel_rfl
theorem bg23 (s : ByteArray) (n : Nat) (f : Nat → SV) : runF g1 600 [.br true, .br false, .br false, .br true, .br true, .br true, .br false, .br false] 8 [PA s [2] [1, 2] n f] [] [] =
    some (SV.agg [SV.bool false, SV.bool true, SV.bool true, SV.bool true, SV.bool false, SV.bool false, SV.bool false, SV.bool false, SV.bool false, SV.bool false, SV.bool false, SV.bool false], [], [Fits IntKind.i64 (1 : Int), true = true, (0 : Int) ≤ (0 : Int) ∧ (0 : Int) < (↑[(2 : Int)].length : Int), false = false, Fits IntKind.i64 (1 : Int), false = false, Fits IntKind.i64 (2 : Int), true = true, (0 : Int) ≤ (0 : Int) ∧ (0 : Int) < (↑[(1 : Int), (2 : Int)].length : Int), true = true, Fits IntKind.i64 (2 : Int), true = true, (0 : Int) ≤ (1 : Int) ∧ (1 : Int) < (↑[(1 : Int), (2 : Int)].length : Int), false = false, Fits IntKind.i64 (2 : Int), false = false]) := by kernel_rfl
theorem bg30 (s : ByteArray) (n : Nat) (f : Nat → SV) : runF g1 600 [.br true, .br true, .br true, .br false, .br false, .br false] 8 [PA s [1, 2] [] n f] [] [] =
    some (SV.agg [SV.bool true, SV.bool false, SV.bool true, SV.bool false, SV.bool false, SV.bool false, SV.bool false, SV.bool false, SV.bool false, SV.bool false, SV.bool false, SV.bool false], [], [Fits IntKind.i64 (2 : Int), true = true, (0 : Int) ≤ (0 : Int) ∧ (0 : Int) < (↑[(1 : Int), (2 : Int)].length : Int), true = true, Fits IntKind.i64 (2 : Int), true = true, (0 : Int) ≤ (1 : Int) ∧ (1 : Int) < (↑[(1 : Int), (2 : Int)].length : Int), false = false, Fits IntKind.i64 (2 : Int), false = false, Fits IntKind.i64 (0 : Int), false = false]) := by kernel_rfl
theorem bg31 (s : ByteArray) (n : Nat) (f : Nat → SV) : runF g1 600 [.br true, .br true, .br true, .br false, .br false, .br true, .br true, .br false] 8 [PA s [1, 2] [1] n f] [] [] =
    some (SV.agg [SV.bool true, SV.bool true, SV.bool true, SV.bool false, SV.bool false, SV.bool false, SV.bool false, SV.bool false, SV.bool false, SV.bool false, SV.bool false, SV.bool false], [], [Fits IntKind.i64 (2 : Int), true = true, (0 : Int) ≤ (0 : Int) ∧ (0 : Int) < (↑[(1 : Int), (2 : Int)].length : Int), true = true, Fits IntKind.i64 (2 : Int), true = true, (0 : Int) ≤ (1 : Int) ∧ (1 : Int) < (↑[(1 : Int), (2 : Int)].length : Int), false = false, Fits IntKind.i64 (2 : Int), false = false, Fits IntKind.i64 (1 : Int), true = true, (0 : Int) ≤ (0 : Int) ∧ (0 : Int) < (↑[(1 : Int)].length : Int), true = true, Fits IntKind.i64 (1 : Int), false = false]) := by kernel_rfl
theorem bg32 (s : ByteArray) (n : Nat) (f : Nat → SV) : runF g1 600 [.br true, .br true, .br true, .br false, .br false, .br true, .br false, .br false] 8 [PA s [1, 2] [2] n f] [] [] =
    some (SV.agg [SV.bool true, SV.bool false, SV.bool true, SV.bool true, SV.bool false, SV.bool false, SV.bool false, SV.bool false, SV.bool false, SV.bool false, SV.bool false, SV.bool false], [], [Fits IntKind.i64 (2 : Int), true = true, (0 : Int) ≤ (0 : Int) ∧ (0 : Int) < (↑[(1 : Int), (2 : Int)].length : Int), true = true, Fits IntKind.i64 (2 : Int), true = true, (0 : Int) ≤ (1 : Int) ∧ (1 : Int) < (↑[(1 : Int), (2 : Int)].length : Int), false = false, Fits IntKind.i64 (2 : Int), false = false, Fits IntKind.i64 (1 : Int), true = true, (0 : Int) ≤ (0 : Int) ∧ (0 : Int) < (↑[(2 : Int)].length : Int), false = false, Fits IntKind.i64 (1 : Int), false = false]) := by kernel_rfl
theorem bg33 (s : ByteArray) (n : Nat) (f : Nat → SV) : runF g1 600 [.br true, .br true, .br true, .br false, .br false, .br true, .br true, .br true, .br false, .br false] 8 [PA s [1, 2] [1, 2] n f] [] [] =
    some (SV.agg [SV.bool true, SV.bool true, SV.bool true, SV.bool true, SV.bool false, SV.bool false, SV.bool false, SV.bool false, SV.bool false, SV.bool false, SV.bool false, SV.bool false], [], [Fits IntKind.i64 (2 : Int), true = true, (0 : Int) ≤ (0 : Int) ∧ (0 : Int) < (↑[(1 : Int), (2 : Int)].length : Int), true = true, Fits IntKind.i64 (2 : Int), true = true, (0 : Int) ≤ (1 : Int) ∧ (1 : Int) < (↑[(1 : Int), (2 : Int)].length : Int), false = false, Fits IntKind.i64 (2 : Int), false = false, Fits IntKind.i64 (2 : Int), true = true, (0 : Int) ≤ (0 : Int) ∧ (0 : Int) < (↑[(1 : Int), (2 : Int)].length : Int), true = true, Fits IntKind.i64 (2 : Int), true = true, (0 : Int) ≤ (1 : Int) ∧ (1 : Int) < (↑[(1 : Int), (2 : Int)].length : Int), false = false, Fits IntKind.i64 (2 : Int), false = false]) := by kernel_rfl
theorem fits_nat {n : Nat} (h : n ≤ 1000000) : Fits .i64 (n : Int) := fits_small (by omega) (by omega)
def F16 : SumF := fun args B => match args, B with
  | [.roi .i64 l], [] => some { val := .sbool (aheadR l), C := [Fits .i64 (l.length : Int)] }
  | _, _ => none
theorem acc16 : Acc g1 16 F16 := by
  intro args B out h hC
  unfold F16 at h
  split at h
  · rename_i l
    simp only [Option.some.injEq] at h; subst h
    simp only [allC_cons, allC_nil, and_true] at hC
    match l, hC with
    | [], hC => exact FnOk.toSb (b := true) (FnOk.pure g1_ok (ah0 []) (by simp only [allC_cons, allC_nil, and_true]; exact ⟨hC, rfl⟩)) rfl
    | [a], hC =>
      by_cases h1 : a = 1
      · exact FnOk.toSb (b := true) (FnOk.pure g1_ok (ah1 [a]) (by simp only [allC_cons, allC_nil, and_true]; exact ⟨hC, rfl, rfl, by subst h1; rfl, by decide, by simp⟩)) (by simp [aheadR, h1])
      · exact FnOk.val (C := []) (rd := []) (FnOk.pure g1_ok (ah2 [a]) (by simp only [allC_cons, allC_nil, and_true]; exact ⟨hC, rfl, rfl, ⟨by decide, by simp⟩, decide_eq_false h1, ⟨by decide, by simp⟩⟩)) (by
          rw [show aheadR [a] = decide (a = 2) by simp [aheadR, h1]]; exact DenImp.refl _)
    | [a, b], hC =>
      by_cases h1 : a = 1
      · exact FnOk.val (C := []) (rd := []) (FnOk.pure g1_ok (ah3 [a, b]) (by simp only [allC_cons, allC_nil, and_true]; exact ⟨hC, rfl, rfl, rfl, ⟨by decide, by simp⟩, by subst h1; rfl, ⟨by decide, by simp⟩⟩)) (by
          rw [show aheadR [a, b] = decide (b = 2) by simp [aheadR, h1]]; exact DenImp.refl _)
      · exact FnOk.toSb (b := false) (FnOk.pure g1_ok (ah4 [a, b]) (by simp only [allC_cons, allC_nil, and_true]; exact ⟨hC, rfl, rfl, rfl, decide_eq_false h1, ⟨by decide, by simp⟩⟩)) (by simp [aheadR, h1])
    | a :: b :: c :: r, hC => exact FnOk.toSb (b := false) (FnOk.pure g1_ok (ah5 (a :: b :: c :: r)) (by
        simp only [allC_cons, allC_nil, and_true]
        simp only [List.length_cons] at hC ⊢
        exact ⟨hC, decide_eq_false (by omega), decide_eq_false (by omega), decide_eq_false (by omega)⟩)) rfl
  · simp at h
def oneR (n : Nat) (fr : Nat → Int) : Bool := decide ((n : Int) = 1) && decide (fr 0 = 0)
abbrev lnC (n : Nat) (f : Nat → SV) : List Prop := [f = lnF (frO f) (tkO f), Fits .i64 (n : Int)]
def F11 : SumF := fun args B => match args, B with
  | [.agg [.raw (.string s), .roi .i64 l0, .roi .i64 l1, .ro 2 n f]], [] => some { val := .sbool (oneR n (frO f)), C := lnC n f }
  | _, _ => none
theorem acc11 : Acc g1 11 F11 := by
  intro args B out h hC
  unfold F11 at h
  split at h
  · rename_i s l0 l1 n f
    simp only [Option.some.injEq] at h; subst h
    simp only [lnC, allC_cons, allC_nil, and_true] at hC
    obtain ⟨hf, hn⟩ := hC
    refine FnOk.imp (args' := [PA s l0 l1 n (lnF (frO f) (tkO f))]) ?_ ⟨by rw [hf]; exact DenImp.refl _, trivial⟩
    by_cases h1 : (n : Int) = 1
    · exact FnOk.val (C := []) (rd := []) (FnOk.pure g1_ok (ow1 s l0 l1 n (frO f) (tkO f)) (by simp only [allC_cons, allC_nil, and_true]; exact ⟨⟨by decide, by omega⟩, decide_eq_true h1, hn⟩)) (by
        rw [show oneR n (frO f) = decide (frO f 0 = 0) by simp [oneR, h1]]; exact DenImp.refl _)
    · exact FnOk.toSb (b := false) (FnOk.pure g1_ok (ow0 s l0 l1 n (frO f) (tkO f)) (by simp only [allC_cons, allC_nil, and_true]; exact ⟨decide_eq_false h1, hn⟩)) (by simp [oneR, h1])
  · simp at h
theorem ahead_cases {l : List Int} (h : aheadR l = true) : l = [] ∨ l = [1] ∨ l = [2] ∨ l = [1, 2] := by
  match l, h with
  | [], _ => exact .inl rfl
  | [a], h =>
    simp [aheadR] at h
    rcases h with rfl | rfl
    · exact .inr (.inl rfl)
    · exact .inr (.inr (.inl rfl))
  | [a, b], h =>
    simp [aheadR] at h
    obtain ⟨rfl, rfl⟩ := h
    exact .inr (.inr (.inr rfl))
  | a :: b :: c :: r, h => simp [aheadR] at h
def F8 : SumF := fun args B => match args, B with
  | [.agg [.raw (.string s), .roi .i64 l0, .roi .i64 l1, .ro 2 n f]], [] => some { val := .agg (SX 12 (begR l0 l1)), C := [aheadR l0 = true ∧ aheadR l1 = true] }
  | _, _ => none
theorem acc8 : Acc g1 8 F8 := by
  intro args B out h hC
  unfold F8 at h
  split at h
  · rename_i s l0 l1 n f
    simp only [Option.some.injEq] at h; subst h
    simp only [allC_cons, allC_nil, and_true] at hC
    obtain ⟨h0, h1⟩ := hC
    rcases ahead_cases h0 with rfl | rfl | rfl | rfl <;> rcases ahead_cases h1 with rfl | rfl | rfl | rfl
    · exact FnOk.val (C := []) (rd := []) (FnOk.pure g1_ok (bg00 s n f) (by simp only [allC_cons, allC_nil, and_true]; (repeat' apply And.intro) <;> first | decide | exact fits_small (by decide) (by decide))) (fun _ _ _ _ hd => bools12 (by kernel_rfl) hd)
    · exact FnOk.val (C := []) (rd := []) (FnOk.pure g1_ok (bg01 s n f) (by simp only [allC_cons, allC_nil, and_true]; (repeat' apply And.intro) <;> first | decide | exact fits_small (by decide) (by decide))) (fun _ _ _ _ hd => bools12 (by kernel_rfl) hd)
    · exact FnOk.val (C := []) (rd := []) (FnOk.pure g1_ok (bg02 s n f) (by simp only [allC_cons, allC_nil, and_true]; (repeat' apply And.intro) <;> first | decide | exact fits_small (by decide) (by decide))) (fun _ _ _ _ hd => bools12 (by kernel_rfl) hd)
    · exact FnOk.val (C := []) (rd := []) (FnOk.pure g1_ok (bg03 s n f) (by simp only [allC_cons, allC_nil, and_true]; (repeat' apply And.intro) <;> first | decide | exact fits_small (by decide) (by decide))) (fun _ _ _ _ hd => bools12 (by kernel_rfl) hd)
    · exact FnOk.val (C := []) (rd := []) (FnOk.pure g1_ok (bg10 s n f) (by simp only [allC_cons, allC_nil, and_true]; (repeat' apply And.intro) <;> first | decide | exact fits_small (by decide) (by decide))) (fun _ _ _ _ hd => bools12 (by kernel_rfl) hd)
    · exact FnOk.val (C := []) (rd := []) (FnOk.pure g1_ok (bg11 s n f) (by simp only [allC_cons, allC_nil, and_true]; (repeat' apply And.intro) <;> first | decide | exact fits_small (by decide) (by decide))) (fun _ _ _ _ hd => bools12 (by kernel_rfl) hd)
    · exact FnOk.val (C := []) (rd := []) (FnOk.pure g1_ok (bg12 s n f) (by simp only [allC_cons, allC_nil, and_true]; (repeat' apply And.intro) <;> first | decide | exact fits_small (by decide) (by decide))) (fun _ _ _ _ hd => bools12 (by kernel_rfl) hd)
    · exact FnOk.val (C := []) (rd := []) (FnOk.pure g1_ok (bg13 s n f) (by simp only [allC_cons, allC_nil, and_true]; (repeat' apply And.intro) <;> first | decide | exact fits_small (by decide) (by decide))) (fun _ _ _ _ hd => bools12 (by kernel_rfl) hd)
    · exact FnOk.val (C := []) (rd := []) (FnOk.pure g1_ok (bg20 s n f) (by simp only [allC_cons, allC_nil, and_true]; (repeat' apply And.intro) <;> first | decide | exact fits_small (by decide) (by decide))) (fun _ _ _ _ hd => bools12 (by kernel_rfl) hd)
    · exact FnOk.val (C := []) (rd := []) (FnOk.pure g1_ok (bg21 s n f) (by simp only [allC_cons, allC_nil, and_true]; (repeat' apply And.intro) <;> first | decide | exact fits_small (by decide) (by decide))) (fun _ _ _ _ hd => bools12 (by kernel_rfl) hd)
    · exact FnOk.val (C := []) (rd := []) (FnOk.pure g1_ok (bg22 s n f) (by simp only [allC_cons, allC_nil, and_true]; (repeat' apply And.intro) <;> first | decide | exact fits_small (by decide) (by decide))) (fun _ _ _ _ hd => bools12 (by kernel_rfl) hd)
    · exact FnOk.val (C := []) (rd := []) (FnOk.pure g1_ok (bg23 s n f) (by simp only [allC_cons, allC_nil, and_true]; (repeat' apply And.intro) <;> first | decide | exact fits_small (by decide) (by decide))) (fun _ _ _ _ hd => bools12 (by kernel_rfl) hd)
    · exact FnOk.val (C := []) (rd := []) (FnOk.pure g1_ok (bg30 s n f) (by simp only [allC_cons, allC_nil, and_true]; (repeat' apply And.intro) <;> first | decide | exact fits_small (by decide) (by decide))) (fun _ _ _ _ hd => bools12 (by kernel_rfl) hd)
    · exact FnOk.val (C := []) (rd := []) (FnOk.pure g1_ok (bg31 s n f) (by simp only [allC_cons, allC_nil, and_true]; (repeat' apply And.intro) <;> first | decide | exact fits_small (by decide) (by decide))) (fun _ _ _ _ hd => bools12 (by kernel_rfl) hd)
    · exact FnOk.val (C := []) (rd := []) (FnOk.pure g1_ok (bg32 s n f) (by simp only [allC_cons, allC_nil, and_true]; (repeat' apply And.intro) <;> first | decide | exact fits_small (by decide) (by decide))) (fun _ _ _ _ hd => bools12 (by kernel_rfl) hd)
    · exact FnOk.val (C := []) (rd := []) (FnOk.pure g1_ok (bg33 s n f) (by simp only [allC_cons, allC_nil, and_true]; (repeat' apply And.intro) <;> first | decide | exact fits_small (by decide) (by decide))) (fun _ _ _ _ hd => bools12 (by kernel_rfl) hd)
  · simp at h
noncomputable abbrev g2 : Ctx := g1.add [(9, F9), (16, F16), (11, F11), (8, F8)]
theorem g2_ok : CtxU g2 := g1_ok.add mixed noGo (by
  intro x hx
  simp only [List.mem_cons, List.not_mem_nil, or_false] at hx
  rcases hx with rfl | rfl | rfl | rfl
  · exact acc9
  · exact acc16
  · exact acc11
  · exact acc8)
end Go.Proofs.Tryd

namespace Go.Proofs.Tryd
open Go Go.Vx
/-! ### the document's shaped: F7 -/
abbrev PB (s : ByteArray) (l0 l1 : List Int) (n : Nat) (f : Nat → SV) : Body := .cells [.raw (.string s), .roi .i64 l0, .roi .i64 l1, .ro 2 n f]
abbrev LnB (v : Int) (l : List Int) : Body := .cells [.int .i64 v, .roi .i64 l]
abbrev s7i : List Nat := [1, 3, 4, 5, 6]
noncomputable abbrev s7I : Code := bodyAt Tryd.prog 7 14
abbrev s7J (a i k : Int) : List SV := [.ptr 0 0, .int .i64 a, .int .i64 i, .ptr 1 0, .int .i64 k]
abbrev s7B (s : ByteArray) (l0 l1 : List Int) (n : Nat) (f : Nat → SV) (v : Int) (l : List Int) : List Body := [PB s l0 l1 n f, LnB v l]
theorem s7i_go (s : ByteArray) (l0 l1 : List Int) (n : Nat) (f : Nat → SV) (v : Int) (l : List Int) (a i k : Int) : runC g2 400 95 [.br true, .br false, .br false] s7I (s7i.zip (s7J a i k)) (s7B s l0 l1 n f v l) s7i [0, 1] =
    some (Ex.normal, [SV.ptr (0 : Nat) (0 : Nat), SV.int IntKind.i64 a, SV.int IntKind.i64 i, SV.ptr (1 : Nat) (0 : Nat), SV.int IntKind.i64 (k + (1 : Int))], [some (Body.cells [SV.raw (Value.string s), SV.roi IntKind.i64 l0, SV.roi IntKind.i64 l1, SV.ro (2 : Nat) n f]), some (Body.cells [SV.int IntKind.i64 v, SV.roi IntKind.i64 l])], [Fits IntKind.i64 (↑l.length : Int), decide (k < (↑l.length : Int)) = true, (0 : Int) ≤ k ∧ k < (↑l.length : Int), decide (l.getD k.toNat (0 : Int) < (1 : Int)) = false, (0 : Int) ≤ k ∧ k < (↑l.length : Int), decide ((7 : Int) < l.getD k.toNat (0 : Int)) = false, Fits IntKind.i64 (k + (1 : Int))]) := by kernel_rfl
theorem s7i_b1 (s : ByteArray) (l0 l1 : List Int) (n : Nat) (f : Nat → SV) (v : Int) (l : List Int) (a i k : Int) : runC g2 400 95 [.br true, .br true] s7I (s7i.zip (s7J a i k)) (s7B s l0 l1 n f v l) [2] [] =
    some (Ex.ret, [SV.bool false], [], [Fits IntKind.i64 (↑l.length : Int), decide (k < (↑l.length : Int)) = true, decide (l.getD k.toNat (0 : Int) < (1 : Int)) = true, (0 : Int) ≤ k ∧ k < (↑l.length : Int)]) := by kernel_rfl
theorem s7i_b2 (s : ByteArray) (l0 l1 : List Int) (n : Nat) (f : Nat → SV) (v : Int) (l : List Int) (a i k : Int) : runC g2 400 95 [.br true, .br false, .br true] s7I (s7i.zip (s7J a i k)) (s7B s l0 l1 n f v l) [2] [] =
    some (Ex.ret, [SV.bool false], [], [Fits IntKind.i64 (↑l.length : Int), decide (k < (↑l.length : Int)) = true, (0 : Int) ≤ k ∧ k < (↑l.length : Int), decide (l.getD k.toNat (0 : Int) < (1 : Int)) = false, (0 : Int) ≤ k ∧ k < (↑l.length : Int), decide ((7 : Int) < l.getD k.toNat (0 : Int)) = true]) := by kernel_rfl
theorem s7i_end (s : ByteArray) (l0 l1 : List Int) (n : Nat) (f : Nat → SV) (v : Int) (l : List Int) (a i k : Int) : runC g2 400 95 [.br false] s7I (s7i.zip (s7J a i k)) (s7B s l0 l1 n f v l) [1, 3, 4] [0] =
    some (Ex.exit (2 : Nat), [SV.ptr (0 : Nat) (0 : Nat), SV.int IntKind.i64 a, SV.int IntKind.i64 i], [some (Body.cells [SV.raw (Value.string s), SV.roi IntKind.i64 l0, SV.roi IntKind.i64 l1, SV.ro (2 : Nat) n f])], [Fits IntKind.i64 (↑l.length : Int), decide (k < (↑l.length : Int)) = false]) := by kernel_rfl
def allB (p : Nat → Bool) : Nat → Bool
  | 0 => true
  | n + 1 => allB p n && p n
theorem allB_iff {p : Nat → Bool} : ∀ {n : Nat}, allB p n = true ↔ ∀ j, j < n → p j = true
  | 0 => by simp [allB]
  | n + 1 => by
    rw [allB, Bool.and_eq_true, allB_iff]
    constructor
    · rintro ⟨h1, h2⟩ j hj
      rcases Nat.lt_or_ge j n with h | h
      · exact h1 j h
      · rw [show j = n by omega]; exact h2
    · exact fun h => ⟨fun j hj => h j (by omega), h n (by omega)⟩
theorem allB_first {p : Nat → Bool} : ∀ {n : Nat}, allB p n = false → ∃ i, i < n ∧ p i = false ∧ ∀ j, j < i → p j = true
  | 0, h => by simp [allB] at h
  | n + 1, h => by
    cases hn : allB p n with
    | false =>
      obtain ⟨i, h1, h2, h3⟩ := allB_first hn
      exact ⟨i, by omega, h2, h3⟩
    | true =>
      rw [allB, hn, Bool.true_and] at h
      exact ⟨n, by omega, h, allB_iff.1 hn⟩
def tkB (t : Int) : Bool := decide (1 ≤ t) && decide (t ≤ 7)
theorem tkB_iff {t : Int} : tkB t = true ↔ 1 ≤ t ∧ t ≤ 7 := by simp [tkB]
theorem tkB_not {t : Int} : tkB t = false ↔ t < 1 ∨ 7 < t := by
  simp [tkB]; omega
def tksB (l : List Int) : Bool := allB (fun k => tkB (l.getD k 0)) l.length
theorem fits_of {n : Int} (h1 : -9223372036854775808 ≤ n) (h2 : n ≤ 9223372036854775807) : Fits .i64 n := ⟨h1, h2⟩
theorem toNat_sub1 (i : Nat) : ((i : Int) - 1).toNat = i - 1 := by omega
theorem q01 : ∀ j : Nat, j < 1 → ([0, 1] : List Nat)[j]? = some j := fun j hj => by
  match j, hj with
  | 0, _ => rfl
theorem q0 : ∀ j : Nat, j < 1 → ([0] : List Nat)[j]? = some j := fun j hj => by
  match j, hj with
  | 0, _ => rfl
theorem qn (L : List Nat) : ∀ j : Nat, j < 0 → L[j]? = some j := fun j hj => absurd hj (Nat.not_lt_zero _)
noncomputable def s7ie : LoopF := fun vals B => match vals, B with
  | [.ptr 0 0, .int .i64 a, .int .i64 i, .ptr 1 0, .int .i64 0], [.cells [.raw (.string s), .roi .i64 l0, .roi .i64 l1, .ro 2 n f], .cells [.int .i64 v, .roi .i64 l]] => some ([(1, .ptr 0 0), (3, .int .i64 a), (4, .int .i64 i)], [PB s l0 l1 n f], [Fits .i64 (l.length : Int), tksB l = true])
  | _, _ => none
theorem s7i_e : LoopGood g2 95 (.loop s7I) s7i 1 (.exit 2) (mkLoopN s7ie) := by
  refine LoopGood.mkN (by decide) fun vals B S' B' C hG hC hlen w0 O hgl => ?_
  clear hlen
  unfold s7ie at hG
  split at hG
  · rename_i a i s l0 l1 n f v l
    simp only [Option.some.injEq, Prod.mk.injEq] at hG
    obtain ⟨rfl, rfl, rfl⟩ := hG
    simp only [allC_cons, allC_nil, and_true] at hC
    obtain ⟨F, ht⟩ := hC
    have F' := fits_int F
    unfold tksB at ht
    have ht := allB_iff.1 ht
    · refine SimC.iter (g := g2) (e := .exit 2) (S := fun k => s7i.zip (s7J a i (k : Int))) (B := fun _ => s7B s l0 l1 n f v l) (N := l.length) (fun k hk => ?_) ?_ (by simp) 0 (by omega)
      · have ht := tkB_iff.1 (ht k (by omega))
        exact SimC.run (B' := s7B s l0 l1 n f v l) g2_ok (by decide) (s7i_go s l0 l1 n f v l a i (k : Int)) (by simp only [allC_cons, allC_nil, and_true, decide_eq_true_eq, decide_eq_false_iff_not, Bool.not_eq_true', Bool.not_eq_false', Int.toNat_natCast, toNat_sub1]; (repeat' first | assumption | omega | exact fits_of (by omega) (by omega) | apply And.intro)) (by decide) (q01) (by decide) (by simp) hgl
      · exact SimC.weaken (SimC.run (B' := [PB s l0 l1 n f]) g2_ok (by decide) (s7i_end s l0 l1 n f v l a i (l.length : Int)) (by simp only [allC_cons, allC_nil, and_true, decide_eq_true_eq, decide_eq_false_iff_not, Bool.not_eq_true', Bool.not_eq_false', Int.toNat_natCast, toNat_sub1]; (repeat' first | assumption | omega | exact fits_of (by omega) (by omega) | apply And.intro)) (by decide) q0 (by decide) (by simp) hgl) (sub_mkT (by simp; exact ⟨rfl, rfl, rfl⟩))
  · simp at hG
noncomputable def s7ir : LoopF := fun vals B => match vals, B with
  | [.ptr 0 0, .int .i64 a, .int .i64 i, .ptr 1 0, .int .i64 0], [.cells [.raw (.string s), .roi .i64 l0, .roi .i64 l1, .ro 2 n f], .cells [.int .i64 v, .roi .i64 l]] => some ([(2, .bool false)], [], [Fits .i64 (l.length : Int), tksB l = false])
  | _, _ => none
theorem s7i_r : LoopGood g2 95 (.loop s7I) s7i 0 (.ret) (mkLoopN s7ir) := by
  refine LoopGood.mkN (by decide) fun vals B S' B' C hG hC hlen w0 O hgl => ?_
  clear hlen
  unfold s7ir at hG
  split at hG
  · rename_i a i s l0 l1 n f v l
    simp only [Option.some.injEq, Prod.mk.injEq] at hG
    obtain ⟨rfl, rfl, rfl⟩ := hG
    simp only [allC_cons, allC_nil, and_true] at hC
    obtain ⟨F, ht⟩ := hC
    have F' := fits_int F
    unfold tksB at ht
    obtain ⟨j, hj, hb, ht⟩ := allB_first ht
    have hb := tkB_not.1 hb
    · refine SimC.iter (g := g2) (e := .ret) (S := fun k => s7i.zip (s7J a i (k : Int))) (B := fun _ => s7B s l0 l1 n f v l) (N := j) (fun k hk => ?_) ?_ (by simp) 0 (by omega)
      · have ht := tkB_iff.1 (ht k (by omega))
        exact SimC.run (B' := s7B s l0 l1 n f v l) g2_ok (by decide) (s7i_go s l0 l1 n f v l a i (k : Int)) (by simp only [allC_cons, allC_nil, and_true, decide_eq_true_eq, decide_eq_false_iff_not, Bool.not_eq_true', Bool.not_eq_false', Int.toNat_natCast, toNat_sub1]; (repeat' first | assumption | omega | exact fits_of (by omega) (by omega) | apply And.intro)) (by decide) (qn _) (by decide) (by simp) hgl
      · rcases Int.lt_or_le (l.getD j 0) 1 with h1 | h1
        · exact SimC.weaken (SimC.run (B' := []) g2_ok (by decide) (s7i_b1 s l0 l1 n f v l a i (j : Int)) (by simp only [allC_cons, allC_nil, and_true, decide_eq_true_eq, decide_eq_false_iff_not, Bool.not_eq_true', Bool.not_eq_false', Int.toNat_natCast, toNat_sub1]; (repeat' first | assumption | omega | exact fits_of (by omega) (by omega) | apply And.intro)) (by decide) (qn _) (by decide) (by simp) hgl) (sub_mkT (by simp; exact rfl))
        · exact SimC.weaken (SimC.run (B' := []) g2_ok (by decide) (s7i_b2 s l0 l1 n f v l a i (j : Int)) (by simp only [allC_cons, allC_nil, and_true, decide_eq_true_eq, decide_eq_false_iff_not, Bool.not_eq_true', Bool.not_eq_false', Int.toNat_natCast, toNat_sub1]; (repeat' first | assumption | omega | exact fits_of (by omega) (by omega) | apply And.intro)) (by decide) (qn _) (by decide) (by simp) hgl) (sub_mkT (by simp; exact rfl))
  · simp at hG
end Go.Proofs.Tryd
