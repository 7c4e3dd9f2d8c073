/- Accounts of this seat's functions: lemmas, no statement of their own. No conditions. -/
import Derived.Test.YtdndpfaapnecjaaDoorTD
namespace Go.Proofs.Tryd
open Go Go.Vx
/-! ### the document's shaped, its lines: F7 -/
abbrev s7o : List Nat := [1, 3, 4]
noncomputable abbrev s7O : Code := bodyAt Tryd.prog 7 5
def sumT (tk : Nat → List Int) : Nat → Nat
  | 0 => 0
  | i + 1 => sumT tk i + (tk i).length
def lineOk (fr : Nat → Int) (tk : Nat → List Int) (i : Nat) : Bool :=
  (decide (fr i = 0) || decide (fr i = 1)) && ((decide (i = 0) || !decide (fr i = fr (i - 1))) && (!decide ((tk i).length = 0) && (decide (sumT tk i + (tk i).length ≤ 24) && tksB (tk i))))
theorem lineOk_iff {fr : Nat → Int} {tk : Nat → List Int} {i : Nat} : lineOk fr tk i = true ↔ (fr i = 0 ∨ fr i = 1) ∧ (i = 0 ∨ ¬ fr i = fr (i - 1)) ∧ ¬ (tk i).length = 0 ∧ sumT tk i + (tk i).length ≤ 24 ∧ tksB (tk i) = true := by
  simp only [lineOk, sumT, Bool.and_eq_true, Bool.or_eq_true, decide_eq_true_eq, Bool.not_eq_true', decide_eq_false_iff_not]
def shapedR (l0 l1 : List Int) (n : Nat) (fr : Nat → Int) (tk : Nat → List Int) : Bool := aheadR l0 && (aheadR l1 && (!decide (n = 0) && allB (lineOk fr tk) n))
abbrev tkC (n : Nat) (tk : Nat → List Int) : Prop := ∀ i, i < n → (tk i).length ≤ 140737488351232
abbrev pC (l0 l1 : List Int) (n : Nat) (f : Nat → SV) : List Prop := [f = lnF (frO f) (tkO f), Fits .i64 (n : Int), Fits .i64 (l0.length : Int), Fits .i64 (l1.length : Int), tkC n (tkO f)]
theorem frO_ln (fr : Nat → Int) (tk : Nat → List Int) : frO (lnF fr tk) = fr := rfl
theorem tkO_ln (fr : Nat → Int) (tk : Nat → List Int) : tkO (lnF fr tk) = tk := rfl
abbrev s7V (a i : Int) : List SV := [.ptr 0 0, .int .i64 a, .int .i64 i]
theorem s7o_go0 (s : ByteArray) (l0 l1 : List Int) (n : Nat) (fr : Nat → Int) (tk : Nat → List Int) (a : Int) (i : Nat) : runC g2 900 95 [.br true, .br false, .br false, .br false, .br false, .loop 14 s7i 1 (.exit 2) (mkLoopN s7ie)] s7O (s7o.zip (s7V a (i : Int))) [PB s l0 l1 n (lnF fr tk)] s7o [0] =
    some (Ex.normal, [SV.ptr (0 : Nat) (0 : Nat), SV.int IntKind.i64 (a + (↑(tk i).length : Int)), SV.int IntKind.i64 ((↑i : Int) + (1 : Int))], [some (Body.cells [SV.raw (Value.string s), SV.roi IntKind.i64 l0, SV.roi IntKind.i64 l1, SV.ro (2 : Nat) n (lnF fr tk)])], [Fits IntKind.i64 (↑n : Int), decide ((↑i : Int) < (↑n : Int)) = true, (0 : Int) ≤ (↑i : Int) ∧ (↑i : Int) < (↑n : Int), Fits IntKind.i64 (↑(tk i).length : Int), decide ((0 : Int) < (↑i : Int)) = false, (!decide (fr (↑i : Int).toNat = (0 : Int))) = false, decide ((↑(tk (↑i : Int).toNat).length : Int) = (0 : Int)) = false, Fits IntKind.i64 (a + (↑(tk i).length : Int)), Fits IntKind.i64 (↑(tk i).length : Int), decide ((24 : Int) < a + (↑(tk (↑i : Int).toNat).length : Int)) = false, LoopGood g2 95 (.loop s7I) s7i 1 (.exit 2) (mkLoopN s7ie), Fits IntKind.i64 (↑(tk i).length : Int), tksB (tk i) = true, Fits IntKind.i64 ((↑i : Int) + (1 : Int))]) := by kernel_rfl
theorem s7o_sum0 (s : ByteArray) (l0 l1 : List Int) (n : Nat) (fr : Nat → Int) (tk : Nat → List Int) (a : Int) (i : Nat) : runC g2 900 95 [.br true, .br false, .br false, .br false, .br true] s7O (s7o.zip (s7V a (i : Int))) [PB s l0 l1 n (lnF fr tk)] [2] [] =
    some (Ex.ret, [SV.bool false], [], [Fits IntKind.i64 (↑n : Int), decide ((↑i : Int) < (↑n : Int)) = true, (0 : Int) ≤ (↑i : Int) ∧ (↑i : Int) < (↑n : Int), Fits IntKind.i64 (↑(tk i).length : Int), decide ((0 : Int) < (↑i : Int)) = false, (!decide (fr (↑i : Int).toNat = (0 : Int))) = false, decide ((↑(tk (↑i : Int).toNat).length : Int) = (0 : Int)) = false, Fits IntKind.i64 (a + (↑(tk i).length : Int)), Fits IntKind.i64 (↑(tk i).length : Int), decide ((24 : Int) < a + (↑(tk (↑i : Int).toNat).length : Int)) = true]) := by kernel_rfl
theorem s7o_tok0 (s : ByteArray) (l0 l1 : List Int) (n : Nat) (fr : Nat → Int) (tk : Nat → List Int) (a : Int) (i : Nat) : runC g2 900 95 [.br true, .br false, .br false, .br false, .br false, .loop 14 s7i 0 .ret (mkLoopN s7ir)] s7O (s7o.zip (s7V a (i : Int))) [PB s l0 l1 n (lnF fr tk)] [2] [] =
    some (Ex.ret, [SV.bool false], [], [Fits IntKind.i64 (↑n : Int), decide ((↑i : Int) < (↑n : Int)) = true, (0 : Int) ≤ (↑i : Int) ∧ (↑i : Int) < (↑n : Int), Fits IntKind.i64 (↑(tk i).length : Int), decide ((0 : Int) < (↑i : Int)) = false, (!decide (fr (↑i : Int).toNat = (0 : Int))) = false, decide ((↑(tk (↑i : Int).toNat).length : Int) = (0 : Int)) = false, Fits IntKind.i64 (a + (↑(tk i).length : Int)), Fits IntKind.i64 (↑(tk i).length : Int), decide ((24 : Int) < a + (↑(tk (↑i : Int).toNat).length : Int)) = false, LoopGood g2 95 (.loop s7I) s7i 0 .ret (mkLoopN s7ir), Fits IntKind.i64 (↑(tk i).length : Int), tksB (tk i) = false]) := by kernel_rfl
theorem s7o_len0 (s : ByteArray) (l0 l1 : List Int) (n : Nat) (fr : Nat → Int) (tk : Nat → List Int) (a : Int) (i : Nat) : runC g2 900 95 [.br true, .br false, .br false, .br true] s7O (s7o.zip (s7V a (i : Int))) [PB s l0 l1 n (lnF fr tk)] [2] [] =
    some (Ex.ret, [SV.bool false], [], [Fits IntKind.i64 (↑n : Int), decide ((↑i : Int) < (↑n : Int)) = true, (0 : Int) ≤ (↑i : Int) ∧ (↑i : Int) < (↑n : Int), Fits IntKind.i64 (↑(tk i).length : Int), decide ((0 : Int) < (↑i : Int)) = false, (!decide (fr (↑i : Int).toNat = (0 : Int))) = false, decide ((↑(tk (↑i : Int).toNat).length : Int) = (0 : Int)) = true]) := by kernel_rfl
theorem s7o_go1 (s : ByteArray) (l0 l1 : List Int) (n : Nat) (fr : Nat → Int) (tk : Nat → List Int) (a : Int) (i : Nat) : runC g2 900 95 [.br true, .br false, .br true, .br false, .br false, .br false, .loop 14 s7i 1 (.exit 2) (mkLoopN s7ie)] s7O (s7o.zip (s7V a (i : Int))) [PB s l0 l1 n (lnF fr tk)] s7o [0] =
    some (Ex.normal, [SV.ptr (0 : Nat) (0 : Nat), SV.int IntKind.i64 (a + (↑(tk i).length : Int)), SV.int IntKind.i64 ((↑i : Int) + (1 : Int))], [some (Body.cells [SV.raw (Value.string s), SV.roi IntKind.i64 l0, SV.roi IntKind.i64 l1, SV.ro (2 : Nat) n (lnF fr tk)])], [Fits IntKind.i64 (↑n : Int), decide ((↑i : Int) < (↑n : Int)) = true, (0 : Int) ≤ (↑i : Int) ∧ (↑i : Int) < (↑n : Int), Fits IntKind.i64 (↑(tk i).length : Int), decide (fr (↑i : Int).toNat = fr ((↑i : Int) - (1 : Int)).toNat) = false, (0 : Int) ≤ (↑i : Int) - (1 : Int) ∧ (↑i : Int) - (1 : Int) < (↑n : Int), Fits IntKind.i64 ((↑i : Int) - (1 : Int)), decide ((0 : Int) < (↑i : Int)) = true, (!decide (fr (↑i : Int).toNat = (0 : Int))) = false, decide ((↑(tk (↑i : Int).toNat).length : Int) = (0 : Int)) = false, Fits IntKind.i64 (a + (↑(tk i).length : Int)), Fits IntKind.i64 (↑(tk i).length : Int), decide ((24 : Int) < a + (↑(tk (↑i : Int).toNat).length : Int)) = false, LoopGood g2 95 (.loop s7I) s7i 1 (.exit 2) (mkLoopN s7ie), Fits IntKind.i64 (↑(tk i).length : Int), tksB (tk i) = true, Fits IntKind.i64 ((↑i : Int) + (1 : Int))]) := by kernel_rfl
theorem s7o_sum1 (s : ByteArray) (l0 l1 : List Int) (n : Nat) (fr : Nat → Int) (tk : Nat → List Int) (a : Int) (i : Nat) : runC g2 900 95 [.br true, .br false, .br true, .br false, .br false, .br true] s7O (s7o.zip (s7V a (i : Int))) [PB s l0 l1 n (lnF fr tk)] [2] [] =
    some (Ex.ret, [SV.bool false], [], [Fits IntKind.i64 (↑n : Int), decide ((↑i : Int) < (↑n : Int)) = true, (0 : Int) ≤ (↑i : Int) ∧ (↑i : Int) < (↑n : Int), Fits IntKind.i64 (↑(tk i).length : Int), decide (fr (↑i : Int).toNat = fr ((↑i : Int) - (1 : Int)).toNat) = false, (0 : Int) ≤ (↑i : Int) - (1 : Int) ∧ (↑i : Int) - (1 : Int) < (↑n : Int), Fits IntKind.i64 ((↑i : Int) - (1 : Int)), decide ((0 : Int) < (↑i : Int)) = true, (!decide (fr (↑i : Int).toNat = (0 : Int))) = false, decide ((↑(tk (↑i : Int).toNat).length : Int) = (0 : Int)) = false, Fits IntKind.i64 (a + (↑(tk i).length : Int)), Fits IntKind.i64 (↑(tk i).length : Int), decide ((24 : Int) < a + (↑(tk (↑i : Int).toNat).length : Int)) = true]) := by kernel_rfl
theorem s7o_tok1 (s : ByteArray) (l0 l1 : List Int) (n : Nat) (fr : Nat → Int) (tk : Nat → List Int) (a : Int) (i : Nat) : runC g2 900 95 [.br true, .br false, .br true, .br false, .br false, .br false, .loop 14 s7i 0 .ret (mkLoopN s7ir)] s7O (s7o.zip (s7V a (i : Int))) [PB s l0 l1 n (lnF fr tk)] [2] [] =
    some (Ex.ret, [SV.bool false], [], [Fits IntKind.i64 (↑n : Int), decide ((↑i : Int) < (↑n : Int)) = true, (0 : Int) ≤ (↑i : Int) ∧ (↑i : Int) < (↑n : Int), Fits IntKind.i64 (↑(tk i).length : Int), decide (fr (↑i : Int).toNat = fr ((↑i : Int) - (1 : Int)).toNat) = false, (0 : Int) ≤ (↑i : Int) - (1 : Int) ∧ (↑i : Int) - (1 : Int) < (↑n : Int), Fits IntKind.i64 ((↑i : Int) - (1 : Int)), decide ((0 : Int) < (↑i : Int)) = true, (!decide (fr (↑i : Int).toNat = (0 : Int))) = false, decide ((↑(tk (↑i : Int).toNat).length : Int) = (0 : Int)) = false, Fits IntKind.i64 (a + (↑(tk i).length : Int)), Fits IntKind.i64 (↑(tk i).length : Int), decide ((24 : Int) < a + (↑(tk (↑i : Int).toNat).length : Int)) = false, LoopGood g2 95 (.loop s7I) s7i 0 .ret (mkLoopN s7ir), Fits IntKind.i64 (↑(tk i).length : Int), tksB (tk i) = false]) := by kernel_rfl
theorem s7o_len1 (s : ByteArray) (l0 l1 : List Int) (n : Nat) (fr : Nat → Int) (tk : Nat → List Int) (a : Int) (i : Nat) : runC g2 900 95 [.br true, .br false, .br true, .br false, .br true] s7O (s7o.zip (s7V a (i : Int))) [PB s l0 l1 n (lnF fr tk)] [2] [] =
    some (Ex.ret, [SV.bool false], [], [Fits IntKind.i64 (↑n : Int), decide ((↑i : Int) < (↑n : Int)) = true, (0 : Int) ≤ (↑i : Int) ∧ (↑i : Int) < (↑n : Int), Fits IntKind.i64 (↑(tk i).length : Int), decide (fr (↑i : Int).toNat = fr ((↑i : Int) - (1 : Int)).toNat) = false, (0 : Int) ≤ (↑i : Int) - (1 : Int) ∧ (↑i : Int) - (1 : Int) < (↑n : Int), Fits IntKind.i64 ((↑i : Int) - (1 : Int)), decide ((0 : Int) < (↑i : Int)) = true, (!decide (fr (↑i : Int).toNat = (0 : Int))) = false, decide ((↑(tk (↑i : Int).toNat).length : Int) = (0 : Int)) = true]) := by kernel_rfl
theorem s7o_go2 (s : ByteArray) (l0 l1 : List Int) (n : Nat) (fr : Nat → Int) (tk : Nat → List Int) (a : Int) (i : Nat) : runC g2 900 95 [.br true, .br true, .br false, .br false, .br false, .br false, .loop 14 s7i 1 (.exit 2) (mkLoopN s7ie)] s7O (s7o.zip (s7V a (i : Int))) [PB s l0 l1 n (lnF fr tk)] s7o [0] =
    some (Ex.normal, [SV.ptr (0 : Nat) (0 : Nat), SV.int IntKind.i64 (a + (↑(tk i).length : Int)), SV.int IntKind.i64 ((↑i : Int) + (1 : Int))], [some (Body.cells [SV.raw (Value.string s), SV.roi IntKind.i64 l0, SV.roi IntKind.i64 l1, SV.ro (2 : Nat) n (lnF fr tk)])], [Fits IntKind.i64 (↑n : Int), decide ((↑i : Int) < (↑n : Int)) = true, (0 : Int) ≤ (↑i : Int) ∧ (↑i : Int) < (↑n : Int), Fits IntKind.i64 (↑(tk i).length : Int), decide ((0 : Int) < (↑i : Int)) = false, (!decide (fr (↑i : Int).toNat = (1 : Int))) = false, (!decide (fr (↑i : Int).toNat = (0 : Int))) = true, decide ((↑(tk (↑i : Int).toNat).length : Int) = (0 : Int)) = false, Fits IntKind.i64 (a + (↑(tk i).length : Int)), Fits IntKind.i64 (↑(tk i).length : Int), decide ((24 : Int) < a + (↑(tk (↑i : Int).toNat).length : Int)) = false, LoopGood g2 95 (.loop s7I) s7i 1 (.exit 2) (mkLoopN s7ie), Fits IntKind.i64 (↑(tk i).length : Int), tksB (tk i) = true, Fits IntKind.i64 ((↑i : Int) + (1 : Int))]) := by kernel_rfl
theorem s7o_sum2 (s : ByteArray) (l0 l1 : List Int) (n : Nat) (fr : Nat → Int) (tk : Nat → List Int) (a : Int) (i : Nat) : runC g2 900 95 [.br true, .br true, .br false, .br false, .br false, .br true] s7O (s7o.zip (s7V a (i : Int))) [PB s l0 l1 n (lnF fr tk)] [2] [] =
    some (Ex.ret, [SV.bool false], [], [Fits IntKind.i64 (↑n : Int), decide ((↑i : Int) < (↑n : Int)) = true, (0 : Int) ≤ (↑i : Int) ∧ (↑i : Int) < (↑n : Int), Fits IntKind.i64 (↑(tk i).length : Int), decide ((0 : Int) < (↑i : Int)) = false, (!decide (fr (↑i : Int).toNat = (1 : Int))) = false, (!decide (fr (↑i : Int).toNat = (0 : Int))) = true, decide ((↑(tk (↑i : Int).toNat).length : Int) = (0 : Int)) = false, Fits IntKind.i64 (a + (↑(tk i).length : Int)), Fits IntKind.i64 (↑(tk i).length : Int), decide ((24 : Int) < a + (↑(tk (↑i : Int).toNat).length : Int)) = true]) := by kernel_rfl
theorem s7o_tok2 (s : ByteArray) (l0 l1 : List Int) (n : Nat) (fr : Nat → Int) (tk : Nat → List Int) (a : Int) (i : Nat) : runC g2 900 95 [.br true, .br true, .br false, .br false, .br false, .br false, .loop 14 s7i 0 .ret (mkLoopN s7ir)] s7O (s7o.zip (s7V a (i : Int))) [PB s l0 l1 n (lnF fr tk)] [2] [] =
    some (Ex.ret, [SV.bool false], [], [Fits IntKind.i64 (↑n : Int), decide ((↑i : Int) < (↑n : Int)) = true, (0 : Int) ≤ (↑i : Int) ∧ (↑i : Int) < (↑n : Int), Fits IntKind.i64 (↑(tk i).length : Int), decide ((0 : Int) < (↑i : Int)) = false, (!decide (fr (↑i : Int).toNat = (1 : Int))) = false, (!decide (fr (↑i : Int).toNat = (0 : Int))) = true, decide ((↑(tk (↑i : Int).toNat).length : Int) = (0 : Int)) = false, Fits IntKind.i64 (a + (↑(tk i).length : Int)), Fits IntKind.i64 (↑(tk i).length : Int), decide ((24 : Int) < a + (↑(tk (↑i : Int).toNat).length : Int)) = false, LoopGood g2 95 (.loop s7I) s7i 0 .ret (mkLoopN s7ir), Fits IntKind.i64 (↑(tk i).length : Int), tksB (tk i) = false]) := by kernel_rfl
theorem s7o_len2 (s : ByteArray) (l0 l1 : List Int) (n : Nat) (fr : Nat → Int) (tk : Nat → List Int) (a : Int) (i : Nat) : runC g2 900 95 [.br true, .br true, .br false, .br false, .br true] s7O (s7o.zip (s7V a (i : Int))) [PB s l0 l1 n (lnF fr tk)] [2] [] =
    some (Ex.ret, [SV.bool false], [], [Fits IntKind.i64 (↑n : Int), decide ((↑i : Int) < (↑n : Int)) = true, (0 : Int) ≤ (↑i : Int) ∧ (↑i : Int) < (↑n : Int), Fits IntKind.i64 (↑(tk i).length : Int), decide ((0 : Int) < (↑i : Int)) = false, (!decide (fr (↑i : Int).toNat = (1 : Int))) = false, (!decide (fr (↑i : Int).toNat = (0 : Int))) = true, decide ((↑(tk (↑i : Int).toNat).length : Int) = (0 : Int)) = true]) := by kernel_rfl
theorem s7o_go3 (s : ByteArray) (l0 l1 : List Int) (n : Nat) (fr : Nat → Int) (tk : Nat → List Int) (a : Int) (i : Nat) : runC g2 900 95 [.br true, .br true, .br false, .br true, .br false, .br false, .br false, .loop 14 s7i 1 (.exit 2) (mkLoopN s7ie)] s7O (s7o.zip (s7V a (i : Int))) [PB s l0 l1 n (lnF fr tk)] s7o [0] =
    some (Ex.normal, [SV.ptr (0 : Nat) (0 : Nat), SV.int IntKind.i64 (a + (↑(tk i).length : Int)), SV.int IntKind.i64 ((↑i : Int) + (1 : Int))], [some (Body.cells [SV.raw (Value.string s), SV.roi IntKind.i64 l0, SV.roi IntKind.i64 l1, SV.ro (2 : Nat) n (lnF fr tk)])], [Fits IntKind.i64 (↑n : Int), decide ((↑i : Int) < (↑n : Int)) = true, (0 : Int) ≤ (↑i : Int) ∧ (↑i : Int) < (↑n : Int), Fits IntKind.i64 (↑(tk i).length : Int), decide (fr (↑i : Int).toNat = fr ((↑i : Int) - (1 : Int)).toNat) = false, (0 : Int) ≤ (↑i : Int) - (1 : Int) ∧ (↑i : Int) - (1 : Int) < (↑n : Int), Fits IntKind.i64 ((↑i : Int) - (1 : Int)), decide ((0 : Int) < (↑i : Int)) = true, (!decide (fr (↑i : Int).toNat = (1 : Int))) = false, (!decide (fr (↑i : Int).toNat = (0 : Int))) = true, decide ((↑(tk (↑i : Int).toNat).length : Int) = (0 : Int)) = false, Fits IntKind.i64 (a + (↑(tk i).length : Int)), Fits IntKind.i64 (↑(tk i).length : Int), decide ((24 : Int) < a + (↑(tk (↑i : Int).toNat).length : Int)) = false, LoopGood g2 95 (.loop s7I) s7i 1 (.exit 2) (mkLoopN s7ie), Fits IntKind.i64 (↑(tk i).length : Int), tksB (tk i) = true, Fits IntKind.i64 ((↑i : Int) + (1 : Int))]) := by kernel_rfl
theorem s7o_sum3 (s : ByteArray) (l0 l1 : List Int) (n : Nat) (fr : Nat → Int) (tk : Nat → List Int) (a : Int) (i : Nat) : runC g2 900 95 [.br true, .br true, .br false, .br true, .br false, .br false, .br true] s7O (s7o.zip (s7V a (i : Int))) [PB s l0 l1 n (lnF fr tk)] [2] [] =
    some (Ex.ret, [SV.bool false], [], [Fits IntKind.i64 (↑n : Int), decide ((↑i : Int) < (↑n : Int)) = true, (0 : Int) ≤ (↑i : Int) ∧ (↑i : Int) < (↑n : Int), Fits IntKind.i64 (↑(tk i).length : Int), decide (fr (↑i : Int).toNat = fr ((↑i : Int) - (1 : Int)).toNat) = false, (0 : Int) ≤ (↑i : Int) - (1 : Int) ∧ (↑i : Int) - (1 : Int) < (↑n : Int), Fits IntKind.i64 ((↑i : Int) - (1 : Int)), decide ((0 : Int) < (↑i : Int)) = true, (!decide (fr (↑i : Int).toNat = (1 : Int))) = false, (!decide (fr (↑i : Int).toNat = (0 : Int))) = true, decide ((↑(tk (↑i : Int).toNat).length : Int) = (0 : Int)) = false, Fits IntKind.i64 (a + (↑(tk i).length : Int)), Fits IntKind.i64 (↑(tk i).length : Int), decide ((24 : Int) < a + (↑(tk (↑i : Int).toNat).length : Int)) = true]) := by kernel_rfl
theorem s7o_tok3 (s : ByteArray) (l0 l1 : List Int) (n : Nat) (fr : Nat → Int) (tk : Nat → List Int) (a : Int) (i : Nat) : runC g2 900 95 [.br true, .br true, .br false, .br true, .br false, .br false, .br false, .loop 14 s7i 0 .ret (mkLoopN s7ir)] s7O (s7o.zip (s7V a (i : Int))) [PB s l0 l1 n (lnF fr tk)] [2] [] =
    some (Ex.ret, [SV.bool false], [], [Fits IntKind.i64 (↑n : Int), decide ((↑i : Int) < (↑n : Int)) = true, (0 : Int) ≤ (↑i : Int) ∧ (↑i : Int) < (↑n : Int), Fits IntKind.i64 (↑(tk i).length : Int), decide (fr (↑i : Int).toNat = fr ((↑i : Int) - (1 : Int)).toNat) = false, (0 : Int) ≤ (↑i : Int) - (1 : Int) ∧ (↑i : Int) - (1 : Int) < (↑n : Int), Fits IntKind.i64 ((↑i : Int) - (1 : Int)), decide ((0 : Int) < (↑i : Int)) = true, (!decide (fr (↑i : Int).toNat = (1 : Int))) = false, (!decide (fr (↑i : Int).toNat = (0 : Int))) = true, decide ((↑(tk (↑i : Int).toNat).length : Int) = (0 : Int)) = false, Fits IntKind.i64 (a + (↑(tk i).length : Int)), Fits IntKind.i64 (↑(tk i).length : Int), decide ((24 : Int) < a + (↑(tk (↑i : Int).toNat).length : Int)) = false, LoopGood g2 95 (.loop s7I) s7i 0 .ret (mkLoopN s7ir), Fits IntKind.i64 (↑(tk i).length : Int), tksB (tk i) = false]) := by kernel_rfl
theorem s7o_len3 (s : ByteArray) (l0 l1 : List Int) (n : Nat) (fr : Nat → Int) (tk : Nat → List Int) (a : Int) (i : Nat) : runC g2 900 95 [.br true, .br true, .br false, .br true, .br false, .br true] s7O (s7o.zip (s7V a (i : Int))) [PB s l0 l1 n (lnF fr tk)] [2] [] =
    some (Ex.ret, [SV.bool false], [], [Fits IntKind.i64 (↑n : Int), decide ((↑i : Int) < (↑n : Int)) = true, (0 : Int) ≤ (↑i : Int) ∧ (↑i : Int) < (↑n : Int), Fits IntKind.i64 (↑(tk i).length : Int), decide (fr (↑i : Int).toNat = fr ((↑i : Int) - (1 : Int)).toNat) = false, (0 : Int) ≤ (↑i : Int) - (1 : Int) ∧ (↑i : Int) - (1 : Int) < (↑n : Int), Fits IntKind.i64 ((↑i : Int) - (1 : Int)), decide ((0 : Int) < (↑i : Int)) = true, (!decide (fr (↑i : Int).toNat = (1 : Int))) = false, (!decide (fr (↑i : Int).toNat = (0 : Int))) = true, decide ((↑(tk (↑i : Int).toNat).length : Int) = (0 : Int)) = true]) := by kernel_rfl
theorem s7o_from (s : ByteArray) (l0 l1 : List Int) (n : Nat) (fr : Nat → Int) (tk : Nat → List Int) (a : Int) (i : Nat) : runC g2 900 95 [.br true, .br true, .br true] s7O (s7o.zip (s7V a (i : Int))) [PB s l0 l1 n (lnF fr tk)] [2] [] =
    some (Ex.ret, [SV.bool false], [], [Fits IntKind.i64 (↑n : Int), decide ((↑i : Int) < (↑n : Int)) = true, (0 : Int) ≤ (↑i : Int) ∧ (↑i : Int) < (↑n : Int), (!decide (fr (↑i : Int).toNat = (1 : Int))) = true, (!decide (fr (↑i : Int).toNat = (0 : Int))) = true]) := by kernel_rfl
theorem s7o_eq1 (s : ByteArray) (l0 l1 : List Int) (n : Nat) (fr : Nat → Int) (tk : Nat → List Int) (a : Int) (i : Nat) : runC g2 900 95 [.br true, .br false, .br true, .br true] s7O (s7o.zip (s7V a (i : Int))) [PB s l0 l1 n (lnF fr tk)] [2] [] =
    some (Ex.ret, [SV.bool false], [], [Fits IntKind.i64 (↑n : Int), decide ((↑i : Int) < (↑n : Int)) = true, (0 : Int) ≤ (↑i : Int) ∧ (↑i : Int) < (↑n : Int), decide (fr (↑i : Int).toNat = fr ((↑i : Int) - (1 : Int)).toNat) = true, (0 : Int) ≤ (↑i : Int) - (1 : Int) ∧ (↑i : Int) - (1 : Int) < (↑n : Int), Fits IntKind.i64 ((↑i : Int) - (1 : Int)), decide ((0 : Int) < (↑i : Int)) = true, (!decide (fr (↑i : Int).toNat = (0 : Int))) = false]) := by kernel_rfl
theorem s7o_eq3 (s : ByteArray) (l0 l1 : List Int) (n : Nat) (fr : Nat → Int) (tk : Nat → List Int) (a : Int) (i : Nat) : runC g2 900 95 [.br true, .br true, .br false, .br true, .br true] s7O (s7o.zip (s7V a (i : Int))) [PB s l0 l1 n (lnF fr tk)] [2] [] =
    some (Ex.ret, [SV.bool false], [], [Fits IntKind.i64 (↑n : Int), decide ((↑i : Int) < (↑n : Int)) = true, (0 : Int) ≤ (↑i : Int) ∧ (↑i : Int) < (↑n : Int), decide (fr (↑i : Int).toNat = fr ((↑i : Int) - (1 : Int)).toNat) = true, (0 : Int) ≤ (↑i : Int) - (1 : Int) ∧ (↑i : Int) - (1 : Int) < (↑n : Int), Fits IntKind.i64 ((↑i : Int) - (1 : Int)), decide ((0 : Int) < (↑i : Int)) = true, (!decide (fr (↑i : Int).toNat = (1 : Int))) = false, (!decide (fr (↑i : Int).toNat = (0 : Int))) = true]) := by kernel_rfl
theorem s7o_end (s : ByteArray) (l0 l1 : List Int) (n : Nat) (fr : Nat → Int) (tk : Nat → List Int) (a : Int) (i : Nat) : runC g2 900 95 [.br false] s7O (s7o.zip (s7V a (i : Int))) [PB s l0 l1 n (lnF fr tk)] [] [] =
    some (Ex.exit (0 : Nat), [], [], [Fits IntKind.i64 (↑n : Int), decide ((↑i : Int) < (↑n : Int)) = false]) := by kernel_rfl
noncomputable def s7oe : LoopF := fun vals B => match vals, B with
  | [.ptr 0 0, .int .i64 0, .int .i64 0], [.cells [.raw (.string s), .roi .i64 l0, .roi .i64 l1, .ro 2 n f]] => some ([], [], pC l0 l1 n f ++ [allB (lineOk (frO f) (tkO f)) n = true])
  | _, _ => none
theorem s7o_e : LoopGood g2 95 (.loop s7O) s7o 0 (.exit 0) (mkLoopN s7oe) := by
  refine LoopGood.mkN (by decide) fun vals B S' B' C hG hC hlen w0 O hgl => ?_
  clear hlen
  unfold s7oe at hG
  split at hG
  · rename_i s l0 l1 n f
    simp only [Option.some.injEq, Prod.mk.injEq] at hG
    obtain ⟨rfl, rfl, rfl⟩ := hG
    simp only [pC, allC_append, allC_cons, allC_nil, and_true] at hC
    obtain ⟨⟨hf, Fn, Fl0, Fl1, hT⟩, ho⟩ := hC
    generalize frO f = fr at *
    generalize tkO f = tk at *
    subst hf
    have Fn' := fits_int Fn
    have hL := s7i_e
    have hLr := s7i_r
    have ho := allB_iff.1 ho
    · refine SimC.iter (g := g2) (e := .exit 0) (S := fun i => s7o.zip (s7V (sumT tk i : Nat) (i : Int))) (B := fun _ => [PB s l0 l1 n (lnF fr tk)]) (N := n) (fun i hi => ?_) ?_ (by simp) 0 (by omega)
      · obtain ⟨hfr, hal, hne, hs, htk⟩ := lineOk_iff.1 (ho i (by omega))
        have Fl : Fits .i64 ((tk i).length : Int) := fits_of (by omega) (by omega)
        rcases hfr with hfr | hfr <;> rcases Nat.eq_zero_or_pos i with hi0 | hi0
        · exact SimC.run (B' := [PB s l0 l1 n (lnF fr tk)]) g2_ok (by decide) (s7o_go0 s l0 l1 n fr tk (sumT tk i : Nat) i) (by simp only [allC_cons, allC_nil, and_true, decide_eq_true_eq, decide_eq_false_iff_not, Bool.not_eq_true', Bool.not_eq_false', Int.toNat_natCast, toNat_sub1]; (repeat' first | assumption | omega | exact fits_of (by omega) (by omega) | apply And.intro)) (by decide) (qn _) (by decide) (by simp) hgl
        · have hal : ¬ fr i = fr (i - 1) := hal.resolve_left (by omega)
          exact SimC.run (B' := [PB s l0 l1 n (lnF fr tk)]) g2_ok (by decide) (s7o_go1 s l0 l1 n fr tk (sumT tk i : Nat) i) (by simp only [allC_cons, allC_nil, and_true, decide_eq_true_eq, decide_eq_false_iff_not, Bool.not_eq_true', Bool.not_eq_false', Int.toNat_natCast, toNat_sub1]; (repeat' first | assumption | omega | exact fits_of (by omega) (by omega) | apply And.intro)) (by decide) (qn _) (by decide) (by simp) hgl
        · exact SimC.run (B' := [PB s l0 l1 n (lnF fr tk)]) g2_ok (by decide) (s7o_go2 s l0 l1 n fr tk (sumT tk i : Nat) i) (by simp only [allC_cons, allC_nil, and_true, decide_eq_true_eq, decide_eq_false_iff_not, Bool.not_eq_true', Bool.not_eq_false', Int.toNat_natCast, toNat_sub1]; (repeat' first | assumption | omega | exact fits_of (by omega) (by omega) | apply And.intro)) (by decide) (qn _) (by decide) (by simp) hgl
        · have hal : ¬ fr i = fr (i - 1) := hal.resolve_left (by omega)
          exact SimC.run (B' := [PB s l0 l1 n (lnF fr tk)]) g2_ok (by decide) (s7o_go3 s l0 l1 n fr tk (sumT tk i : Nat) i) (by simp only [allC_cons, allC_nil, and_true, decide_eq_true_eq, decide_eq_false_iff_not, Bool.not_eq_true', Bool.not_eq_false', Int.toNat_natCast, toNat_sub1]; (repeat' first | assumption | omega | exact fits_of (by omega) (by omega) | apply And.intro)) (by decide) (qn _) (by decide) (by simp) hgl
      · exact SimC.weaken (SimC.run (B' := []) g2_ok (by decide) (s7o_end s l0 l1 n fr tk (sumT tk n : Nat) n) (by simp only [allC_cons, allC_nil, and_true, decide_eq_true_eq, decide_eq_false_iff_not, Bool.not_eq_true', Bool.not_eq_false', Int.toNat_natCast, toNat_sub1]; (repeat' first | assumption | omega | exact fits_of (by omega) (by omega) | apply And.intro)) (by decide) (qn _) (by decide) (by simp) hgl) (fun t => .inr (by simp [mkT, tget, Tr.get_lf]))
  · simp at hG
noncomputable def s7or : LoopF := fun vals B => match vals, B with
  | [.ptr 0 0, .int .i64 0, .int .i64 0], [.cells [.raw (.string s), .roi .i64 l0, .roi .i64 l1, .ro 2 n f]] => some ([(2, .bool false)], [], pC l0 l1 n f ++ [allB (lineOk (frO f) (tkO f)) n = false])
  | _, _ => none
theorem s7o_r : LoopGood g2 95 (.loop s7O) s7o 0 (.ret) (mkLoopN s7or) := by
  refine LoopGood.mkN (by decide) fun vals B S' B' C hG hC hlen w0 O hgl => ?_
  clear hlen
  unfold s7or at hG
  split at hG
  · rename_i s l0 l1 n f
    simp only [Option.some.injEq, Prod.mk.injEq] at hG
    obtain ⟨rfl, rfl, rfl⟩ := hG
    simp only [pC, allC_append, allC_cons, allC_nil, and_true] at hC
    obtain ⟨⟨hf, Fn, Fl0, Fl1, hT⟩, ho⟩ := hC
    generalize frO f = fr at *
    generalize tkO f = tk at *
    subst hf
    have Fn' := fits_int Fn
    have hL := s7i_e
    have hLr := s7i_r
    obtain ⟨j, hj, hb, ho⟩ := allB_first ho
    · refine SimC.iter (g := g2) (e := .ret) (S := fun i => s7o.zip (s7V (sumT tk i : Nat) (i : Int))) (B := fun _ => [PB s l0 l1 n (lnF fr tk)]) (N := j) (fun i hi => ?_) ?_ (by simp) 0 (by omega)
      · obtain ⟨hfr, hal, hne, hs, htk⟩ := lineOk_iff.1 (ho i (by omega))
        have Fl : Fits .i64 ((tk i).length : Int) := fits_of (by omega) (by omega)
        rcases hfr with hfr | hfr <;> rcases Nat.eq_zero_or_pos i with hi0 | hi0
        · exact SimC.run (B' := [PB s l0 l1 n (lnF fr tk)]) g2_ok (by decide) (s7o_go0 s l0 l1 n fr tk (sumT tk i : Nat) i) (by simp only [allC_cons, allC_nil, and_true, decide_eq_true_eq, decide_eq_false_iff_not, Bool.not_eq_true', Bool.not_eq_false', Int.toNat_natCast, toNat_sub1]; (repeat' first | assumption | omega | exact fits_of (by omega) (by omega) | apply And.intro)) (by decide) (qn _) (by decide) (by simp) hgl
        · have hal : ¬ fr i = fr (i - 1) := hal.resolve_left (by omega)
          exact SimC.run (B' := [PB s l0 l1 n (lnF fr tk)]) g2_ok (by decide) (s7o_go1 s l0 l1 n fr tk (sumT tk i : Nat) i) (by simp only [allC_cons, allC_nil, and_true, decide_eq_true_eq, decide_eq_false_iff_not, Bool.not_eq_true', Bool.not_eq_false', Int.toNat_natCast, toNat_sub1]; (repeat' first | assumption | omega | exact fits_of (by omega) (by omega) | apply And.intro)) (by decide) (qn _) (by decide) (by simp) hgl
        · exact SimC.run (B' := [PB s l0 l1 n (lnF fr tk)]) g2_ok (by decide) (s7o_go2 s l0 l1 n fr tk (sumT tk i : Nat) i) (by simp only [allC_cons, allC_nil, and_true, decide_eq_true_eq, decide_eq_false_iff_not, Bool.not_eq_true', Bool.not_eq_false', Int.toNat_natCast, toNat_sub1]; (repeat' first | assumption | omega | exact fits_of (by omega) (by omega) | apply And.intro)) (by decide) (qn _) (by decide) (by simp) hgl
        · have hal : ¬ fr i = fr (i - 1) := hal.resolve_left (by omega)
          exact SimC.run (B' := [PB s l0 l1 n (lnF fr tk)]) g2_ok (by decide) (s7o_go3 s l0 l1 n fr tk (sumT tk i : Nat) i) (by simp only [allC_cons, allC_nil, and_true, decide_eq_true_eq, decide_eq_false_iff_not, Bool.not_eq_true', Bool.not_eq_false', Int.toNat_natCast, toNat_sub1]; (repeat' first | assumption | omega | exact fits_of (by omega) (by omega) | apply And.intro)) (by decide) (qn _) (by decide) (by simp) hgl
      · have hT := hT j hj
        have Fl : Fits .i64 ((tk j).length : Int) := fits_of (by omega) (by omega)
        have hs0 : sumT tk j ≤ 24 := by
          match j, ho with
          | 0, _ => exact Nat.zero_le _
          | j + 1, ho => exact (lineOk_iff.1 (ho j (by omega))).2.2.2.1
        by_cases hfr : fr j = 0 ∨ fr j = 1
        · by_cases hal : j = 0 ∨ ¬ fr j = fr (j - 1)
          · by_cases hne : (tk j).length = 0
            · rcases hfr with hfr | hfr <;> rcases Nat.eq_zero_or_pos j with hi0 | hi0
              · exact SimC.weaken (SimC.run (B' := []) g2_ok (by decide) (s7o_len0 s l0 l1 n fr tk (sumT tk j : Nat) j) (by simp only [allC_cons, allC_nil, and_true, decide_eq_true_eq, decide_eq_false_iff_not, Bool.not_eq_true', Bool.not_eq_false', Int.toNat_natCast, toNat_sub1]; (repeat' first | assumption | omega | exact fits_of (by omega) (by omega) | apply And.intro)) (by decide) (qn _) (by decide) (by simp) hgl) (sub_mkT (by simp; exact rfl))
              · have hal : ¬ fr j = fr (j - 1) := hal.resolve_left (by omega)
                exact SimC.weaken (SimC.run (B' := []) g2_ok (by decide) (s7o_len1 s l0 l1 n fr tk (sumT tk j : Nat) j) (by simp only [allC_cons, allC_nil, and_true, decide_eq_true_eq, decide_eq_false_iff_not, Bool.not_eq_true', Bool.not_eq_false', Int.toNat_natCast, toNat_sub1]; (repeat' first | assumption | omega | exact fits_of (by omega) (by omega) | apply And.intro)) (by decide) (qn _) (by decide) (by simp) hgl) (sub_mkT (by simp; exact rfl))
              · exact SimC.weaken (SimC.run (B' := []) g2_ok (by decide) (s7o_len2 s l0 l1 n fr tk (sumT tk j : Nat) j) (by simp only [allC_cons, allC_nil, and_true, decide_eq_true_eq, decide_eq_false_iff_not, Bool.not_eq_true', Bool.not_eq_false', Int.toNat_natCast, toNat_sub1]; (repeat' first | assumption | omega | exact fits_of (by omega) (by omega) | apply And.intro)) (by decide) (qn _) (by decide) (by simp) hgl) (sub_mkT (by simp; exact rfl))
              · have hal : ¬ fr j = fr (j - 1) := hal.resolve_left (by omega)
                exact SimC.weaken (SimC.run (B' := []) g2_ok (by decide) (s7o_len3 s l0 l1 n fr tk (sumT tk j : Nat) j) (by simp only [allC_cons, allC_nil, and_true, decide_eq_true_eq, decide_eq_false_iff_not, Bool.not_eq_true', Bool.not_eq_false', Int.toNat_natCast, toNat_sub1]; (repeat' first | assumption | omega | exact fits_of (by omega) (by omega) | apply And.intro)) (by decide) (qn _) (by decide) (by simp) hgl) (sub_mkT (by simp; exact rfl))
            · by_cases hs : sumT tk j + (tk j).length ≤ 24
              · have htk : tksB (tk j) = false := by
                  cases h : tksB (tk j) with
                  | false => rfl
                  | true => exact absurd (lineOk_iff.2 ⟨hfr, hal, hne, hs, h⟩) (by simp [hb])
                rcases hfr with hfr | hfr <;> rcases Nat.eq_zero_or_pos j with hi0 | hi0
                · exact SimC.weaken (SimC.run (B' := []) g2_ok (by decide) (s7o_tok0 s l0 l1 n fr tk (sumT tk j : Nat) j) (by simp only [allC_cons, allC_nil, and_true, decide_eq_true_eq, decide_eq_false_iff_not, Bool.not_eq_true', Bool.not_eq_false', Int.toNat_natCast, toNat_sub1]; (repeat' first | assumption | omega | exact fits_of (by omega) (by omega) | apply And.intro)) (by decide) (qn _) (by decide) (by simp) hgl) (sub_mkT (by simp; exact rfl))
                · have hal : ¬ fr j = fr (j - 1) := hal.resolve_left (by omega)
                  exact SimC.weaken (SimC.run (B' := []) g2_ok (by decide) (s7o_tok1 s l0 l1 n fr tk (sumT tk j : Nat) j) (by simp only [allC_cons, allC_nil, and_true, decide_eq_true_eq, decide_eq_false_iff_not, Bool.not_eq_true', Bool.not_eq_false', Int.toNat_natCast, toNat_sub1]; (repeat' first | assumption | omega | exact fits_of (by omega) (by omega) | apply And.intro)) (by decide) (qn _) (by decide) (by simp) hgl) (sub_mkT (by simp; exact rfl))
                · exact SimC.weaken (SimC.run (B' := []) g2_ok (by decide) (s7o_tok2 s l0 l1 n fr tk (sumT tk j : Nat) j) (by simp only [allC_cons, allC_nil, and_true, decide_eq_true_eq, decide_eq_false_iff_not, Bool.not_eq_true', Bool.not_eq_false', Int.toNat_natCast, toNat_sub1]; (repeat' first | assumption | omega | exact fits_of (by omega) (by omega) | apply And.intro)) (by decide) (qn _) (by decide) (by simp) hgl) (sub_mkT (by simp; exact rfl))
                · have hal : ¬ fr j = fr (j - 1) := hal.resolve_left (by omega)
                  exact SimC.weaken (SimC.run (B' := []) g2_ok (by decide) (s7o_tok3 s l0 l1 n fr tk (sumT tk j : Nat) j) (by simp only [allC_cons, allC_nil, and_true, decide_eq_true_eq, decide_eq_false_iff_not, Bool.not_eq_true', Bool.not_eq_false', Int.toNat_natCast, toNat_sub1]; (repeat' first | assumption | omega | exact fits_of (by omega) (by omega) | apply And.intro)) (by decide) (qn _) (by decide) (by simp) hgl) (sub_mkT (by simp; exact rfl))
              · rcases hfr with hfr | hfr <;> rcases Nat.eq_zero_or_pos j with hi0 | hi0
                · exact SimC.weaken (SimC.run (B' := []) g2_ok (by decide) (s7o_sum0 s l0 l1 n fr tk (sumT tk j : Nat) j) (by simp only [allC_cons, allC_nil, and_true, decide_eq_true_eq, decide_eq_false_iff_not, Bool.not_eq_true', Bool.not_eq_false', Int.toNat_natCast, toNat_sub1]; (repeat' first | assumption | omega | exact fits_of (by omega) (by omega) | apply And.intro)) (by decide) (qn _) (by decide) (by simp) hgl) (sub_mkT (by simp; exact rfl))
                · have hal : ¬ fr j = fr (j - 1) := hal.resolve_left (by omega)
                  exact SimC.weaken (SimC.run (B' := []) g2_ok (by decide) (s7o_sum1 s l0 l1 n fr tk (sumT tk j : Nat) j) (by simp only [allC_cons, allC_nil, and_true, decide_eq_true_eq, decide_eq_false_iff_not, Bool.not_eq_true', Bool.not_eq_false', Int.toNat_natCast, toNat_sub1]; (repeat' first | assumption | omega | exact fits_of (by omega) (by omega) | apply And.intro)) (by decide) (qn _) (by decide) (by simp) hgl) (sub_mkT (by simp; exact rfl))
                · exact SimC.weaken (SimC.run (B' := []) g2_ok (by decide) (s7o_sum2 s l0 l1 n fr tk (sumT tk j : Nat) j) (by simp only [allC_cons, allC_nil, and_true, decide_eq_true_eq, decide_eq_false_iff_not, Bool.not_eq_true', Bool.not_eq_false', Int.toNat_natCast, toNat_sub1]; (repeat' first | assumption | omega | exact fits_of (by omega) (by omega) | apply And.intro)) (by decide) (qn _) (by decide) (by simp) hgl) (sub_mkT (by simp; exact rfl))
                · have hal : ¬ fr j = fr (j - 1) := hal.resolve_left (by omega)
                  exact SimC.weaken (SimC.run (B' := []) g2_ok (by decide) (s7o_sum3 s l0 l1 n fr tk (sumT tk j : Nat) j) (by simp only [allC_cons, allC_nil, and_true, decide_eq_true_eq, decide_eq_false_iff_not, Bool.not_eq_true', Bool.not_eq_false', Int.toNat_natCast, toNat_sub1]; (repeat' first | assumption | omega | exact fits_of (by omega) (by omega) | apply And.intro)) (by decide) (qn _) (by decide) (by simp) hgl) (sub_mkT (by simp; exact rfl))
          · have hi0 : 0 < j := by omega
            have hal : fr j = fr (j - 1) := by omega
            rcases hfr with hfr | hfr
            · exact SimC.weaken (SimC.run (B' := []) g2_ok (by decide) (s7o_eq1 s l0 l1 n fr tk (sumT tk j : Nat) j) (by simp only [allC_cons, allC_nil, and_true, decide_eq_true_eq, decide_eq_false_iff_not, Bool.not_eq_true', Bool.not_eq_false', Int.toNat_natCast, toNat_sub1]; (repeat' first | assumption | omega | exact fits_of (by omega) (by omega) | apply And.intro)) (by decide) (qn _) (by decide) (by simp) hgl) (sub_mkT (by simp; exact rfl))
            · exact SimC.weaken (SimC.run (B' := []) g2_ok (by decide) (s7o_eq3 s l0 l1 n fr tk (sumT tk j : Nat) j) (by simp only [allC_cons, allC_nil, and_true, decide_eq_true_eq, decide_eq_false_iff_not, Bool.not_eq_true', Bool.not_eq_false', Int.toNat_natCast, toNat_sub1]; (repeat' first | assumption | omega | exact fits_of (by omega) (by omega) | apply And.intro)) (by decide) (qn _) (by decide) (by simp) hgl) (sub_mkT (by simp; exact rfl))
        · exact SimC.weaken (SimC.run (B' := []) g2_ok (by decide) (s7o_from s l0 l1 n fr tk (sumT tk j : Nat) j) (by simp only [allC_cons, allC_nil, and_true, decide_eq_true_eq, decide_eq_false_iff_not, Bool.not_eq_true', Bool.not_eq_false', Int.toNat_natCast, toNat_sub1]; (repeat' first | assumption | omega | exact fits_of (by omega) (by omega) | apply And.intro)) (by decide) (qn _) (by decide) (by simp) hgl) (sub_mkT (by simp; exact rfl))
  · simp at hG
theorem sh_a (s : ByteArray) (l0 l1 : List Int) (n : Nat) (fr : Nat → Int) (tk : Nat → List Int) : runF g2 900 [.br true] 7 [PA s l0 l1 n (lnF fr tk)] [] [] =
    some (SV.bool false, [], [(!aheadR l0) = true, Fits IntKind.i64 (↑l0.length : Int)]) := by kernel_rfl
theorem sh_b (s : ByteArray) (l0 l1 : List Int) (n : Nat) (fr : Nat → Int) (tk : Nat → List Int) : runF g2 900 [.br false, .br true] 7 [PA s l0 l1 n (lnF fr tk)] [] [] =
    some (SV.bool false, [], [(!aheadR l1) = true, Fits IntKind.i64 (↑l1.length : Int), (!aheadR l0) = false, Fits IntKind.i64 (↑l0.length : Int)]) := by kernel_rfl
theorem sh_c (s : ByteArray) (l0 l1 : List Int) (n : Nat) (fr : Nat → Int) (tk : Nat → List Int) : runF g2 900 [.br false, .br false, .br true] 7 [PA s l0 l1 n (lnF fr tk)] [] [] =
    some (SV.bool false, [], [Fits IntKind.i64 (↑n : Int), (!aheadR l1) = false, Fits IntKind.i64 (↑l1.length : Int), (!aheadR l0) = false, Fits IntKind.i64 (↑l0.length : Int), decide ((↑n : Int) = (0 : Int)) = true]) := by kernel_rfl
theorem sh_ok (s : ByteArray) (l0 l1 : List Int) (n : Nat) (fr : Nat → Int) (tk : Nat → List Int) : runF g2 900 [.br false, .br false, .br false, .loop 5 s7o 0 (.exit 0) (mkLoopN s7oe)] 7 [PA s l0 l1 n (lnF fr tk)] [] [] =
    some (SV.bool true, [], [Fits IntKind.i64 (↑n : Int), (!aheadR l1) = false, Fits IntKind.i64 (↑l1.length : Int), (!aheadR l0) = false, Fits IntKind.i64 (↑l0.length : Int), decide ((↑n : Int) = (0 : Int)) = false, LoopGood g2 95 (.loop s7O) s7o 0 (.exit 0) (mkLoopN s7oe), lnF fr tk = lnF (frO (lnF fr tk)) (tkO (lnF fr tk)), Fits IntKind.i64 (↑n : Int), Fits IntKind.i64 (↑l0.length : Int), Fits IntKind.i64 (↑l1.length : Int), ∀ (i : Nat), i < n → (tkO (lnF fr tk) i).length ≤ (140737488351232 : Nat), allB (lineOk (frO (lnF fr tk)) (tkO (lnF fr tk))) n = true]) := by kernel_rfl
theorem sh_bad (s : ByteArray) (l0 l1 : List Int) (n : Nat) (fr : Nat → Int) (tk : Nat → List Int) : runF g2 900 [.br false, .br false, .br false, .loop 5 s7o 0 .ret (mkLoopN s7or)] 7 [PA s l0 l1 n (lnF fr tk)] [] [] =
    some (SV.bool false, [], [Fits IntKind.i64 (↑n : Int), (!aheadR l1) = false, Fits IntKind.i64 (↑l1.length : Int), (!aheadR l0) = false, Fits IntKind.i64 (↑l0.length : Int), decide ((↑n : Int) = (0 : Int)) = false, LoopGood g2 95 (.loop s7O) s7o 0 .ret (mkLoopN s7or), lnF fr tk = lnF (frO (lnF fr tk)) (tkO (lnF fr tk)), Fits IntKind.i64 (↑n : Int), Fits IntKind.i64 (↑l0.length : Int), Fits IntKind.i64 (↑l1.length : Int), ∀ (i : Nat), i < n → (tkO (lnF fr tk) i).length ≤ (140737488351232 : Nat), allB (lineOk (frO (lnF fr tk)) (tkO (lnF fr tk))) n = false]) := by kernel_rfl

def F7 : SumF := fun args B => match args, B with
  | [.agg [.raw (.string s), .roi .i64 l0, .roi .i64 l1, .ro 2 n f]], [] => some { val := .sbool (shapedR l0 l1 n (frO f) (tkO f)), C := pC l0 l1 n f }
  | _, _ => none
theorem acc7 : Acc g2 7 F7 := by
  intro args B out h hC
  unfold F7 at h
  split at h
  · rename_i s l0 l1 n f
    simp only [Option.some.injEq] at h; subst h
    simp only [pC, allC_cons, allC_nil, and_true] at hC
    obtain ⟨hf, Fn, Fl0, Fl1, hT⟩ := hC
    generalize frO f = fr at *
    generalize tkO f = tk at *
    subst hf
    have Fn' := fits_int Fn
    have hL := s7o_e
    have hLr := s7o_r
    cases h0 : aheadR l0 with
    | false => exact FnOk.toSb (b := false) (FnOk.pure g2_ok (sh_a s l0 l1 n fr tk) (by simp only [allC_cons, allC_nil, and_true, frO_ln, tkO_ln, Bool.not_eq_true', Bool.not_eq_false', decide_eq_true_eq, decide_eq_false_iff_not]; (repeat' first | trivial | assumption | rfl | omega | apply And.intro))) (by simp [shapedR, h0])
    | true =>
      cases h1 : aheadR l1 with
      | false => exact FnOk.toSb (b := false) (FnOk.pure g2_ok (sh_b s l0 l1 n fr tk) (by simp only [allC_cons, allC_nil, and_true, frO_ln, tkO_ln, Bool.not_eq_true', Bool.not_eq_false', decide_eq_true_eq, decide_eq_false_iff_not]; (repeat' first | trivial | assumption | rfl | omega | apply And.intro))) (by simp [shapedR, h0, h1])
      | true =>
        by_cases hn : n = 0
        · exact FnOk.toSb (b := false) (FnOk.pure g2_ok (sh_c s l0 l1 n fr tk) (by simp only [allC_cons, allC_nil, and_true, frO_ln, tkO_ln, Bool.not_eq_true', Bool.not_eq_false', decide_eq_true_eq, decide_eq_false_iff_not]; (repeat' first | trivial | assumption | rfl | omega | apply And.intro))) (by simp [shapedR, h0, h1, hn])
        · cases ha : allB (lineOk fr tk) n with
          | true => exact FnOk.toSb (b := true) (FnOk.pure g2_ok (sh_ok s l0 l1 n fr tk) (by simp only [allC_cons, allC_nil, and_true, frO_ln, tkO_ln, Bool.not_eq_true', Bool.not_eq_false', decide_eq_true_eq, decide_eq_false_iff_not]; (repeat' first | trivial | assumption | rfl | omega | apply And.intro))) (by simp [shapedR, h0, h1, hn, ha])
          | false => exact FnOk.toSb (b := false) (FnOk.pure g2_ok (sh_bad s l0 l1 n fr tk) (by simp only [allC_cons, allC_nil, and_true, frO_ln, tkO_ln, Bool.not_eq_true', Bool.not_eq_false', decide_eq_true_eq, decide_eq_false_iff_not]; (repeat' first | trivial | assumption | rfl | omega | apply And.intro))) (by simp [shapedR, h0, h1, hn, ha])
  · simp at h
noncomputable abbrev g3 : Ctx := g2.add [(7, F7)]
theorem g3_ok : CtxU g3 := g2_ok.add mixed noGo (by
  intro x hx
  simp only [List.mem_cons, List.not_mem_nil, or_false] at hx
  rcases hx with rfl
  exact acc7)
end Go.Proofs.Tryd
