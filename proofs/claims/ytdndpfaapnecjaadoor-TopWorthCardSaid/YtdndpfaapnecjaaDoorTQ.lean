/- Accounts of this seat's functions: lemmas, no statement of their own. No conditions. -/
import Derived.Test.YtdndpfaapnecjaaDoorTN
namespace Go.Proofs.Tryd
open Go Go.Vx
/-! ### Levels, of a pattern that the document lets pass: F6 -/

abbrev K3 : List IntKind := [.i64, .i64, .i64]
/-- what is done behind k tokens; ahead of a line; the greatest Source of each side; the grades -/
def dL (d : Int) (l : List Int) : Nat → Int
  | 0 => d
  | k + 1 => uor (dL d l k) (flagN (l.getD k 0))
def dP (tk : Nat → List Int) : Nat → Int
  | 0 => 0
  | i + 1 => dL (dP tk i) (tk i) (tk i).length
def aP (fr : Nat → Int) (tk : Nat → List Int) : Nat → Int
  | 0 => 0
  | i + 1 => shA (dP tk (i + 1)) (aP fr tk i) (fr i)
def bP (fr : Nat → Int) (tk : Nat → List Int) : Nat → Int
  | 0 => 0
  | i + 1 => shB (dP tk (i + 1)) (bP fr tk i) (fr i)
def RW (fr : Nat → Int) (tk : Nat → List Int) : Nat → List (List Int)
  | 0 => []
  | i + 1 => RW fr tk i ++ [rowG (dP tk (i + 1)) (aP fr tk i) (bP fr tk i) (fr i)]
theorem RW_len (fr : Nat → Int) (tk : Nat → List Int) : ∀ i, (RW fr tk i).length = i
  | 0 => rfl
  | i + 1 => by simp [RW, RW_len fr tk i]
/-- the sides behind the handshake -/
def lq (one : Bool) (last : Int) : Nat → Int
  | 0 => last
  | j + 1 => if one = true then lq one last j else 1 - lq one last j
def aQ (d a : Int) (one : Bool) (last : Int) : Nat → Int
  | 0 => a
  | j + 1 => shA d (aQ d a one last j) (lq one last (j + 1))
def bQ (d b : Int) (one : Bool) (last : Int) : Nat → Int
  | 0 => b
  | j + 1 => shB d (bQ d b one last j) (lq one last (j + 1))
def RQ (R : List (List Int)) (d a b : Int) (one : Bool) (last : Int) : Nat → List (List Int)
  | 0 => R
  | j + 1 => RQ R d a b one last j ++ [rowG d (aQ d a one last j) (bQ d b one last j) (lq one last (j + 1))]
theorem RQ_len (R : List (List Int)) (d a b : Int) (one : Bool) (last : Int) : ∀ j, (RQ R d a b one last j).length = R.length + j
  | 0 => rfl
  | j + 1 => by simp [RQ, RQ_len R d a b one last j]; omega

abbrev l6i : List Nat := [1, 2, 7, 8, 10, 31, 32, 33, 38, 39, 40]
noncomputable abbrev l6I : Code := bodyAt Tryd.prog 6 12
abbrev l6J (more : Int) (n : Nat) (f : Nat → SV) (l : List Int) (i k : Int) : List SV := [.int .i64 more, .ptr 0 0, .ptr 1 0, .own 2, .ptr 3 0, .ro 2 n f, .int .i64 n, .int .i64 i, .roi .i64 l, .int .i64 l.length, .int .i64 k]
theorem l6i_go (s : ByteArray) (l0 l1 : List Int) (n n' : Nat) (f f' : Nat → SV) (more d a b : Int) (R : List (List Int)) (v : Int) (l l' : List Int) (i k : Int) : runC g9 600 92 [.br true] l6I (l6i.zip (l6J more n f l i k)) [PB s l0 l1 n' f', TB d a b, .rows K3 R, LnB v l'] l6i [0, 1, 2, 3] =
    some (Ex.normal, [SV.int IntKind.i64 more, SV.ptr (0 : Nat) (0 : Nat), SV.ptr (1 : Nat) (0 : Nat), SV.own (2 : Nat), SV.ptr (3 : Nat) (0 : Nat), SV.ro (2 : Nat) n f, SV.int IntKind.i64 (↑n : Int), SV.int IntKind.i64 i, SV.roi IntKind.i64 l, SV.int IntKind.i64 (↑l.length : Int), SV.int IntKind.i64 (k + (1 : Int))], [some (Body.cells [SV.raw (Value.string s), SV.roi IntKind.i64 l0, SV.roi IntKind.i64 l1, SV.ro (2 : Nat) n' f']), some (Body.cells [SV.int IntKind.u64 (uor d (flagN (l.getD k.toNat (0 : Int)))), SV.int IntKind.i64 a, SV.int IntKind.i64 b]), some (Body.rows [IntKind.i64, IntKind.i64, IntKind.i64] R), some (Body.cells [SV.int IntKind.i64 v, SV.roi IntKind.i64 l'])], [decide (k < (↑l.length : Int)) = true, (0 : Int) ≤ k ∧ k < (↑l.length : Int), (1 : Int) ≤ l.getD k.toNat (0 : Int) ∧ l.getD k.toNat (0 : Int) ≤ (7 : Int), Fits IntKind.i64 (k + (1 : Int))]) := by kernel_rfl
theorem l6i_end (s : ByteArray) (l0 l1 : List Int) (n n' : Nat) (f f' : Nat → SV) (more d a b : Int) (R : List (List Int)) (v : Int) (l l' : List Int) (i k : Int) : runC g9 600 92 [.br false] l6I (l6i.zip (l6J more n f l i k)) [PB s l0 l1 n' f', TB d a b, .rows K3 R, LnB v l'] [1, 2, 7, 8, 10, 31, 32, 33] [0, 1, 2, 3] =
    some (Ex.exit (2 : Nat), [SV.int IntKind.i64 more, SV.ptr (0 : Nat) (0 : Nat), SV.ptr (1 : Nat) (0 : Nat), SV.own (2 : Nat), SV.ptr (3 : Nat) (0 : Nat), SV.ro (2 : Nat) n f, SV.int IntKind.i64 (↑n : Int), SV.int IntKind.i64 i], [some (Body.cells [SV.raw (Value.string s), SV.roi IntKind.i64 l0, SV.roi IntKind.i64 l1, SV.ro (2 : Nat) n' f']), some (Body.cells [SV.int IntKind.u64 d, SV.int IntKind.i64 a, SV.int IntKind.i64 b]), some (Body.rows [IntKind.i64, IntKind.i64, IntKind.i64] R), some (Body.cells [SV.int IntKind.i64 v, SV.roi IntKind.i64 l'])], [decide (k < (↑l.length : Int)) = false]) := by kernel_rfl
noncomputable def l6ie : LoopF := fun vals B => match vals, B with
  | [.int .i64 more, .ptr 0 0, .ptr 1 0, .own 2, .ptr 3 0, .ro 2 n f, .int .i64 N, .int .i64 i, .roi .i64 l, .int .i64 m, .int .i64 0], [.cells [.raw (.string s), .roi .i64 l0, .roi .i64 l1, .ro 2 n' f'], .cells [.int .u64 d, .int .i64 a, .int .i64 b], .rows K R, .cells [.int .i64 v, .roi .i64 l']] =>
    some ([(1, .int .i64 more), (2, .ptr 0 0), (7, .ptr 1 0), (8, .own 2), (10, .ptr 3 0), (31, .ro 2 n f), (32, .int .i64 N), (33, .int .i64 i)], [PB s l0 l1 n' f', TB (dL d l l.length) a b, .rows K3 R, LnB v l'], [K = K3, N = n, m = l.length, Fits .i64 (l.length : Int), tksB l = true])
  | _, _ => none
theorem q0123 : ∀ j : Nat, j < 4 → ([0, 1, 2, 3] : List Nat)[j]? = some j := fun j hj => by
  match j, hj with
  | 0, _ => rfl
  | 1, _ => rfl
  | 2, _ => rfl
  | 3, _ => rfl
theorem l6i_e : LoopGood g9 92 (.loop l6I) l6i 4 (.exit 2) (mkLoopN l6ie) := by
  refine LoopGood.mkN (by decide) fun vals B S' B' C hG hC hlen w0 O hgl => ?_
  clear hlen
  unfold l6ie at hG
  split at hG
  · rename_i more n f N i l m s l0 l1 n' f' d a b K R v l'
    simp only [Option.some.injEq, Prod.mk.injEq] at hG
    obtain ⟨rfl, rfl, rfl⟩ := hG
    simp only [allC_cons, allC_nil, and_true] at hC
    obtain ⟨rfl, rfl, rfl, F, ht⟩ := hC
    have F' := fits_int F
    unfold tksB at ht
    have ht := allB_iff.1 ht
    · refine SimC.iter (g := g9) (e := .exit 2) (S := fun k => l6i.zip (l6J more n f l i (k : Int))) (B := fun k => [PB s l0 l1 n' f', TB (dL d l k) a b, .rows K3 R, LnB v l']) (N := l.length) (fun k hkl => ?_) ?_ (by simp) 0 (by omega)
      · have ht := tkB_iff.1 (ht k (by omega))
        exact SimC.run (B' := [PB s l0 l1 n' f', TB (dL d l (k + 1)) a b, .rows K3 R, LnB v l']) g9_ok (by decide) (l6i_go s l0 l1 n n' f f' more (dL d l k) a b R v l l' i (k : Int)) (by simp only [allC_append, allC_cons, allC_nil, and_true, frO_ln, tkO_ln, decide_eq_true_eq, decide_eq_false_iff_not, Bool.not_eq_true', Bool.not_eq_false', Int.toNat_natCast, toNat_sub1]; (repeat' first | trivial | assumption | omega | exact fits_of (by omega) (by omega) | rfl | apply And.intro)) (by decide) q0123 (by decide) (by simp) hgl
      · exact SimC.weaken (SimC.run (B' := [PB s l0 l1 n' f', TB (dL d l l.length) a b, .rows K3 R, LnB v l']) g9_ok (by decide) (l6i_end s l0 l1 n n' f f' more (dL d l l.length) a b R v l l' i (l.length : Int)) (by simp only [allC_append, allC_cons, allC_nil, and_true, frO_ln, tkO_ln, decide_eq_true_eq, decide_eq_false_iff_not, Bool.not_eq_true', Bool.not_eq_false', Int.toNat_natCast, toNat_sub1]; (repeat' first | trivial | assumption | omega | exact fits_of (by omega) (by omega) | rfl | apply And.intro)) (by decide) q0123 (by decide) (by simp) hgl) (sub_mkT (by simp; exact ⟨rfl, rfl, rfl, rfl, rfl, rfl, rfl, rfl⟩))
  · simp at hG
abbrev l6o : List Nat := [1, 2, 7, 8, 31, 32, 33]
noncomputable abbrev l6O : Code := bodyAt Tryd.prog 6 9
abbrev l6V (more : Int) (n : Nat) (f : Nat → SV) (i : Int) : List SV := [.int .i64 more, .ptr 0 0, .ptr 1 0, .own 2, .ro 2 n f, .int .i64 n, .int .i64 i]
theorem l6o_go (s : ByteArray) (l0 l1 : List Int) (n n' : Nat) (fr : Nat → Int) (tk : Nat → List Int) (f' : Nat → SV) (more d a b : Int) (R : List (List Int)) (i : Nat) : runC g9 900 92 [.br true, .loop 12 l6i 4 (.exit 2) (mkLoopN l6ie)] l6O (l6o.zip (l6V more n (lnF fr tk) (i : Int))) [PB s l0 l1 n' f', TB d a b, .rows K3 R] l6o [0, 1, 5] =
    some (Ex.normal, [SV.int IntKind.i64 more, SV.ptr (0 : Nat) (0 : Nat), SV.ptr (1 : Nat) (0 : Nat), SV.own (2 : Nat), SV.ro (2 : Nat) n (lnF fr tk), SV.int IntKind.i64 (↑n : Int), SV.int IntKind.i64 ((↑i : Int) + (1 : Int))], [some (Body.cells [SV.raw (Value.string s), SV.roi IntKind.i64 l0, SV.roi IntKind.i64 l1, SV.ro (2 : Nat) n' f']), some (Body.cells [SV.int IntKind.u64 (dL d (tk i) (tk i).length), SV.int IntKind.i64 (shA (dL d (tk i) (tk i).length) a (fr i)), SV.int IntKind.i64 (shB (dL d (tk i) (tk i).length) b (fr i))]), some (Body.rows [IntKind.i64, IntKind.i64, IntKind.i64] (R ++ [[fr i, srcG (dL d (tk i) (tk i).length) (fr i), dstG (dL d (tk i) (tk i).length) (fr i) (rvG a b (fr i))]]))], [decide ((↑i : Int) < (↑n : Int)) = true, (0 : Int) ≤ (↑i : Int) ∧ (↑i : Int) < (↑n : Int), Fits IntKind.i64 (↑(tk i).length : Int), LoopGood g9 92 (.loop l6I) l6i 4 (.exit 2) (mkLoopN l6ie), [IntKind.i64, IntKind.i64, IntKind.i64] = [IntKind.i64, IntKind.i64, IntKind.i64], (↑n : Int) = (↑n : Int), (↑(tk i).length : Int) = (↑(tk i).length : Int), Fits IntKind.i64 (↑(tk i).length : Int), tksB (tk i) = true, (R ++ [[fr i, srcG (dL d (tk i) (tk i).length) (fr i), dstG (dL d (tk i) (tk i).length) (fr i) (rvG a b (fr i))]]).length * (24 : Nat) ≤ (140737488355328 : Nat), fr (↑i : Int).toNat = (0 : Int) ∨ fr (↑i : Int).toNat = (1 : Int), (0 : Int) ≤ dL d (tk (↑i : Int).toNat) (tk (↑i : Int).toNat).length ∧ dL d (tk (↑i : Int).toNat) (tk (↑i : Int).toNat).length < (16 : Int), (0 : Int) ≤ a ∧ a < (3 : Int), (0 : Int) ≤ b ∧ b < (3 : Int), Fits IntKind.i64 ((↑i : Int) + (1 : Int))]) := by kernel_rfl
theorem l6o_end (s : ByteArray) (l0 l1 : List Int) (n n' : Nat) (fr : Nat → Int) (tk : Nat → List Int) (f' : Nat → SV) (more d a b : Int) (R : List (List Int)) (i : Nat) : runC g9 900 92 [.br false] l6O (l6o.zip (l6V more n (lnF fr tk) (i : Int))) [PB s l0 l1 n' f', TB d a b, .rows K3 R] [1, 2, 7, 8] [0, 1, 2] =
    some (Ex.exit (0 : Nat), [SV.int IntKind.i64 more, SV.ptr (0 : Nat) (0 : Nat), SV.ptr (1 : Nat) (0 : Nat), SV.own (2 : Nat)], [some (Body.cells [SV.raw (Value.string s), SV.roi IntKind.i64 l0, SV.roi IntKind.i64 l1, SV.ro (2 : Nat) n' f']), some (Body.cells [SV.int IntKind.u64 d, SV.int IntKind.i64 a, SV.int IntKind.i64 b]), some (Body.rows [IntKind.i64, IntKind.i64, IntKind.i64] R)], [decide ((↑i : Int) < (↑n : Int)) = false]) := by kernel_rfl
abbrev l6m : List Nat := [7, 8, 15, 80, 81]
noncomputable abbrev l6M : Code := bodyAt Tryd.prog 6 22
abbrev l6W (more j : Int) : List SV := [.ptr 0 0, .own 1, .func 15 [] [.ptr 2 0, .ptr 3 0], .int .i64 more, .int .i64 j]
abbrev l6Y (d a b : Int) (R : List (List Int)) (one : Bool) (last : Int) : List Body := [TB d a b, .rows K3 R, .cells [.sbool one], .cells [.int .i64 last]]
theorem l6m_one (more d a b : Int) (R : List (List Int)) (one : Bool) (last j : Int) : runC g9 900 92 [.br true, .br false] l6M (l6m.zip (l6W more j)) (l6Y d a b R one last) l6m [0, 5, 2, 3] =
    some (Ex.normal, [SV.ptr (0 : Nat) (0 : Nat), SV.own (1 : Nat), SV.func (15 : Nat) [] [SV.ptr (2 : Nat) (0 : Nat), SV.ptr (3 : Nat) (0 : Nat)], SV.int IntKind.i64 more, SV.int IntKind.i64 (j + (1 : Int))], [some (Body.cells [SV.int IntKind.u64 d, SV.int IntKind.i64 (shA d a last), SV.int IntKind.i64 (shB d b last)]), some (Body.rows [IntKind.i64, IntKind.i64, IntKind.i64] (R ++ [[last, srcG d last, dstG d last (rvG a b last)]])), some (Body.cells [SV.sbool one]), some (Body.cells [SV.int IntKind.i64 last])], [decide (j < more) = true, (R ++ [[last, srcG d last, dstG d last (rvG a b last)]]).length * (24 : Nat) ≤ (140737488355328 : Nat), last = (0 : Int) ∨ last = (1 : Int), (0 : Int) ≤ d ∧ d < (16 : Int), (0 : Int) ≤ a ∧ a < (3 : Int), (0 : Int) ≤ b ∧ b < (3 : Int), (!one) = false, Fits IntKind.i64 (j + (1 : Int))]) := by kernel_rfl
theorem l6m_two (more d a b : Int) (R : List (List Int)) (one : Bool) (last j : Int) : runC g9 900 92 [.br true, .br true] l6M (l6m.zip (l6W more j)) (l6Y d a b R one last) l6m [0, 5, 2, 3] =
    some (Ex.normal, [SV.ptr (0 : Nat) (0 : Nat), SV.own (1 : Nat), SV.func (15 : Nat) [] [SV.ptr (2 : Nat) (0 : Nat), SV.ptr (3 : Nat) (0 : Nat)], SV.int IntKind.i64 more, SV.int IntKind.i64 (j + (1 : Int))], [some (Body.cells [SV.int IntKind.u64 d, SV.int IntKind.i64 (shA d a ((1 : Int) - last)), SV.int IntKind.i64 (shB d b ((1 : Int) - last))]), some (Body.rows [IntKind.i64, IntKind.i64, IntKind.i64] (R ++ [[(1 : Int) - last, srcG d ((1 : Int) - last), dstG d ((1 : Int) - last) (rvG a b ((1 : Int) - last))]])), some (Body.cells [SV.sbool one]), some (Body.cells [SV.int IntKind.i64 ((1 : Int) - last)])], [decide (j < more) = true, (R ++ [[(1 : Int) - last, srcG d ((1 : Int) - last), dstG d ((1 : Int) - last) (rvG a b ((1 : Int) - last))]]).length * (24 : Nat) ≤ (140737488355328 : Nat), (1 : Int) - last = (0 : Int) ∨ (1 : Int) - last = (1 : Int), (0 : Int) ≤ d ∧ d < (16 : Int), (0 : Int) ≤ a ∧ a < (3 : Int), (0 : Int) ≤ b ∧ b < (3 : Int), (!one) = true, Fits IntKind.i64 ((1 : Int) - last), Fits IntKind.i64 (j + (1 : Int))]) := by kernel_rfl
theorem l6m_end (more d a b : Int) (R : List (List Int)) (one : Bool) (last j : Int) : runC g9 900 92 [.br false] l6M (l6m.zip (l6W more j)) (l6Y d a b R one last) [8] [1] =
    some (Ex.exit (4 : Nat), [SV.own (0 : Nat)], [some (Body.rows [IntKind.i64, IntKind.i64, IntKind.i64] R)], [decide (j < more) = false]) := by kernel_rfl
end Go.Proofs.Tryd

namespace Go.Proofs.Tryd
open Go Go.Vx
/-! ### Levels: its loops joined -/

theorem uor_lt {a b : Int} (ha : 0 ≤ a ∧ a < 16) (hb : 0 ≤ b ∧ b < 16) : 0 ≤ uor a b ∧ uor a b < 16 := by
  unfold uor
  have h1 : a.toNat < 2 ^ 4 := by omega
  have h2 : b.toNat < 2 ^ 4 := by omega
  have := Nat.or_lt_two_pow h1 h2
  constructor
  · exact Int.natCast_nonneg _
  · show ((a.toNat ||| b.toNat : Nat) : Int) < 16
    omega
theorem flagN_lt (t : Int) : 0 ≤ flagN t ∧ flagN t < 16 := by
  unfold flagN
  split
  · decide
  split
  · decide
  split
  · decide
  split <;> decide
theorem dL_lt {d : Int} (hd : 0 ≤ d ∧ d < 16) (l : List Int) : ∀ k, 0 ≤ dL d l k ∧ dL d l k < 16
  | 0 => hd
  | k + 1 => uor_lt (dL_lt hd l k) (flagN_lt _)
theorem dP_lt (tk : Nat → List Int) : ∀ i, 0 ≤ dP tk i ∧ dP tk i < 16
  | 0 => show (0 : Int) ≤ 0 ∧ (0 : Int) < 16 by decide
  | i + 1 => dL_lt (dP_lt tk i) _ _
theorem srcG_lt (d s : Int) : 0 ≤ srcG d s ∧ srcG d s < 3 := by
  unfold srcG
  generalize bitG d (if s = 1 then 2 else 4) = x
  generalize bitG d 8 = y
  cases x <;> cases y <;> decide
theorem mxG_lt {a b : Int} (ha : 0 ≤ a ∧ a < 3) (hb : 0 ≤ b ∧ b < 3) : 0 ≤ mxG a b ∧ mxG a b < 3 := by
  unfold mxG
  split
  · exact hb
  · exact ha
theorem shA_lt {d a s : Int} (ha : 0 ≤ a ∧ a < 3) : 0 ≤ shA d a s ∧ shA d a s < 3 := by
  unfold shA
  split
  · exact mxG_lt ha (srcG_lt _ _)
  · exact ha
theorem shB_lt {d b s : Int} (hb : 0 ≤ b ∧ b < 3) : 0 ≤ shB d b s ∧ shB d b s < 3 := by
  unfold shB
  split
  · exact hb
  · exact mxG_lt hb (srcG_lt _ _)
theorem aP_lt (fr : Nat → Int) (tk : Nat → List Int) : ∀ i, 0 ≤ aP fr tk i ∧ aP fr tk i < 3
  | 0 => show (0 : Int) ≤ 0 ∧ (0 : Int) < 3 by decide
  | i + 1 => shA_lt (aP_lt fr tk i)
theorem bP_lt (fr : Nat → Int) (tk : Nat → List Int) : ∀ i, 0 ≤ bP fr tk i ∧ bP fr tk i < 3
  | 0 => show (0 : Int) ≤ 0 ∧ (0 : Int) < 3 by decide
  | i + 1 => shB_lt (bP_lt fr tk i)
theorem aQ_lt {d a : Int} (ha : 0 ≤ a ∧ a < 3) (one : Bool) (last : Int) : ∀ j, 0 ≤ aQ d a one last j ∧ aQ d a one last j < 3
  | 0 => ha
  | j + 1 => shA_lt (aQ_lt ha one last j)
theorem bQ_lt {d b : Int} (hb : 0 ≤ b ∧ b < 3) (one : Bool) (last : Int) : ∀ j, 0 ≤ bQ d b one last j ∧ bQ d b one last j < 3
  | 0 => hb
  | j + 1 => shB_lt (bQ_lt hb one last j)
theorem lq_01 (one : Bool) {last : Int} (h : last = 0 ∨ last = 1) : ∀ j, lq one last j = 0 ∨ lq one last j = 1
  | 0 => h
  | j + 1 => by
    have := lq_01 one h j
    unfold lq
    split <;> omega
theorem sumT_ge {fr : Nat → Int} {tk : Nat → List Int} {n : Nat} (ho : ∀ i, i < n → lineOk fr tk i = true) : ∀ i, i ≤ n → i ≤ sumT tk i
  | 0, _ => Nat.zero_le _
  | i + 1, hi => by
    have h1 := sumT_ge ho i (by omega)
    have h2 := (lineOk_iff.1 (ho i (by omega))).2.2.1
    show i + 1 ≤ sumT tk i + (tk i).length
    omega
theorem few_lines {fr : Nat → Int} {tk : Nat → List Int} {n : Nat} (ho : ∀ i, i < n → lineOk fr tk i = true) : n ≤ 24 := by
  rcases Nat.eq_zero_or_pos n with h | h
  · omega
  · have h1 := sumT_ge ho n (Nat.le_refl _)
    have h2 := (lineOk_iff.1 (ho (n - 1) (by omega))).2.2.2.1
    have h3 : sumT tk n = sumT tk (n - 1) + (tk (n - 1)).length := by
      obtain ⟨m, rfl⟩ : ∃ m, n = m + 1 := ⟨n - 1, by omega⟩
      rfl
    omega
noncomputable def l6oe : LoopF := fun vals B => match vals, B with
  | [.int .i64 more, .ptr 0 0, .ptr 1 0, .raw (.slice none 0 0), .ro 2 n f, .int .i64 N, .int .i64 0], [.cells [.raw (.string s), .roi .i64 l0, .roi .i64 l1, .ro 2 n' f'], .cells [.int .u64 0, .int .i64 0, .int .i64 0]] =>
    some ([(1, .int .i64 more), (2, .ptr 0 0), (7, .ptr 1 0), (8, .own 2)], [PB s l0 l1 n' f', TB (dP (tkO f) n) (aP (frO f) (tkO f) n) (bP (frO f) (tkO f) n), .rows K3 (RW (frO f) (tkO f) n)], pC l0 l1 n f ++ [N = n, allB (lineOk (frO f) (tkO f)) n = true])
  | _, _ => none
theorem q015 : ∀ j : Nat, j < 2 → ([0, 1, 5] : List Nat)[j]? = some j := fun j hj => by
  match j, hj with
  | 0, _ => rfl
  | 1, _ => rfl
theorem l6o_e : LoopGood g9 92 (.loop l6O) l6o 2 (.exit 0) (mkLoopN l6oe) := by
  refine LoopGood.mkN (by decide) fun vals B S' B' C hG hC hlen w0 O hgl => ?_
  clear hlen
  unfold l6oe at hG
  split at hG
  · rename_i more n f N s l0 l1 n' f'
    simp only [Option.some.injEq, Prod.mk.injEq] at hG
    obtain ⟨rfl, rfl, rfl⟩ := hG
    simp only [pC, allC_append, allC_cons, allC_nil, and_true] at hC
    obtain ⟨⟨hf, Fn, Fl0, Fl1, hT⟩, rfl, ho⟩ := hC
    generalize frO f = fr at *
    generalize tkO f = tk at *
    subst hf
    have Fn' := fits_int Fn
    have hL := l6i_e
    have ho := allB_iff.1 ho
    have h24 := few_lines ho
    refine SimC.adoptS (.rows K3 []) 8 rfl rfl (by simp) (by simp) ?_
    show SimC _ _ _ _ _ (l6o.zip (l6V more n (lnF fr tk) ((0 : Nat) : Int))) [PB s l0 l1 n' f', TB (dP tk 0) (aP fr tk 0) (bP fr tk 0), .rows K3 (RW fr tk 0)] _ _ _ _
    · refine SimC.iter (g := g9) (e := .exit 0) (S := fun i => l6o.zip (l6V more n (lnF fr tk) (i : Int))) (B := fun i => [PB s l0 l1 n' f', TB (dP tk i) (aP fr tk i) (bP fr tk i), .rows K3 (RW fr tk i)]) (N := n) (fun i hi => ?_) ?_ (by simp) 0 (by omega)
      · obtain ⟨hfr, hal, hne, hs, htk⟩ := lineOk_iff.1 (ho i (by omega))
        have hT := hT i (by omega)
        have Fl : Fits .i64 ((tk i).length : Int) := fits_of (by omega) (by omega)
        have hd := dP_lt tk (i + 1)
        have hd : 0 ≤ dL (dP tk i) (tk i) (tk i).length ∧ dL (dP tk i) (tk i) (tk i).length < 16 := hd
        have ha := aP_lt fr tk i
        have hb := bP_lt fr tk i
        have hR := RW_len fr tk i
        refine SimC.run (B' := [PB s l0 l1 n' f', TB (dP tk (i + 1)) (aP fr tk (i + 1)) (bP fr tk (i + 1)), .rows K3 (RW fr tk (i + 1))]) g9_ok (by decide) (l6o_go s l0 l1 n n' fr tk f' more (dP tk i) (aP fr tk i) (bP fr tk i) (RW fr tk i) i) ?_ (by decide) q015 (by decide) (by simp) hgl
        simp only [List.length_append, List.length_cons, List.length_nil, hR]
        exact (by simp only [allC_append, allC_cons, allC_nil, and_true, frO_ln, tkO_ln, decide_eq_true_eq, decide_eq_false_iff_not, Bool.not_eq_true', Bool.not_eq_false', Int.toNat_natCast, toNat_sub1]; (repeat' first | with_reducible assumption | exact True.intro | exact fits_of (by omega) (by omega) | apply And.intro | omega | rfl | assumption))
      · exact SimC.weaken (SimC.run (B' := [PB s l0 l1 n' f', TB (dP tk n) (aP fr tk n) (bP fr tk n), .rows K3 (RW fr tk n)]) g9_ok (by decide) (l6o_end s l0 l1 n n' fr tk f' more (dP tk n) (aP fr tk n) (bP fr tk n) (RW fr tk n) n) (by simp only [allC_append, allC_cons, allC_nil, and_true, frO_ln, tkO_ln, decide_eq_true_eq, decide_eq_false_iff_not, Bool.not_eq_true', Bool.not_eq_false', Int.toNat_natCast, toNat_sub1]; (repeat' first | with_reducible assumption | exact True.intro | exact fits_of (by omega) (by omega) | apply And.intro | omega | rfl | assumption)) (by decide) (fun j hj => q012 j (by omega)) (by decide) (by simp) hgl) (sub_mkT (by simp; exact ⟨rfl, rfl, rfl, rfl⟩))
  · simp at hG
noncomputable def l6me : LoopF := fun vals B => match vals, B with
  | [.ptr 0 0, .own 1, .func 15 [] [.ptr 2 0, .ptr 3 0], .int .i64 more, .int .i64 0], [.cells [.int .u64 d, .int .i64 a, .int .i64 b], .rows K R, .cells [.sbool one], .cells [.int .i64 last]] =>
    some ([(8, .own 0)], [.rows K3 (RQ R d a b one last more.toNat)], [K = K3, 0 ≤ d ∧ d < 16, 0 ≤ a ∧ a < 3, 0 ≤ b ∧ b < 3, last = 0 ∨ last = 1, 0 ≤ more ∧ more ≤ 64, R.length ≤ 1000000])
  | _, _ => none
theorem l6m_e : LoopGood g9 92 (.loop l6M) l6m 0 (.exit 4) (mkLoopN l6me) := by
  refine LoopGood.mkN (by decide) fun vals B S' B' C hG hC hlen w0 O hgl => ?_
  clear hlen
  unfold l6me at hG
  split at hG
  · rename_i more d a b K R one last
    simp only [Option.some.injEq, Prod.mk.injEq] at hG
    obtain ⟨rfl, rfl, rfl⟩ := hG
    simp only [allC_cons, allC_nil, and_true] at hC
    obtain ⟨rfl, hd, ha, hb, hl, hm, hR⟩ := hC
    obtain ⟨m, rfl⟩ := Int.eq_ofNat_of_zero_le hm.1
    rw [Int.toNat_natCast]
    · refine SimC.iter (g := g9) (e := .exit 4) (S := fun j => l6m.zip (l6W (m : Int) (j : Int))) (B := fun j => l6Y d (aQ d a one last j) (bQ d b one last j) (RQ R d a b one last j) one (lq one last j)) (N := m) (fun j hj => ?_) ?_ (by simp) 0 (by omega)
      · have ha := aQ_lt (d := d) ha one last j
        have hb := bQ_lt (d := d) hb one last j
        have hq := lq_01 one hl j
        have hq' := lq_01 one hl (j + 1)
        have hlen := RQ_len R d a b one last j
        cases one with
        | true =>
          refine SimC.run (B' := l6Y d (aQ d a true last (j + 1)) (bQ d b true last (j + 1)) (RQ R d a b true last (j + 1)) true (lq true last (j + 1))) g9_ok (by decide) (l6m_one (m : Int) d (aQ d a true last j) (bQ d b true last j) (RQ R d a b true last j) true (lq true last j) (j : Int)) ?_ (by decide) (qn _) (by decide) (by simp) hgl
          simp only [List.length_append, List.length_cons, List.length_nil, hlen]
          exact (by simp only [allC_append, allC_cons, allC_nil, and_true, frO_ln, tkO_ln, decide_eq_true_eq, decide_eq_false_iff_not, Bool.not_eq_true', Bool.not_eq_false', Int.toNat_natCast, toNat_sub1]; (repeat' first | with_reducible assumption | exact True.intro | exact fits_of (by omega) (by omega) | apply And.intro | omega | rfl | assumption))
        | false =>
          have hq1 : 1 - lq false last j = 0 ∨ 1 - lq false last j = 1 := by omega
          refine SimC.run (B' := l6Y d (aQ d a false last (j + 1)) (bQ d b false last (j + 1)) (RQ R d a b false last (j + 1)) false (lq false last (j + 1))) g9_ok (by decide) (l6m_two (m : Int) d (aQ d a false last j) (bQ d b false last j) (RQ R d a b false last j) false (lq false last j) (j : Int)) ?_ (by decide) (qn _) (by decide) (by simp) hgl
          simp only [List.length_append, List.length_cons, List.length_nil, hlen]
          exact (by simp only [allC_append, allC_cons, allC_nil, and_true, frO_ln, tkO_ln, decide_eq_true_eq, decide_eq_false_iff_not, Bool.not_eq_true', Bool.not_eq_false', Int.toNat_natCast, toNat_sub1]; (repeat' first | with_reducible assumption | exact True.intro | exact fits_of (by omega) (by omega) | apply And.intro | omega | rfl | assumption))
      · exact SimC.weaken (SimC.run (B' := [.rows K3 (RQ R d a b one last m)]) g9_ok (by decide) (l6m_end (m : Int) d (aQ d a one last m) (bQ d b one last m) (RQ R d a b one last m) one (lq one last m) (m : Int)) (by simp only [allC_append, allC_cons, allC_nil, and_true, frO_ln, tkO_ln, decide_eq_true_eq, decide_eq_false_iff_not, Bool.not_eq_true', Bool.not_eq_false', Int.toNat_natCast, toNat_sub1]; (repeat' first | with_reducible assumption | exact True.intro | exact fits_of (by omega) (by omega) | apply And.intro | omega | rfl | assumption)) (by decide) (qn _) (by decide) (by simp) hgl) (sub_mkT (by simp; exact rfl))
  · simp at hG
theorem lv_a (s : ByteArray) (l0 l1 : List Int) (n : Nat) (fr : Nat → Int) (tk : Nat → List Int) (more : Int) : runF g9 900 [.br false, .br false, .loop 9 l6o 2 (.exit 0) (mkLoopN l6oe), .br true, .loop 22 l6m 0 (.exit 4) (mkLoopN l6me)] 6 [PA s l0 l1 n (lnF fr tk), .int .i64 more] [] [5] =
    some (SV.tuple [SV.own (0 : Nat), SV.raw Value.nilIface], [some (Body.rows [IntKind.i64, IntKind.i64, IntKind.i64] (RQ (RW (frO (lnF fr tk)) (tkO (lnF fr tk)) n) (dP (tkO (lnF fr tk)) n) (aP (frO (lnF fr tk)) (tkO (lnF fr tk)) n) (bP (frO (lnF fr tk)) (tkO (lnF fr tk)) n) (decide (fr ((↑n : Int) - (1 : Int)).toNat = (0 : Int))) (fr ((↑n : Int) - (1 : Int)).toNat) more.toNat))], [lnF fr tk = lnF (frO (lnF fr tk)) (tkO (lnF fr tk)), Fits IntKind.i64 (↑n : Int), Fits IntKind.i64 (↑l0.length : Int), Fits IntKind.i64 (↑l1.length : Int), ∀ (i : Nat), i < n → (tkO (lnF fr tk) i).length ≤ (140737488351232 : Nat), ckR l0 l1 n (frO (lnF fr tk)) (tkO (lnF fr tk)) = (0 : Int), decide (more < (0 : Int)) = false, decide ((64 : Int) < more) = false, Fits IntKind.i64 (↑n : Int), LoopGood g9 92 (.loop l6O) l6o 2 (.exit 0) (mkLoopN l6oe), lnF fr tk = lnF (frO (lnF fr tk)) (tkO (lnF fr tk)), Fits IntKind.i64 (↑n : Int), Fits IntKind.i64 (↑l0.length : Int), Fits IntKind.i64 (↑l1.length : Int), ∀ (i : Nat), i < n → (tkO (lnF fr tk) i).length ≤ (140737488351232 : Nat), (↑n : Int) = (↑n : Int), allB (lineOk (frO (lnF fr tk)) (tkO (lnF fr tk))) n = true, (0 : Int) ≤ (↑n : Int) - (1 : Int) ∧ (↑n : Int) - (1 : Int) < (↑n : Int), Fits IntKind.i64 ((↑n : Int) - (1 : Int)), Fits IntKind.i64 (↑n : Int), decide ((↑n : Int) = (1 : Int)) = true, Fits IntKind.i64 (↑n : Int), LoopGood g9 92 (.loop l6M) l6m 0 (.exit 4) (mkLoopN l6me), [IntKind.i64, IntKind.i64, IntKind.i64] = [IntKind.i64, IntKind.i64, IntKind.i64], (0 : Int) ≤ dP (tkO (lnF fr tk)) n ∧ dP (tkO (lnF fr tk)) n < (16 : Int), (0 : Int) ≤ aP (frO (lnF fr tk)) (tkO (lnF fr tk)) n ∧ aP (frO (lnF fr tk)) (tkO (lnF fr tk)) n < (3 : Int), (0 : Int) ≤ bP (frO (lnF fr tk)) (tkO (lnF fr tk)) n ∧ bP (frO (lnF fr tk)) (tkO (lnF fr tk)) n < (3 : Int), fr ((↑n : Int) - (1 : Int)).toNat = (0 : Int) ∨ fr ((↑n : Int) - (1 : Int)).toNat = (1 : Int), (0 : Int) ≤ more ∧ more ≤ (64 : Int), (RW (frO (lnF fr tk)) (tkO (lnF fr tk)) n).length ≤ (1000000 : Nat)]) := by kernel_rfl
theorem lv_b (s : ByteArray) (l0 l1 : List Int) (n : Nat) (fr : Nat → Int) (tk : Nat → List Int) (more : Int) : runF g9 900 [.br false, .br false, .loop 9 l6o 2 (.exit 0) (mkLoopN l6oe), .br false, .loop 22 l6m 0 (.exit 4) (mkLoopN l6me)] 6 [PA s l0 l1 n (lnF fr tk), .int .i64 more] [] [5] =
    some (SV.tuple [SV.own (0 : Nat), SV.raw Value.nilIface], [some (Body.rows [IntKind.i64, IntKind.i64, IntKind.i64] (RQ (RW (frO (lnF fr tk)) (tkO (lnF fr tk)) n) (dP (tkO (lnF fr tk)) n) (aP (frO (lnF fr tk)) (tkO (lnF fr tk)) n) (bP (frO (lnF fr tk)) (tkO (lnF fr tk)) n) false (fr ((↑n : Int) - (1 : Int)).toNat) more.toNat))], [lnF fr tk = lnF (frO (lnF fr tk)) (tkO (lnF fr tk)), Fits IntKind.i64 (↑n : Int), Fits IntKind.i64 (↑l0.length : Int), Fits IntKind.i64 (↑l1.length : Int), ∀ (i : Nat), i < n → (tkO (lnF fr tk) i).length ≤ (140737488351232 : Nat), ckR l0 l1 n (frO (lnF fr tk)) (tkO (lnF fr tk)) = (0 : Int), decide (more < (0 : Int)) = false, decide ((64 : Int) < more) = false, Fits IntKind.i64 (↑n : Int), LoopGood g9 92 (.loop l6O) l6o 2 (.exit 0) (mkLoopN l6oe), lnF fr tk = lnF (frO (lnF fr tk)) (tkO (lnF fr tk)), Fits IntKind.i64 (↑n : Int), Fits IntKind.i64 (↑l0.length : Int), Fits IntKind.i64 (↑l1.length : Int), ∀ (i : Nat), i < n → (tkO (lnF fr tk) i).length ≤ (140737488351232 : Nat), (↑n : Int) = (↑n : Int), allB (lineOk (frO (lnF fr tk)) (tkO (lnF fr tk))) n = true, (0 : Int) ≤ (↑n : Int) - (1 : Int) ∧ (↑n : Int) - (1 : Int) < (↑n : Int), Fits IntKind.i64 ((↑n : Int) - (1 : Int)), Fits IntKind.i64 (↑n : Int), decide ((↑n : Int) = (1 : Int)) = false, Fits IntKind.i64 (↑n : Int), LoopGood g9 92 (.loop l6M) l6m 0 (.exit 4) (mkLoopN l6me), [IntKind.i64, IntKind.i64, IntKind.i64] = [IntKind.i64, IntKind.i64, IntKind.i64], (0 : Int) ≤ dP (tkO (lnF fr tk)) n ∧ dP (tkO (lnF fr tk)) n < (16 : Int), (0 : Int) ≤ aP (frO (lnF fr tk)) (tkO (lnF fr tk)) n ∧ aP (frO (lnF fr tk)) (tkO (lnF fr tk)) n < (3 : Int), (0 : Int) ≤ bP (frO (lnF fr tk)) (tkO (lnF fr tk)) n ∧ bP (frO (lnF fr tk)) (tkO (lnF fr tk)) n < (3 : Int), fr ((↑n : Int) - (1 : Int)).toNat = (0 : Int) ∨ fr ((↑n : Int) - (1 : Int)).toNat = (1 : Int), (0 : Int) ≤ more ∧ more ≤ (64 : Int), (RW (frO (lnF fr tk)) (tkO (lnF fr tk)) n).length ≤ (1000000 : Nat)]) := by kernel_rfl
def F6 : SumF := fun args B => match args, B with
  | [.agg [.raw (.string s), .roi .i64 l0, .roi .i64 l1, .ro 2 n f], .int .i64 more], [] => some { val := .tuple [.own 0, .raw .nilIface], new := [.rows K3 (RQ (RW (frO f) (tkO f) n) (dP (tkO f) n) (aP (frO f) (tkO f) n) (bP (frO f) (tkO f) n) (oneR n (frO f)) (frO f (n - 1)) more.toNat)], C := pC l0 l1 n f ++ [ckR l0 l1 n (frO f) (tkO f) = 0, 0 ≤ more ∧ more ≤ 64] }
  | _, _ => none
theorem runN {g : Ctx} {f : FuncId} {args : List SV} {b1 : Body} {v : SV} (hU : CtxU g) {n k : Nat} {pl : List Plan} {C : List Prop} (h : runF g n pl f args [] [k] = some (v, [some b1], C)) (hC : AllC C) : FnOk g f args [] { val := v, new := [b1] } :=
  FnOk.run hU h hC (by simp [upto]) rfl (by simp) (by simp) (fun j hj => by
    match j, hj with
    | 0, _ => rfl)
theorem acc6 : Acc g9 6 F6 := by
  intro args B out h hC
  unfold F6 at h
  split at h
  · rename_i s l0 l1 n f more
    simp only [Option.some.injEq] at h; subst h
    simp only [pC, allC_append, allC_cons, allC_nil, and_true] at hC
    obtain ⟨⟨hf, Fn, Fl0, Fl1, hT⟩, hck, hm⟩ := hC
    generalize frO f = fr at *
    generalize tkO f = tk at *
    subst hf
    obtain ⟨hsh, he, s0, s1⟩ := ckR_zero hck
    obtain ⟨ha0, ha1, hn, ho⟩ := shaped_iff.1 hsh
    have ho' := allB_iff.1 ho
    have hL := l6o_e
    have hM := l6m_e
    have h24 := few_lines ho'
    have hd := dP_lt tk n
    have ha := aP_lt fr tk n
    have hb := bP_lt fr tk n
    have hR := RW_len fr tk n
    have hl := (lineOk_iff.1 (ho' (n - 1) (by omega))).1
    have e : ((n : Int) - 1).toNat = n - 1 := by omega
    by_cases h1 : (n : Int) = 1
    · have e1 : oneR n fr = decide (fr (n - 1) = 0) := by
        have : n - 1 = 0 := by omega
        rw [this]; simp [oneR, h1]
      rw [e1]
      have hr := lv_a s l0 l1 n fr tk more
      rw [e] at hr
      simp only [frO_ln, tkO_ln] at hr
      have hq := runN g9_ok hr (by simp only [allC_append, allC_cons, allC_nil, and_true, frO_ln, tkO_ln, decide_eq_true_eq, decide_eq_false_iff_not, Bool.not_eq_true', Bool.not_eq_false', Int.toNat_natCast, toNat_sub1]; (repeat' first | with_reducible assumption | exact True.intro | exact fits_of (by omega) (by omega) | apply And.intro | omega | rfl | assumption))
      clear hr
      exact FnOk.val (C := []) (rd := []) hq (fun _ _ _ _ h => h)
    · have e1 : oneR n fr = false := by simp only [oneR, h1, decide_false, Bool.false_and]
      rw [e1]
      have hr := lv_b s l0 l1 n fr tk more
      rw [e] at hr
      simp only [frO_ln, tkO_ln] at hr
      have hq := runN g9_ok hr (by simp only [allC_append, allC_cons, allC_nil, and_true, frO_ln, tkO_ln, decide_eq_true_eq, decide_eq_false_iff_not, Bool.not_eq_true', Bool.not_eq_false', Int.toNat_natCast, toNat_sub1]; (repeat' first | with_reducible assumption | exact True.intro | exact fits_of (by omega) (by omega) | apply And.intro | omega | rfl | assumption))
      clear hr
      exact FnOk.val (C := []) (rd := []) hq (fun _ _ _ _ h => h)
  · simp at h
noncomputable abbrev ga : Ctx := g9.add [(6, F6)]
theorem ga_ok : CtxU ga := g9_ok.add mixed noGo (by
  intro x hx
  simp only [List.mem_cons, List.not_mem_nil, or_false] at hx
  rcases hx with rfl
  exact acc6)
end Go.Proofs.Tryd

namespace Go.Proofs.Tryd
open Go Go.Vx
/-! ### grades: F5 -/
theorem acc13z : Acc g0 13 F13 := fun args B out h hC => FnOk.of (g := g8) rfl rfl (acc13 args B out h hC)
def F14z : SumF := fun args B => match args, B with
  | [.ptr 0 0, .int .i64 s], [.cells cs] => match numsAs [.u64, .i64, .i64] cs with
    | some [d, a, b] => some { val := .agg [.int .i64 s, .int .i64 (srcG d s), .int .i64 (dstG d s (rvG a b s))], upd := [(0, some (TB d (shA d a s) (shB d b s)))], reads := [0], C := [s = 0 ∨ s = 1, 0 ≤ d ∧ d < 16, 0 ≤ a ∧ a < 3, 0 ≤ b ∧ b < 3] }
    | _ => none
  | _, _ => none
theorem acc14z : Acc g0 14 F14z := fun args B out h hC => by
  unfold F14z at h
  split at h
  · rename_i s cs
    split at h
    · rename_i d a b hn
      simp only [Option.some.injEq] at h; subst h
      refine FnOk.preB (B' := [TB d a b]) ?_ ⟨cells_nums hn, trivial⟩ (fun j => by
        match j with
        | 0 => rfl
        | j + 1 => simp [afterH, newH, newAll, updAll, upH, BH])
      exact FnOk.of (g := g8) rfl rfl (acc14 _ _ _ rfl hC)
    · simp at h
  · simp at h
noncomputable abbrev gz : Ctx := g0.add [(13, F13), (14, F14z)]
theorem gz_ok : CtxU gz := g0_ok.add mixed noGo (by
  intro x hx
  simp only [List.mem_cons, List.not_mem_nil, or_false] at hx
  rcases hx with rfl | rfl
  · exact acc13z
  · exact acc14z)
theorem gd_run : runF gz 3000 [.br true, .br true, .br true, .br true, .br true, .br true] 5 [] [] [] =
    some (.sbool true, [], [(1 : Int) ≤ 1 ∧ (1 : Int) ≤ 7, (24 : Nat) ≤ 140737488355328, (0 : Int) = 0 ∨ (0 : Int) = 1, (0 : Int) ≤ 0 ∧ (0 : Int) < 16, (0 : Int) ≤ 0 ∧ (0 : Int) < 3, (0 : Int) ≤ 0 ∧ (0 : Int) < 3, (1 : Int) ≤ 1 ∧ (1 : Int) ≤ 7, (1 : Int) ≤ 3 ∧ (3 : Int) ≤ 7, (48 : Nat) ≤ 140737488355328, (1 : Int) = 0 ∨ (1 : Int) = 1, (0 : Int) ≤ 1 ∧ (1 : Int) < 16, (0 : Int) ≤ 0 ∧ (0 : Int) < 3, (0 : Int) ≤ 0 ∧ (0 : Int) < 3, (72 : Nat) ≤ 140737488355328, (0 : Int) = 0 ∨ (0 : Int) = 1, (0 : Int) ≤ 1 ∧ (1 : Int) < 16, (0 : Int) ≤ 0 ∧ (0 : Int) < 3, (0 : Int) ≤ 0 ∧ (0 : Int) < 3, (2 : Nat) < 3, (2 : Nat) < 3, (2 : Nat) < 3, (0 : Int) ≤ 2 ∧ (2 : Int) < 3, true = true, (1 : Nat) < 3, (1 : Nat) < 3, (1 : Nat) < 3, (0 : Int) ≤ 1 ∧ (1 : Int) < 3, true = true, (0 : Nat) < 3, (0 : Nat) < 3, (0 : Nat) < 3, (0 : Int) ≤ 0 ∧ (0 : Int) < 3, true = true, Fits .i64 3]) := by kernel_rfl
def F5 : SumF := fun args B => match args, B with
  | [], [] => some { val := .bool true }
  | _, _ => none
theorem acc5z : Acc gz 5 F5 := fun args B out h hC => by
  unfold F5 at h
  split at h
  · simp only [Option.some.injEq] at h; subst h
    exact FnOk.ofSb (b := true) (FnOk.pure gz_ok gd_run (by simp only [allC_cons, allC_nil, and_true]; (repeat' first | decide | exact fits_of (by decide) (by decide) | apply And.intro))) rfl
  · simp at h
theorem acc5 : Acc ga 5 F5 := fun args B out h hC => FnOk.of (g := gz) rfl rfl (acc5z args B out h hC)
theorem acc4a : Acc ga 4 F4 := fun args B out h hC => FnOk.of (g := g3) rfl rfl (acc4 args B out h hC)
noncomputable abbrev gb : Ctx := ga.add [(5, F5)]
theorem gb_ok : CtxU gb := ga_ok.add mixed noGo (by
  intro x hx
  simp only [List.mem_cons, List.not_mem_nil, or_false] at hx
  rcases hx with rfl
  exact acc5)
end Go.Proofs.Tryd
