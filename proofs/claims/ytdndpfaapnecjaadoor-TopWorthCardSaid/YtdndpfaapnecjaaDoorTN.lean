/- Accounts of this seat's functions: lemmas, no statement of their own. No conditions. -/
import Derived.Test.YtdndpfaapnecjaaDoorTK
namespace Go.Proofs.Tryd
open Go Go.Vx
/-! ### the program's Check, of a pattern that the document lets pass: F12 -/
/-- the walk behind k tokens of a line; ahead of a line -/
def wkL (y : Nat → Bool) (s : Int) (l : List Int) : Nat → Nat → Bool
  | 0 => y
  | k + 1 => takX (nrm 14 (wkL y s l k)) s (l.getD k 0)
def wkP (y : Nat → Bool) (fr : Nat → Int) (tk : Nat → List Int) : Nat → Nat → Bool
  | 0 => y
  | i + 1 => wkL (nrm 14 (wkP y fr tk i)) (fr i) (tk i) (tk i).length
/-- a line that the walk takes -/
def wkOk (y : Nat → Bool) (s : Int) (l : List Int) : Prop := ∀ k, k < l.length → takOk (nrm 14 (wkL y s l k)) s (l.getD k 0) = true ∧ ((k : Int) = (l.length : Int) - 1 → safeW (takX (nrm 14 (wkL y s l k)) s (l.getD k 0)) s = true)
abbrev c2i : List Nat := [1, 3, 9, 42, 43, 44, 49, 50, 51]
noncomputable abbrev c2I : Code := bodyAt Tryd.prog 12 17
abbrev c2J (n : Nat) (f : Nat → SV) (l : List Int) (i k : Int) : List SV := [.ptr 0 0, .ptr 1 0, .ptr 2 0, .ro 2 n f, .int .i64 n, .int .i64 i, .roi .i64 l, .int .i64 l.length, .int .i64 k]
theorem c2i_go (s : ByteArray) (l0 l1 : List Int) (n n' : Nat) (f f' : Nat → SV) (y : Nat → Bool) (v : Int) (l : List Int) (i k : Int) : runC g7 600 97 [.br true] c2I (c2i.zip (c2J n f l i k)) [PB s l0 l1 n' f', .cells (SX 14 y), LnB v l] c2i [0, 1, 2] =
    some (Ex.normal, [SV.ptr (0 : Nat) (0 : Nat), SV.ptr (1 : Nat) (0 : Nat), SV.ptr (2 : Nat) (0 : Nat), SV.ro (2 : Nat) n f, SV.int IntKind.i64 (↑n : Int), SV.int IntKind.i64 i, SV.roi IntKind.i64 l, SV.int IntKind.i64 (↑l.length : Int), SV.int IntKind.i64 (k + (1 : Int))], [some (Body.cells [SV.raw (Value.string s), SV.roi IntKind.i64 l0, SV.roi IntKind.i64 l1, SV.ro (2 : Nat) n' f']), some (Body.cells (SX 14 (takX (nrm 14 y) v (l.getD k.toNat (0 : Int))))), some (Body.cells [SV.int IntKind.i64 v, SV.roi IntKind.i64 l])], [decide (k < (↑l.length : Int)) = true, (0 : Int) ≤ k ∧ k < (↑l.length : Int), (v = (0 : Int) ∨ v = (1 : Int)) ∧ (1 : Int) ≤ l.getD k.toNat (0 : Int) ∧ l.getD k.toNat (0 : Int) ≤ (7 : Int), takOk (nrm 14 y) v (l.getD k.toNat (0 : Int)) = true, decide (k = (↑l.length : Int) - (1 : Int)) = true → safeW (takX (nrm 14 y) v (l.getD k.toNat (0 : Int))) v = true, Fits IntKind.i64 ((↑l.length : Int) - (1 : Int)), Fits IntKind.i64 (↑l.length : Int), Fits IntKind.i64 (k + (1 : Int))]) := by kernel_rfl
theorem c2i_end (s : ByteArray) (l0 l1 : List Int) (n n' : Nat) (f f' : Nat → SV) (y : Nat → Bool) (v : Int) (l : List Int) (i k : Int) : runC g7 600 97 [.br false] c2I (c2i.zip (c2J n f l i k)) [PB s l0 l1 n' f', .cells (SX 14 y), LnB v l] [1, 3, 42, 43, 44] [0, 1] =
    some (Ex.exit (6 : Nat), [SV.ptr (0 : Nat) (0 : Nat), SV.ptr (1 : Nat) (0 : Nat), SV.ro (2 : Nat) n f, SV.int IntKind.i64 (↑n : Int), SV.int IntKind.i64 i], [some (Body.cells [SV.raw (Value.string s), SV.roi IntKind.i64 l0, SV.roi IntKind.i64 l1, SV.ro (2 : Nat) n' f']), some (Body.cells (SX 14 y))], [decide (k < (↑l.length : Int)) = false]) := by kernel_rfl
noncomputable def c2ie : LoopF := fun vals B => match vals, B with
  | [.ptr 0 0, .ptr 1 0, .ptr 2 0, .ro 2 n f, .int .i64 N, .int .i64 i, .roi .i64 l, .int .i64 m, .int .i64 0], [.cells [.raw (.string s), .roi .i64 l0, .roi .i64 l1, .ro 2 n' f'], .cells cs, .cells [.int .i64 v, .roi .i64 l']] => match sxOf 14 cs with
    | some y => some ([(1, .ptr 0 0), (3, .ptr 1 0), (42, .ro 2 n f), (43, .int .i64 N), (44, .int .i64 i)], [PB s l0 l1 n' f', .cells (SX 14 (wkL y v l l.length))], [N = n, m = l.length, l' = l, Fits .i64 (l.length : Int), v = 0 ∨ v = 1, tksB l = true, wkOk y v l])
    | none => none
  | _, _ => none
theorem c2i_e : LoopGood g7 97 (.loop c2I) c2i 2 (.exit 6) (mkLoopN c2ie) := by
  refine LoopGood.mkN (by decide) fun vals B S' B' C hG hC hlen w0 O hgl => ?_
  clear hlen
  unfold c2ie at hG
  split at hG
  · rename_i n f N i l m s l0 l1 n' f' cs v l'
    split at hG
    · rename_i y hy
      simp only [Option.some.injEq, Prod.mk.injEq] at hG
      obtain ⟨rfl, rfl, rfl⟩ := hG
      simp only [allC_cons, allC_nil, and_true] at hC
      obtain ⟨rfl, rfl, rfl, F, hv, ht, hk⟩ := hC
      have F' := fits_int F
      unfold tksB at ht
      have ht := allB_iff.1 ht
      unfold wkOk at hk
      refine SimC.preI (B1 := [PB s l0 l1 n' f', .cells (SX 14 y), LnB v l']) ?_ ⟨pb_refl _ _ _ _ _, sx_cells hy, ln_refl _ _, trivial⟩
      · refine SimC.iter (g := g7) (e := .exit 6) (S := fun k => c2i.zip (c2J n f l' i (k : Int))) (B := fun k => [PB s l0 l1 n' f', .cells (SX 14 (wkL y v l' k)), LnB v l']) (N := l'.length) (fun k hkl => ?_) ?_ (by simp) 0 (by omega)
        · have ht := tkB_iff.1 (ht k (by omega))
          obtain ⟨hk1, hk2⟩ := hk k (by omega)
          exact SimC.run (B' := [PB s l0 l1 n' f', .cells (SX 14 (wkL y v l' (k + 1))), LnB v l']) g7_ok (by decide) (c2i_go s l0 l1 n n' f f' (wkL y v l' k) v l' i (k : Int)) (by simp only [allC_append, allC_cons, allC_nil, and_true, frO_ln, tkO_ln, decide_eq_true_eq, decide_eq_false_iff_not, Bool.not_eq_true', Bool.not_eq_false', Int.toNat_natCast, toNat_sub1]; (repeat' first | trivial | assumption | omega | exact fits_of (by omega) (by omega) | rfl | apply And.intro)) (by decide) (fun j hj => q012 j (by omega)) (by decide) (by simp) hgl
        · exact SimC.weaken (SimC.run (B' := [PB s l0 l1 n' f', .cells (SX 14 (wkL y v l' l'.length))]) g7_ok (by decide) (c2i_end s l0 l1 n n' f f' (wkL y v l' l'.length) v l' i (l'.length : Int)) (by simp only [allC_append, allC_cons, allC_nil, and_true, frO_ln, tkO_ln, decide_eq_true_eq, decide_eq_false_iff_not, Bool.not_eq_true', Bool.not_eq_false', Int.toNat_natCast, toNat_sub1]; (repeat' first | trivial | assumption | omega | exact fits_of (by omega) (by omega) | rfl | apply And.intro)) (by decide) q2 (by decide) (by simp) hgl) (sub_mkT (by simp; exact ⟨rfl, rfl, rfl, rfl, rfl⟩))
    · simp at hG
  · simp at hG
abbrev c2o : List Nat := [1, 3, 42, 43, 44]
noncomputable abbrev c2O : Code := bodyAt Tryd.prog 12 14
abbrev c2V (n : Nat) (f : Nat → SV) (i : Int) : List SV := [.ptr 0 0, .ptr 1 0, .ro 2 n f, .int .i64 n, .int .i64 i]
theorem c2o_go (s : ByteArray) (l0 l1 : List Int) (n : Nat) (fr : Nat → Int) (tk : Nat → List Int) (y : Nat → Bool) (i : Nat) : runC g7 900 97 [.br true, .loop 17 c2i 2 (.exit 6) (mkLoopN c2ie)] c2O (c2o.zip (c2V n (lnF fr tk) (i : Int))) [PB s l0 l1 n (lnF fr tk), .cells (SX 14 y)] c2o [0, 1] =
    some (Ex.normal, [SV.ptr (0 : Nat) (0 : Nat), SV.ptr (1 : Nat) (0 : Nat), SV.ro (2 : Nat) n (lnF fr tk), SV.int IntKind.i64 (↑n : Int), SV.int IntKind.i64 ((↑i : Int) + (1 : Int))], [some (Body.cells [SV.raw (Value.string s), SV.roi IntKind.i64 l0, SV.roi IntKind.i64 l1, SV.ro (2 : Nat) n (lnF fr tk)]), some (Body.cells (SX 14 (wkL (nrm 14 y) (fr i) (tk i) (tk i).length)))], [decide ((↑i : Int) < (↑n : Int)) = true, (0 : Int) ≤ (↑i : Int) ∧ (↑i : Int) < (↑n : Int), Fits IntKind.i64 (↑(tk i).length : Int), LoopGood g7 97 (.loop c2I) c2i 2 (.exit 6) (mkLoopN c2ie), (↑n : Int) = (↑n : Int), (↑(tk i).length : Int) = (↑(tk i).length : Int), tk i = tk i, Fits IntKind.i64 (↑(tk i).length : Int), fr (↑i : Int).toNat = (0 : Int) ∨ fr (↑i : Int).toNat = (1 : Int), tksB (tk i) = true, wkOk (nrm 14 y) (fr i) (tk i), Fits IntKind.i64 ((↑i : Int) + (1 : Int))]) := by kernel_rfl
theorem c2o_end (s : ByteArray) (l0 l1 : List Int) (n : Nat) (fr : Nat → Int) (tk : Nat → List Int) (y : Nat → Bool) (i : Nat) : runC g7 900 97 [.br false] c2O (c2o.zip (c2V n (lnF fr tk) (i : Int))) [PB s l0 l1 n (lnF fr tk), .cells (SX 14 y)] [1, 3] [0, 1] =
    some (Ex.exit (4 : Nat), [SV.ptr (0 : Nat) (0 : Nat), SV.ptr (1 : Nat) (0 : Nat)], [some (Body.cells [SV.raw (Value.string s), SV.roi IntKind.i64 l0, SV.roi IntKind.i64 l1, SV.ro (2 : Nat) n (lnF fr tk)]), some (Body.cells (SX 14 y))], [decide ((↑i : Int) < (↑n : Int)) = false]) := by kernel_rfl
end Go.Proofs.Tryd

namespace Go.Proofs.Tryd
open Go Go.Vx
/-! ### the program's Check, joined with the document's -/

noncomputable def c2oe : LoopF := fun vals B => match vals, B with
  | [.ptr 0 0, .ptr 1 0, .ro 2 n f, .int .i64 N, .int .i64 0], [.cells [.raw (.string s), .roi .i64 l0, .roi .i64 l1, .ro 2 n' f'], .cells cs] => match sxOf 14 cs with
    | some y => some ([(1, .ptr 0 0), (3, .ptr 1 0)], [PB s l0 l1 n' f', .cells (SX 14 (wkP y (frO f) (tkO f) n))], pC l0 l1 n f ++ [N = n, n' = n, f' = f, allB (lineOk (frO f) (tkO f)) n = true, ∀ i, i < n → wkOk (nrm 14 (wkP y (frO f) (tkO f) i)) (frO f i) (tkO f i)])
    | none => none
  | _, _ => none
theorem c2o_e : LoopGood g7 97 (.loop c2O) c2o 2 (.exit 4) (mkLoopN c2oe) := by
  refine LoopGood.mkN (by decide) fun vals B S' B' C hG hC hlen w0 O hgl => ?_
  clear hlen
  unfold c2oe at hG
  split at hG
  · rename_i n f N s l0 l1 n' f' cs
    split at hG
    · rename_i y hy
      simp only [Option.some.injEq, Prod.mk.injEq] at hG
      obtain ⟨rfl, rfl, rfl⟩ := hG
      simp only [pC, allC_append, allC_cons, allC_nil, and_true] at hC
      obtain ⟨⟨hf, Fn, Fl0, Fl1, hT⟩, rfl, rfl, hff, ho, hw⟩ := hC
      refine SimC.preI (B1 := [PB s l0 l1 n' f', .cells (SX 14 y)]) ?_ ⟨pb_refl _ _ _ _ _, sx_cells hy, trivial⟩
      clear hy
      generalize frO f = fr at *
      generalize tkO f = tk at *
      subst hff
      subst hf
      have Fn' := fits_int Fn
      have hL := c2i_e
      have ho := allB_iff.1 ho
      · refine SimC.iter (g := g7) (e := .exit 4) (S := fun i => c2o.zip (c2V n' (lnF fr tk) (i : Int))) (B := fun i => [PB s l0 l1 n' (lnF fr tk), .cells (SX 14 (wkP y fr tk i))]) (N := n') (fun i hi => ?_) ?_ (by simp) 0 (by omega)
        · obtain ⟨hfr, hal, hne, hs, htk⟩ := lineOk_iff.1 (ho i (by omega))
          have hT := hT i (by omega)
          have hw := hw i (by omega)
          have Fl : Fits .i64 ((tk i).length : Int) := fits_of (by omega) (by omega)
          exact SimC.run (B' := [PB s l0 l1 n' (lnF fr tk), .cells (SX 14 (wkP y fr tk (i + 1)))]) g7_ok (by decide) (c2o_go s l0 l1 n' fr tk (wkP y fr tk i) i) (by simp only [allC_append, allC_cons, allC_nil, and_true, frO_ln, tkO_ln, decide_eq_true_eq, decide_eq_false_iff_not, Bool.not_eq_true', Bool.not_eq_false', Int.toNat_natCast, toNat_sub1]; (repeat' first | trivial | assumption | omega | exact fits_of (by omega) (by omega) | rfl | apply And.intro)) (by decide) q2 (by decide) (by simp) hgl
        · exact SimC.weaken (SimC.run (B' := [PB s l0 l1 n' (lnF fr tk), .cells (SX 14 (wkP y fr tk n'))]) g7_ok (by decide) (c2o_end s l0 l1 n' fr tk (wkP y fr tk n') n') (by simp only [allC_append, allC_cons, allC_nil, and_true, frO_ln, tkO_ln, decide_eq_true_eq, decide_eq_false_iff_not, Bool.not_eq_true', Bool.not_eq_false', Int.toNat_natCast, toNat_sub1]; (repeat' first | trivial | assumption | omega | exact fits_of (by omega) (by omega) | rfl | apply And.intro)) (by decide) q2 (by decide) (by simp) hgl) (sub_mkT (by simp; exact ⟨rfl, rfl⟩))
    · simp at hG
  · simp at hG
theorem pk_a (s : ByteArray) (l0 l1 : List Int) (n : Nat) (fr : Nat → Int) (tk : Nat → List Int) : runF g7 900 [.loop 5 bwK 2 (.exit 0) (mkLoopN bwG), .loop 14 c2o 2 (.exit 4) (mkLoopN c2oe), .br true, .br false, .br false] 12 [PA s l0 l1 n (lnF fr tk)] [] [] =
    some (SV.raw Value.nilIface, [], [lnF fr tk = lnF (frO (lnF fr tk)) (tkO (lnF fr tk)), Fits IntKind.i64 (↑n : Int), Fits IntKind.i64 (↑l0.length : Int), Fits IntKind.i64 (↑l1.length : Int), ∀ (i : Nat), i < n → (tkO (lnF fr tk) i).length ≤ (140737488351232 : Nat), shapedR l0 l1 n (frO (lnF fr tk)) (tkO (lnF fr tk)) = true, LoopGood g7 97 bwC bwK 2 (.exit 0) (mkLoopN bwG), [false, false, false, false, false, false, false, false, false, false, false, false, false, false] = List.replicate (14 : Nat) false, aheadR l0 = true, aheadR l1 = true, Fits IntKind.i64 (↑n : Int), LoopGood g7 97 (.loop c2O) c2o 2 (.exit 4) (mkLoopN c2oe), lnF fr tk = lnF (frO (lnF fr tk)) (tkO (lnF fr tk)), Fits IntKind.i64 (↑n : Int), Fits IntKind.i64 (↑l0.length : Int), Fits IntKind.i64 (↑l1.length : Int), ∀ (i : Nat), i < n → (tkO (lnF fr tk) i).length ≤ (140737488351232 : Nat), (↑n : Int) = (↑n : Int), n = n, lnF fr tk = lnF fr tk, allB (lineOk (frO (lnF fr tk)) (tkO (lnF fr tk))) n = true, ∀ (i : Nat), i < n → wkOk (nrm (14 : Nat) (wkP (nrm 14 (begW l0 l1)) (frO (lnF fr tk)) (tkO (lnF fr tk)) i)) (frO (lnF fr tk) i) (tkO (lnF fr tk) i), (0 : Int) ≤ (0 : Int) ∧ (0 : Int) < (↑n : Int), decide ((↑n : Int) = (1 : Int)) = true, Fits IntKind.i64 (↑n : Int), (!decide (fr ((0 : Int)).toNat = (0 : Int))) = false, (!safeW (nrm 14 (wkP (nrm 14 (begW l0 l1)) (frO (lnF fr tk)) (tkO (lnF fr tk)) n)) (0 : Int)) = false, (0 : Int) = (0 : Int) ∨ (0 : Int) = (1 : Int)]) := by kernel_rfl
theorem pk_b (s : ByteArray) (l0 l1 : List Int) (n : Nat) (fr : Nat → Int) (tk : Nat → List Int) : runF g7 900 [.loop 5 bwK 2 (.exit 0) (mkLoopN bwG), .loop 14 c2o 2 (.exit 4) (mkLoopN c2oe), .br true, .br false, .br true, .br false] 12 [PA s l0 l1 n (lnF fr tk)] [] [] =
    some (SV.raw Value.nilIface, [], [lnF fr tk = lnF (frO (lnF fr tk)) (tkO (lnF fr tk)), Fits IntKind.i64 (↑n : Int), Fits IntKind.i64 (↑l0.length : Int), Fits IntKind.i64 (↑l1.length : Int), ∀ (i : Nat), i < n → (tkO (lnF fr tk) i).length ≤ (140737488351232 : Nat), shapedR l0 l1 n (frO (lnF fr tk)) (tkO (lnF fr tk)) = true, LoopGood g7 97 bwC bwK 2 (.exit 0) (mkLoopN bwG), [false, false, false, false, false, false, false, false, false, false, false, false, false, false] = List.replicate (14 : Nat) false, aheadR l0 = true, aheadR l1 = true, Fits IntKind.i64 (↑n : Int), LoopGood g7 97 (.loop c2O) c2o 2 (.exit 4) (mkLoopN c2oe), lnF fr tk = lnF (frO (lnF fr tk)) (tkO (lnF fr tk)), Fits IntKind.i64 (↑n : Int), Fits IntKind.i64 (↑l0.length : Int), Fits IntKind.i64 (↑l1.length : Int), ∀ (i : Nat), i < n → (tkO (lnF fr tk) i).length ≤ (140737488351232 : Nat), (↑n : Int) = (↑n : Int), n = n, lnF fr tk = lnF fr tk, allB (lineOk (frO (lnF fr tk)) (tkO (lnF fr tk))) n = true, ∀ (i : Nat), i < n → wkOk (nrm (14 : Nat) (wkP (nrm 14 (begW l0 l1)) (frO (lnF fr tk)) (tkO (lnF fr tk)) i)) (frO (lnF fr tk) i) (tkO (lnF fr tk) i), (0 : Int) ≤ (0 : Int) ∧ (0 : Int) < (↑n : Int), decide ((↑n : Int) = (1 : Int)) = true, Fits IntKind.i64 (↑n : Int), (1 : Int) = (0 : Int) ∨ (1 : Int) = (1 : Int), (!decide (fr ((0 : Int)).toNat = (0 : Int))) = true, (!safeW (nrm 14 (wkP (nrm 14 (begW l0 l1)) (frO (lnF fr tk)) (tkO (lnF fr tk)) n)) (0 : Int)) = false, (0 : Int) = (0 : Int) ∨ (0 : Int) = (1 : Int), (!safeW (nrm 14 (nrm 14 (wkP (nrm 14 (begW l0 l1)) (frO (lnF fr tk)) (tkO (lnF fr tk)) n))) (1 : Int)) = false]) := by kernel_rfl
theorem pk_c (s : ByteArray) (l0 l1 : List Int) (n : Nat) (fr : Nat → Int) (tk : Nat → List Int) : runF g7 900 [.loop 5 bwK 2 (.exit 0) (mkLoopN bwG), .loop 14 c2o 2 (.exit 4) (mkLoopN c2oe), .br false, .br false, .br false] 12 [PA s l0 l1 n (lnF fr tk)] [] [] =
    some (SV.raw Value.nilIface, [], [lnF fr tk = lnF (frO (lnF fr tk)) (tkO (lnF fr tk)), Fits IntKind.i64 (↑n : Int), Fits IntKind.i64 (↑l0.length : Int), Fits IntKind.i64 (↑l1.length : Int), ∀ (i : Nat), i < n → (tkO (lnF fr tk) i).length ≤ (140737488351232 : Nat), shapedR l0 l1 n (frO (lnF fr tk)) (tkO (lnF fr tk)) = true, LoopGood g7 97 bwC bwK 2 (.exit 0) (mkLoopN bwG), [false, false, false, false, false, false, false, false, false, false, false, false, false, false] = List.replicate (14 : Nat) false, aheadR l0 = true, aheadR l1 = true, Fits IntKind.i64 (↑n : Int), LoopGood g7 97 (.loop c2O) c2o 2 (.exit 4) (mkLoopN c2oe), lnF fr tk = lnF (frO (lnF fr tk)) (tkO (lnF fr tk)), Fits IntKind.i64 (↑n : Int), Fits IntKind.i64 (↑l0.length : Int), Fits IntKind.i64 (↑l1.length : Int), ∀ (i : Nat), i < n → (tkO (lnF fr tk) i).length ≤ (140737488351232 : Nat), (↑n : Int) = (↑n : Int), n = n, lnF fr tk = lnF fr tk, allB (lineOk (frO (lnF fr tk)) (tkO (lnF fr tk))) n = true, ∀ (i : Nat), i < n → wkOk (nrm (14 : Nat) (wkP (nrm 14 (begW l0 l1)) (frO (lnF fr tk)) (tkO (lnF fr tk)) i)) (frO (lnF fr tk) i) (tkO (lnF fr tk) i), decide ((↑n : Int) = (1 : Int)) = false, Fits IntKind.i64 (↑n : Int), (1 : Int) = (0 : Int) ∨ (1 : Int) = (1 : Int), (!safeW (nrm 14 (wkP (nrm 14 (begW l0 l1)) (frO (lnF fr tk)) (tkO (lnF fr tk)) n)) (0 : Int)) = false, (0 : Int) = (0 : Int) ∨ (0 : Int) = (1 : Int), (!safeW (nrm 14 (nrm 14 (wkP (nrm 14 (begW l0 l1)) (frO (lnF fr tk)) (tkO (lnF fr tk)) n))) (1 : Int)) = false]) := by kernel_rfl
/-- the walk and the document's state say one thing -/
def relW (x y : Nat → Bool) : Prop := y 1 = x 0 ∧ y 2 = x 2 ∧ y 4 = x 1 ∧ y 5 = x 3 ∧ y 9 = x 7 ∧ y 10 = x 8 ∧ y 11 = x 9 ∧ y 12 = x 10 ∧ y 13 = x 11
theorem relW_nrm {x y : Nat → Bool} (h : relW x y) : relW (nrm 12 x) (nrm 14 y) := by
  simpa [relW, nrm12, nrm14] using h
theorem relW_safe {x y : Nat → Bool} (h : relW x y) {s : Int} (hs : s = 0 ∨ s = 1) : safeW y s = safeR x s := by
  obtain ⟨h1, h2, h3, h4, h5, h6, h7, h8, h9⟩ := h
  rcases hs with rfl | rfl
  · simp only [safeW, safeR, if_true, h1, h5, h6, h7, h8, h9, Int.toNat_zero]
    cases x 11 <;> cases x 0 <;> cases x 9 <;> cases x 7 <;> cases x 10 <;> cases x 8 <;> rfl
  · simp only [safeW, safeR, show ¬ ((1 : Int) = 0) by decide, if_false, h3, h5, h6, h7, h8, h9, show (1 : Int).toNat = 1 by decide]
    cases x 11 <;> cases x 1 <;> cases x 8 <;> cases x 7 <;> cases x 10 <;> cases x 9 <;> rfl
theorem relW_has {x y : Nat → Bool} (h : relW x y) (t : Int) : hasW y t = hasR x t := by
  obtain ⟨h1, h2, h3, h4, h5, h6, h7, h8, h9⟩ := h
  simp only [hasW, hasR, h1, h2, h3, h4]
theorem setB_eq (x : Nat → Bool) (i j : Nat) : setB x i j = if j = i then true else x j := by
  unfold setB
  by_cases h : j = i
  · subst h; simp
  · rw [if_neg h, show Nat.beq j i = false by cases hb : Nat.beq j i with | false => rfl | true => exact absurd (Nat.eq_of_beq_eq_true hb) h]; rfl
theorem tokE_zero {x : Nat → Bool} {s t : Int} (he : tokE x s t = 0) : t = 7 ∨ (x (tokI s t) = false ∧ (t = 1 ∨ (t = 2 ∧ safeR x s = true) ∨ (¬ t = 1 ∧ ¬ t = 2 ∧ hasR x t = true))) := by
  unfold tokE at he
  by_cases h7 : t = 7
  · exact .inl h7
  rw [if_neg h7] at he
  cases hx : x (tokI s t) with
  | true => rw [hx] at he; simp at he
  | false =>
    rw [hx] at he
    simp only [Bool.false_eq_true, if_false] at he
    by_cases h1 : t = 1
    · exact .inr ⟨rfl, .inl h1⟩
    rw [if_neg h1] at he
    by_cases h2 : t = 2
    · rw [if_pos h2] at he
      cases hs : safeR x s with
      | true => exact .inr ⟨rfl, .inr (.inl ⟨h2, rfl⟩)⟩
      | false => rw [hs] at he; simp at he
    rw [if_neg h2] at he
    cases hs : hasR x t with
    | true => exact .inr ⟨rfl, .inr (.inr ⟨h1, h2, rfl⟩)⟩
    | false => rw [hs] at he; simp at he
theorem relW_tok {x y : Nat → Bool} (h : relW x y) {s t : Int} (hs : s = 0 ∨ s = 1) (h1 : 1 ≤ t) (h7 : t ≤ 7) (he : tokE x s t = 0) : takOk y s t = true ∧ relW (tokX x s t) (takX y s t) := by
  have hsafe := relW_safe h hs
  have hhas := relW_has h t
  have ht : t = 1 ∨ t = 2 ∨ t = 3 ∨ t = 4 ∨ t = 5 ∨ t = 6 ∨ t = 7 := by omega
  obtain ⟨q1, q2, q3, q4, q5, q6, q7, q8, q9⟩ := h
  rw [show tokX x s t = setB x (tokI s t) by unfold tokX; rw [if_pos he]]
  have hz := tokE_zero he
  unfold takOk
  rw [hsafe, hhas]
  clear hsafe hhas he h1 h7
  rcases hs with rfl | rfl <;> rcases ht with rfl | rfl | rfl | rfl | rfl | rfl | rfl <;>
    simp [tokI] at hz <;> simp [relW, takX, keyI, setB_eq, tokI, q1, q2, q3, q4, q5, q6, q7, q8, q9, hz]
theorem relW_line {x y : Nat → Bool} (h : relW x y) {s : Int} {l : List Int} (hs : s = 0 ∨ s = 1) (ht : tksB l = true) (he : tkErr x s l l.length = 0) : ∀ k, k ≤ l.length → relW (stL x s l k) (wkL y s l k)
  | 0, _ => h
  | k + 1, hk => by
    unfold tksB at ht
    have h1 := tkB_iff.1 (allB_iff.1 ht k (by omega))
    exact (relW_tok (relW_nrm (relW_line h hs (by unfold tksB; exact ht) he k (by omega))) hs h1.1 h1.2 (errTo_zero he k (by omega))).2
theorem relW_ok {x y : Nat → Bool} (h : relW x y) {s : Int} {l : List Int} (hs : s = 0 ∨ s = 1) (ht : tksB l = true) (he : tkErr x s l l.length = 0) (hf : safeR (nrm 12 (stL x s l l.length)) s = true) : wkOk y s l := fun k hk => by
  have ht' := ht
  unfold tksB at ht'
  have h1 := tkB_iff.1 (allB_iff.1 ht' k (by omega))
  have h2 := relW_tok (relW_nrm (relW_line h hs ht he k (by omega))) hs h1.1 h1.2 (errTo_zero he k (by omega))
  refine ⟨h2.1, fun hl => ?_⟩
  have hl : k + 1 = l.length := by omega
  rw [safe_nrm _ hs, ← hl] at hf
  rw [relW_safe h2.2 hs]
  exact hf
theorem lnErr_zero {x : Nat → Bool} {fr : Nat → Int} {tk : Nat → List Int} {i : Nat} (he : lnErr x fr tk i = 0) : tkErr (nrm 12 (stP x fr tk i)) (fr i) (tk i) (tk i).length = 0 ∧ safeR (nrm 12 (stP x fr tk (i + 1))) (fr i) = true := by
  unfold lnErr at he
  split at he
  · rename_i h1
    split at he
    · rename_i h2; exact ⟨h1, h2⟩
    · exact absurd he (by decide)
  · rename_i h1; exact absurd he h1
theorem relW_lines {x y : Nat → Bool} (h : relW x y) {n : Nat} {fr : Nat → Int} {tk : Nat → List Int} (ho : ∀ i, i < n → lineOk fr tk i = true) (he : ckErr x fr tk n = 0) : ∀ i, i ≤ n → relW (stP x fr tk i) (wkP y fr tk i)
  | 0, _ => h
  | i + 1, hi => by
    obtain ⟨hfr, hal, hne, hs, htk⟩ := lineOk_iff.1 (ho i (by omega))
    exact relW_line (relW_nrm (relW_lines h ho he i (by omega))) hfr htk (lnErr_zero (errTo_zero he i (by omega))).1 _ (Nat.le_refl _)
theorem relW_oks {x y : Nat → Bool} (h : relW x y) {n : Nat} {fr : Nat → Int} {tk : Nat → List Int} (ho : ∀ i, i < n → lineOk fr tk i = true) (he : ckErr x fr tk n = 0) (i : Nat) (hi : i < n) : wkOk (nrm 14 (wkP y fr tk i)) (fr i) (tk i) := by
  obtain ⟨hfr, hal, hne, hs, htk⟩ := lineOk_iff.1 (ho i hi)
  obtain ⟨h1, h2⟩ := lnErr_zero (errTo_zero he i hi)
  exact relW_ok (relW_nrm (relW_lines h ho he i (by omega))) hfr htk h1 h2
theorem relW_beg (l0 l1 : List Int) : relW (ck0 l0 l1) (nrm 14 (begW l0 l1)) := relW_nrm (x := begR l0 l1) ⟨rfl, rfl, rfl, rfl, rfl, rfl, rfl, rfl, rfl⟩
def F12 : SumF := fun args B => match args, B with
  | [.agg [.raw (.string s), .roi .i64 l0, .roi .i64 l1, .ro 2 n f]], [] => some { val := .raw .nilIface, C := pC l0 l1 n f ++ [ckR l0 l1 n (frO f) (tkO f) = 0] }
  | _, _ => none
theorem acc12 : Acc g7 12 F12 := by
  intro args B out h hC
  unfold F12 at h
  split at h
  · rename_i s l0 l1 n f
    simp only [Option.some.injEq] at h; subst h
    simp only [pC, allC_append, allC_cons, allC_nil, and_true] at hC
    obtain ⟨⟨hf, Fn, Fl0, Fl1, hT⟩, hck⟩ := hC
    generalize frO f = fr at *
    generalize tkO f = tk at *
    subst hf
    obtain ⟨hsh, he, s0, s1⟩ := ckR_zero hck
    obtain ⟨ha0, ha1, hn, ho⟩ := shaped_iff.1 hsh
    have hb := bw_loop
    have hc := c2o_e
    have hR := relW_beg l0 l1
    have ho' := allB_iff.1 ho
    have hw := relW_oks hR ho' he
    have hE := relW_lines hR ho' he n (Nat.le_refl _)
    have hn0 : (0 : Int) < (n : Int) := by omega
    have hr : [false, false, false, false, false, false, false, false, false, false, false, false, false, false] = List.replicate 14 false := rfl
    have e0 : safeW (nrm 14 (wkP (nrm 14 (begW l0 l1)) fr tk n)) 0 = true := by rw [relW_safe (relW_nrm hE) (.inl rfl)]; exact s0
    have e1 : oneR n fr = true ∨ safeW (nrm 14 (nrm 14 (wkP (nrm 14 (begW l0 l1)) fr tk n))) 1 = true := s1.imp id fun s1 => by
      rw [safeW_nrm _ (.inr rfl), relW_safe (relW_nrm hE) (.inr rfl)]; exact s1
    by_cases h1 : (n : Int) = 1
    · by_cases hf0 : fr 0 = 0
      · exact FnOk.val (C := []) (rd := []) (FnOk.pure g7_ok (pk_a s l0 l1 n fr tk) (by simp only [allC_append, allC_cons, allC_nil, and_true, frO_ln, tkO_ln, decide_eq_true_eq, decide_eq_false_iff_not, Bool.not_eq_true', Bool.not_eq_false', Int.toNat_zero, Int.toNat_natCast, toNat_sub1]; (repeat' first | trivial | assumption | omega | exact fits_of (by omega) (by omega) | rfl | apply And.intro))) (DenImp.refl _)
      · have e1 := e1.resolve_left (by simp [oneR, hf0])
        exact FnOk.val (C := []) (rd := []) (FnOk.pure g7_ok (pk_b s l0 l1 n fr tk) (by simp only [allC_append, allC_cons, allC_nil, and_true, frO_ln, tkO_ln, decide_eq_true_eq, decide_eq_false_iff_not, Bool.not_eq_true', Bool.not_eq_false', Int.toNat_zero, Int.toNat_natCast, toNat_sub1]; (repeat' first | trivial | assumption | omega | exact fits_of (by omega) (by omega) | rfl | apply And.intro))) (DenImp.refl _)
    · have e1 := e1.resolve_left (by simp only [oneR, h1, decide_false, Bool.false_and]; decide)
      exact FnOk.val (C := []) (rd := []) (FnOk.pure g7_ok (pk_c s l0 l1 n fr tk) (by simp only [allC_append, allC_cons, allC_nil, and_true, frO_ln, tkO_ln, decide_eq_true_eq, decide_eq_false_iff_not, Bool.not_eq_true', Bool.not_eq_false', Int.toNat_zero, Int.toNat_natCast, toNat_sub1]; (repeat' first | trivial | assumption | omega | exact fits_of (by omega) (by omega) | rfl | apply And.intro))) (DenImp.refl _)
  · simp at h
noncomputable abbrev g8 : Ctx := g7.add [(12, F12)]
theorem g8_ok : CtxU g8 := g7_ok.add mixed noGo (by
  intro x hx
  simp only [List.mem_cons, List.not_mem_nil, or_false] at hx
  rcases hx with rfl
  exact acc12)
end Go.Proofs.Tryd

namespace Go.Proofs.Tryd
open Go Go.Vx
/-! ### flag F13, grade F14 -/
def flagN (t : Int) : Int := if t = 3 then 1 else if t = 4 then 2 else if t = 5 then 4 else if t = 6 then 8 else 0
theorem fl1 : runF g8 400 [] 13 [.lit .i64 1] [] [] = some (.lit .u64 (flagN 1), [], []) := by kernel_rfl
theorem fl2 : runF g8 400 [] 13 [.lit .i64 2] [] [] = some (.lit .u64 (flagN 2), [], []) := by kernel_rfl
theorem fl3 : runF g8 400 [] 13 [.lit .i64 3] [] [] = some (.lit .u64 (flagN 3), [], []) := by kernel_rfl
theorem fl4 : runF g8 400 [] 13 [.lit .i64 4] [] [] = some (.lit .u64 (flagN 4), [], []) := by kernel_rfl
theorem fl5 : runF g8 400 [] 13 [.lit .i64 5] [] [] = some (.lit .u64 (flagN 5), [], []) := by kernel_rfl
theorem fl6 : runF g8 400 [] 13 [.lit .i64 6] [] [] = some (.lit .u64 (flagN 6), [], []) := by kernel_rfl
theorem fl7 : runF g8 400 [] 13 [.lit .i64 7] [] [] = some (.lit .u64 (flagN 7), [], []) := by kernel_rfl
def F13 : SumF := fun args B => match args, B with
  | [.int .i64 t], [] => some { val := .int .u64 (flagN t), C := [1 ≤ t ∧ t ≤ 7] }
  | _, _ => none
theorem acc13 : Acc g8 13 F13 := by
  intro args B out h hC
  unfold F13 at h
  split at h
  · rename_i t
    simp only [Option.some.injEq] at h; subst h
    simp only [allC_cons, allC_nil, and_true] at hC
    have ht : t = 1 ∨ t = 2 ∨ t = 3 ∨ t = 4 ∨ t = 5 ∨ t = 6 ∨ t = 7 := by omega
    rcases ht with rfl | rfl | rfl | rfl | rfl | rfl | rfl
    · exact FnOk.val (C := []) (rd := []) (FnOk.imp (FnOk.pure g8_ok fl1 (allC_nil.2 trivial)) ⟨lit_imp (fits_small (by decide) (by decide)), trivial⟩) (i_lit _ _)
    · exact FnOk.val (C := []) (rd := []) (FnOk.imp (FnOk.pure g8_ok fl2 (allC_nil.2 trivial)) ⟨lit_imp (fits_small (by decide) (by decide)), trivial⟩) (i_lit _ _)
    · exact FnOk.val (C := []) (rd := []) (FnOk.imp (FnOk.pure g8_ok fl3 (allC_nil.2 trivial)) ⟨lit_imp (fits_small (by decide) (by decide)), trivial⟩) (i_lit _ _)
    · exact FnOk.val (C := []) (rd := []) (FnOk.imp (FnOk.pure g8_ok fl4 (allC_nil.2 trivial)) ⟨lit_imp (fits_small (by decide) (by decide)), trivial⟩) (i_lit _ _)
    · exact FnOk.val (C := []) (rd := []) (FnOk.imp (FnOk.pure g8_ok fl5 (allC_nil.2 trivial)) ⟨lit_imp (fits_small (by decide) (by decide)), trivial⟩) (i_lit _ _)
    · exact FnOk.val (C := []) (rd := []) (FnOk.imp (FnOk.pure g8_ok fl6 (allC_nil.2 trivial)) ⟨lit_imp (fits_small (by decide) (by decide)), trivial⟩) (i_lit _ _)
    · exact FnOk.val (C := []) (rd := []) (FnOk.imp (FnOk.pure g8_ok fl7 (allC_nil.2 trivial)) ⟨lit_imp (fits_small (by decide) (by decide)), trivial⟩) (i_lit _ _)
  · simp at h
def bitG (d f : Int) : Bool := !(Nat.beq (d.toNat &&& f.toNat) 0)
def srcG (d s : Int) : Int := if bitG d (if s = 1 then 2 else 4) = true then 2 else if bitG d 8 = true then 1 else 0
def dstG (d s r : Int) : Int :=
  if bitG d (if s = 1 then 4 else 2) = true then (if bitG d 1 = true then (if r = 2 then 5 else if r = 1 then 4 else 3) else 2) else if bitG d 1 = true then 1 else 0
def mxG (a b : Int) : Int := if a < b then b else a
theorem gr0 (d r : Nat) (hd : d < 16) (hr : r < 3) (a : Int) : runF g8 400 [] 14 [.ptr 0 0, .lit .i64 0] [.cells [.lit .u64 (d : Int), .int .i64 a, .lit .i64 (r : Int)]] [] =
    some (.agg [.lit .i64 0, .lit .i64 (srcG d 0), .lit .i64 (dstG d 0 r)], [some (.cells [.lit .u64 (d : Int), .int .i64 (mxG a (srcG d 0)), .lit .i64 (r : Int)])], []) := by
  have h1 : d = 0 ∨ d = 1 ∨ d = 2 ∨ d = 3 ∨ d = 4 ∨ d = 5 ∨ d = 6 ∨ d = 7 ∨ d = 8 ∨ d = 9 ∨ d = 10 ∨ d = 11 ∨ d = 12 ∨ d = 13 ∨ d = 14 ∨ d = 15 := by omega
  have h2 : r = 0 ∨ r = 1 ∨ r = 2 := by omega
  clear hd hr
  rcases h1 with rfl | rfl | rfl | rfl | rfl | rfl | rfl | rfl | rfl | rfl | rfl | rfl | rfl | rfl | rfl | rfl <;> rcases h2 with rfl | rfl | rfl <;> (show _ = _; kernel_rfl)
theorem gr1 (d r : Nat) (hd : d < 16) (hr : r < 3) (a : Int) : runF g8 400 [] 14 [.ptr 0 0, .lit .i64 1] [.cells [.lit .u64 (d : Int), .lit .i64 (r : Int), .int .i64 a]] [] =
    some (.agg [.lit .i64 1, .lit .i64 (srcG d 1), .lit .i64 (dstG d 1 r)], [some (.cells [.lit .u64 (d : Int), .lit .i64 (r : Int), .int .i64 (mxG a (srcG d 1))])], []) := by
  have h1 : d = 0 ∨ d = 1 ∨ d = 2 ∨ d = 3 ∨ d = 4 ∨ d = 5 ∨ d = 6 ∨ d = 7 ∨ d = 8 ∨ d = 9 ∨ d = 10 ∨ d = 11 ∨ d = 12 ∨ d = 13 ∨ d = 14 ∨ d = 15 := by omega
  have h2 : r = 0 ∨ r = 1 ∨ r = 2 := by omega
  clear hd hr
  rcases h1 with rfl | rfl | rfl | rfl | rfl | rfl | rfl | rfl | rfl | rfl | rfl | rfl | rfl | rfl | rfl | rfl <;> rcases h2 with rfl | rfl | rfl <;> (show _ = _; kernel_rfl)
abbrev TB (d a b : Int) : Body := .cells [.int .u64 d, .int .i64 a, .int .i64 b]
def shA (d a s : Int) : Int := if s = 0 then mxG a (srcG d 0) else a
def shB (d b s : Int) : Int := if s = 0 then b else mxG b (srcG d 1)
def rvG (a b s : Int) : Int := if s = 0 then b else a
abbrev rowG (d a b s : Int) : List Int := [s, srcG d s, dstG d s (rvG a b s)]
def F14 : SumF := fun args B => match args, B with
  | [.ptr 0 0, .int .i64 s], [.cells [.int .u64 d, .int .i64 a, .int .i64 b]] => some { val := .agg [.int .i64 s, .int .i64 (srcG d s), .int .i64 (dstG d s (rvG a b s))], upd := [(0, some (TB d (shA d a s) (shB d b s)))], reads := [0], C := [s = 0 ∨ s = 1, 0 ≤ d ∧ d < 16, 0 ≤ a ∧ a < 3, 0 ≤ b ∧ b < 3] }
  | _, _ => none
theorem tb_imp {cs ds : List SV} (h : ImpL cs ds) (hf : flatL cs) : BImpL [.cells cs] [.cells ds] := ⟨⟨.cells h, fun l e => by injection e with e; subst e; exact hf⟩, trivial⟩
def mkNum2 (l : Bool) (k : IntKind) (n : Int) : SV := match l with | true => .lit k n | false => .int k n
theorem flat3 {k1 k2 k3 : IntKind} {a b c : Int} {p q r : Bool} : flatL [mkNum2 p k1 a, mkNum2 q k2 b, mkNum2 r k3 c] := fun x hx => by
  simp only [List.mem_cons, List.not_mem_nil, or_false] at hx
  rcases hx with rfl | rfl | rfl <;> (unfold mkNum2; split <;> rfl)
theorem acc14 : Acc g8 14 F14 := by
  intro args B out h hC
  unfold F14 at h
  split at h
  · rename_i s d a b
    simp only [Option.some.injEq] at h; subst h
    simp only [allC_cons, allC_nil, and_true] at hC
    obtain ⟨hs, hd, ha, hb⟩ := hC
    obtain ⟨d, rfl⟩ := Int.eq_ofNat_of_zero_le hd.1
    obtain ⟨a, rfl⟩ := Int.eq_ofNat_of_zero_le ha.1
    obtain ⟨b, rfl⟩ := Int.eq_ofNat_of_zero_le hb.1
    rcases hs with rfl | rfl
    · refine FnOk.preB (B' := [.cells [.lit .u64 (d : Int), .int .i64 (a : Int), .lit .i64 (b : Int)]]) ?_ (tb_imp ⟨DenImp.lit, DenImp.refl _, DenImp.lit, trivial⟩ (flat3 (p := false) (q := false) (r := false))) (fun j => by
        match j with
        | 0 => rfl
        | j + 1 => simp [afterH, newH, newAll, updAll, upH, BH])
      exact FnOk.post1 (FnOk.val (C := []) (rd := []) (FnOk.imp (run1 g8_ok (gr0 d b (by omega) (by omega) a) (allC_nil.2 trivial)) ⟨DenImp.refl _, DenImp.lit, trivial⟩) (agg_imp (cs := [.lit .i64 0, .lit .i64 (srcG d 0), .lit .i64 (dstG d 0 b)]) (ds := [.int .i64 0, .int .i64 (srcG d 0), .int .i64 (dstG d 0 b)]) ⟨i_lit _ _, i_lit _ _, i_lit _ _, trivial⟩ (flat3 (p := true) (q := true) (r := true)))) (tb_imp ⟨i_lit _ _, DenImp.refl _, i_lit _ _, trivial⟩ (flat3 (p := true) (q := false) (r := true)))
    · refine FnOk.preB (B' := [.cells [.lit .u64 (d : Int), .lit .i64 (a : Int), .int .i64 (b : Int)]]) ?_ (tb_imp ⟨DenImp.lit, DenImp.lit, DenImp.refl _, trivial⟩ (flat3 (p := false) (q := false) (r := false))) (fun j => by
        match j with
        | 0 => rfl
        | j + 1 => simp [afterH, newH, newAll, updAll, upH, BH])
      exact FnOk.post1 (FnOk.val (C := []) (rd := []) (FnOk.imp (run1 g8_ok (gr1 d a (by omega) (by omega) b) (allC_nil.2 trivial)) ⟨DenImp.refl _, DenImp.lit, trivial⟩) (agg_imp (cs := [.lit .i64 1, .lit .i64 (srcG d 1), .lit .i64 (dstG d 1 a)]) (ds := [.int .i64 1, .int .i64 (srcG d 1), .int .i64 (dstG d 1 a)]) ⟨i_lit _ _, i_lit _ _, i_lit _ _, trivial⟩ (flat3 (p := true) (q := true) (r := true)))) (tb_imp ⟨i_lit _ _, i_lit _ _, DenImp.refl _, trivial⟩ (flat3 (p := true) (q := true) (r := false)))
  · simp at h
noncomputable abbrev g9 : Ctx := g8.add [(13, F13), (14, F14)]
theorem g9_ok : CtxU g9 := g8_ok.add mixed noGo (by
  intro x hx
  simp only [List.mem_cons, List.not_mem_nil, or_false] at hx
  rcases hx with rfl | rfl
  · exact acc13
  · exact acc14)
end Go.Proofs.Tryd
