/- Accounts of this seat's functions: lemmas, no statement of their own. No conditions. -/
import Derived.Test.YtdndpfaapnecjaaDoorTI
namespace Go.Proofs.Tryd
open Go Go.Vx
/-! ### the program's shaped, of a pattern of the right shape: F18 -/
noncomputable abbrev g6 : Ctx := g5.add [(19, F19)]
theorem g6_ok : CtxU g6 := g5_ok.add mixed noGo (by
  intro x hx
  simp only [List.mem_cons, List.not_mem_nil, or_false] at hx
  rcases hx with rfl
  exact acc19)
abbrev h8i : List Nat := [1, 3, 5, 27, 28, 29, 65, 66, 67]
noncomputable abbrev h8I : Code := bodyAt Tryd.prog 18 10
abbrev h8J (n : Nat) (f : Nat → SV) (l : List Int) (a i k : Int) : List SV := [.ptr 0 0, .int .i64 a, .ptr 1 0, .ro 2 n f, .int .i64 n, .int .i64 i, .roi .i64 l, .int .i64 l.length, .int .i64 k]
abbrev h8B (s : ByteArray) (l0 l1 : List Int) (n : Nat) (f : Nat → SV) (v : Int) (l : List Int) : List Body := [PB s l0 l1 n f, LnB v l]
theorem h8j_go (s : ByteArray) (l0 l1 : List Int) (n n' : Nat) (f f' : Nat → SV) (v : Int) (l l' : List Int) (a i k : Int) : runC g6 400 86 [.br true, .br false, .br false] h8I (h8i.zip (h8J n f l a i k)) [PB s l0 l1 n' f', LnB v l'] h8i [0, 1] =
    some (Ex.normal, [SV.ptr (0 : Nat) (0 : Nat), SV.int IntKind.i64 a, SV.ptr (1 : Nat) (0 : Nat), SV.ro (2 : Nat) n f, SV.int IntKind.i64 (↑n : Int), SV.int IntKind.i64 i, SV.roi IntKind.i64 l, SV.int IntKind.i64 (↑l.length : Int), SV.int IntKind.i64 (k + (1 : Int))], [some (Body.cells [SV.raw (Value.string s), SV.roi IntKind.i64 l0, SV.roi IntKind.i64 l1, SV.ro (2 : Nat) n' f']), some (Body.cells [SV.int IntKind.i64 v, SV.roi IntKind.i64 l'])], [decide (k < (↑l.length : Int)) = true, (0 : Int) ≤ k ∧ k < (↑l.length : Int), decide (l.getD k.toNat (0 : Int) < (1 : Int)) = false, decide ((7 : Int) < l.getD k.toNat (0 : Int)) = false, Fits IntKind.i64 (k + (1 : Int))]) := by kernel_rfl
theorem h8j_end (s : ByteArray) (l0 l1 : List Int) (n n' : Nat) (f f' : Nat → SV) (v : Int) (l l' : List Int) (a i k : Int) : runC g6 400 86 [.br false] h8I (h8i.zip (h8J n f l a i k)) [PB s l0 l1 n' f', LnB v l'] [1, 3, 5, 27, 28, 29] [0, 1] =
    some (Ex.exit (2 : Nat), [SV.ptr (0 : Nat) (0 : Nat), SV.int IntKind.i64 a, SV.ptr (1 : Nat) (0 : Nat), SV.ro (2 : Nat) n f, SV.int IntKind.i64 (↑n : Int), SV.int IntKind.i64 i], [some (Body.cells [SV.raw (Value.string s), SV.roi IntKind.i64 l0, SV.roi IntKind.i64 l1, SV.ro (2 : Nat) n' f']), some (Body.cells [SV.int IntKind.i64 v, SV.roi IntKind.i64 l'])], [decide (k < (↑l.length : Int)) = false]) := by kernel_rfl
noncomputable def h8ie : LoopF := fun vals B => match vals, B with
  | [.ptr 0 0, .int .i64 a, .ptr 1 0, .ro 2 n f, .int .i64 N, .int .i64 i, .roi .i64 l, .int .i64 m, .int .i64 0], [.cells [.raw (.string s), .roi .i64 l0, .roi .i64 l1, .ro 2 n' f'], .cells [.int .i64 v, .roi .i64 l']] => some ([(1, .ptr 0 0), (3, .int .i64 a), (5, .ptr 1 0), (27, .ro 2 n f), (28, .int .i64 N), (29, .int .i64 i)], [PB s l0 l1 n' f', LnB v l'], [N = n, m = l.length, Fits .i64 (l.length : Int), tksB l = true])
  | _, _ => none
theorem h8i_e : LoopGood g6 86 (.loop h8I) h8i 2 (.exit 2) (mkLoopN h8ie) := by
  refine LoopGood.mkN (by decide) fun vals B S' B' C hG hC hlen w0 O hgl => ?_
  clear hlen
  unfold h8ie at hG
  split at hG
  · rename_i a n f N i l m s l0 l1 n' f' v l'
    simp only [Option.some.injEq, Prod.mk.injEq] at hG
    obtain ⟨rfl, rfl, rfl⟩ := hG
    simp only [allC_cons, allC_nil, and_true] at hC
    obtain ⟨rfl, rfl, F, ht⟩ := hC
    have F' := fits_int F
    unfold tksB at ht
    have ht := allB_iff.1 ht
    · refine SimC.iter (g := g6) (e := .exit 2) (S := fun k => h8i.zip [.ptr 0 0, .int .i64 a, .ptr 1 0, .ro 2 n f, .int .i64 n, .int .i64 i, .roi .i64 l, .int .i64 l.length, .int .i64 (k : Int)]) (B := fun _ => [PB s l0 l1 n' f', LnB v l']) (N := l.length) (fun k hk => ?_) ?_ (by simp) 0 (by omega)
      · have ht := tkB_iff.1 (ht k (by omega))
        exact SimC.run (B' := [PB s l0 l1 n' f', LnB v l']) g6_ok (by decide) (h8j_go s l0 l1 n n' f f' v l l' a i (k : Int)) (by simp only [allC_append, allC_cons, allC_nil, and_true, frO_ln, tkO_ln, decide_eq_true_eq, decide_eq_false_iff_not, Bool.not_eq_true', Bool.not_eq_false', Int.toNat_natCast, toNat_sub1]; (repeat' first | trivial | assumption | omega | exact fits_of (by omega) (by omega) | rfl | apply And.intro)) (by decide) q2 (by decide) (by simp) hgl
      · exact SimC.weaken (SimC.run (B' := [PB s l0 l1 n' f', LnB v l']) g6_ok (by decide) (h8j_end s l0 l1 n n' f f' v l l' a i (l.length : Int)) (by simp only [allC_append, allC_cons, allC_nil, and_true, frO_ln, tkO_ln, decide_eq_true_eq, decide_eq_false_iff_not, Bool.not_eq_true', Bool.not_eq_false', Int.toNat_natCast, toNat_sub1]; (repeat' first | trivial | assumption | omega | exact fits_of (by omega) (by omega) | rfl | apply And.intro)) (by decide) q2 (by decide) (by simp) hgl) (sub_mkT (by simp; exact ⟨rfl, rfl, rfl, rfl, rfl, rfl⟩))
  · simp at hG
abbrev h8o : List Nat := [1, 3, 27, 28, 29]
noncomputable abbrev h8O : Code := bodyAt Tryd.prog 18 5
abbrev h8V (n : Nat) (f : Nat → SV) (a i : Int) : List SV := [.ptr 0 0, .int .i64 a, .ro 2 n f, .int .i64 n, .int .i64 i]
theorem h8o_go0 (s : ByteArray) (l0 l1 : List Int) (n : Nat) (fr : Nat → Int) (tk : Nat → List Int) (a : Int) (i : Nat) : runC g6 900 86 [.br true, .br false, .br false, .br false, .loop 10 h8i 2 (.exit 2) (mkLoopN h8ie), .br false] h8O (h8o.zip (h8V n (lnF fr tk) a (i : Int))) [PB s l0 l1 n (lnF fr tk)] h8o [0] =
    some (Ex.normal, [SV.ptr (0 : Nat) (0 : Nat), SV.int IntKind.i64 (a + (↑(tk i).length : Int)), SV.ro (2 : Nat) n (lnF fr tk), SV.int IntKind.i64 (↑n : Int), SV.int IntKind.i64 ((↑i : Int) + (1 : Int))], [some (Body.cells [SV.raw (Value.string s), SV.roi IntKind.i64 l0, SV.roi IntKind.i64 l1, SV.ro (2 : Nat) n (lnF fr tk)])], [decide ((↑i : Int) < (↑n : Int)) = true, (0 : Int) ≤ (↑i : Int) ∧ (↑i : Int) < (↑n : Int), Fits IntKind.i64 (↑(tk i).length : Int), decide ((0 : Int) < (↑i : Int)) = false, (!decide (fr (↑i : Int).toNat = (0 : Int))) = false, decide ((↑(tk (↑i : Int).toNat).length : Int) = (0 : Int)) = false, Fits IntKind.i64 (↑(tk i).length : Int), LoopGood g6 86 (.loop h8I) h8i 2 (.exit 2) (mkLoopN h8ie), (↑n : Int) = (↑n : Int), (↑(tk i).length : Int) = (↑(tk i).length : Int), Fits IntKind.i64 (↑(tk i).length : Int), tksB (tk i) = true, Fits IntKind.i64 (a + (↑(tk i).length : Int)), Fits IntKind.i64 (↑(tk i).length : Int), decide ((24 : Int) < a + (↑(tk (↑i : Int).toNat).length : Int)) = false, Fits IntKind.i64 ((↑i : Int) + (1 : Int))]) := by kernel_rfl
theorem h8o_go1 (s : ByteArray) (l0 l1 : List Int) (n : Nat) (fr : Nat → Int) (tk : Nat → List Int) (a : Int) (i : Nat) : runC g6 900 86 [.br true, .br false, .br true, .br false, .br false, .loop 10 h8i 2 (.exit 2) (mkLoopN h8ie), .br false] h8O (h8o.zip (h8V n (lnF fr tk) a (i : Int))) [PB s l0 l1 n (lnF fr tk)] h8o [0] =
    some (Ex.normal, [SV.ptr (0 : Nat) (0 : Nat), SV.int IntKind.i64 (a + (↑(tk i).length : Int)), SV.ro (2 : Nat) n (lnF fr tk), SV.int IntKind.i64 (↑n : Int), SV.int IntKind.i64 ((↑i : Int) + (1 : Int))], [some (Body.cells [SV.raw (Value.string s), SV.roi IntKind.i64 l0, SV.roi IntKind.i64 l1, SV.ro (2 : Nat) n (lnF fr tk)])], [decide ((↑i : Int) < (↑n : Int)) = true, (0 : Int) ≤ (↑i : Int) ∧ (↑i : Int) < (↑n : Int), Fits IntKind.i64 (↑(tk i).length : Int), decide (fr (↑i : Int).toNat = fr ((↑i : Int) - (1 : Int)).toNat) = false, (0 : Int) ≤ (↑i : Int) - (1 : Int) ∧ (↑i : Int) - (1 : Int) < (↑n : Int), Fits IntKind.i64 ((↑i : Int) - (1 : Int)), decide ((0 : Int) < (↑i : Int)) = true, (!decide (fr (↑i : Int).toNat = (0 : Int))) = false, decide ((↑(tk (↑i : Int).toNat).length : Int) = (0 : Int)) = false, Fits IntKind.i64 (↑(tk i).length : Int), LoopGood g6 86 (.loop h8I) h8i 2 (.exit 2) (mkLoopN h8ie), (↑n : Int) = (↑n : Int), (↑(tk i).length : Int) = (↑(tk i).length : Int), Fits IntKind.i64 (↑(tk i).length : Int), tksB (tk i) = true, Fits IntKind.i64 (a + (↑(tk i).length : Int)), Fits IntKind.i64 (↑(tk i).length : Int), decide ((24 : Int) < a + (↑(tk (↑i : Int).toNat).length : Int)) = false, Fits IntKind.i64 ((↑i : Int) + (1 : Int))]) := by kernel_rfl
theorem h8o_go2 (s : ByteArray) (l0 l1 : List Int) (n : Nat) (fr : Nat → Int) (tk : Nat → List Int) (a : Int) (i : Nat) : runC g6 900 86 [.br true, .br true, .br false, .br false, .br false, .loop 10 h8i 2 (.exit 2) (mkLoopN h8ie), .br false] h8O (h8o.zip (h8V n (lnF fr tk) a (i : Int))) [PB s l0 l1 n (lnF fr tk)] h8o [0] =
    some (Ex.normal, [SV.ptr (0 : Nat) (0 : Nat), SV.int IntKind.i64 (a + (↑(tk i).length : Int)), SV.ro (2 : Nat) n (lnF fr tk), SV.int IntKind.i64 (↑n : Int), SV.int IntKind.i64 ((↑i : Int) + (1 : Int))], [some (Body.cells [SV.raw (Value.string s), SV.roi IntKind.i64 l0, SV.roi IntKind.i64 l1, SV.ro (2 : Nat) n (lnF fr tk)])], [decide ((↑i : Int) < (↑n : Int)) = true, (0 : Int) ≤ (↑i : Int) ∧ (↑i : Int) < (↑n : Int), Fits IntKind.i64 (↑(tk i).length : Int), decide ((0 : Int) < (↑i : Int)) = false, (!decide (fr (↑i : Int).toNat = (1 : Int))) = false, (!decide (fr (↑i : Int).toNat = (0 : Int))) = true, decide ((↑(tk (↑i : Int).toNat).length : Int) = (0 : Int)) = false, Fits IntKind.i64 (↑(tk i).length : Int), LoopGood g6 86 (.loop h8I) h8i 2 (.exit 2) (mkLoopN h8ie), (↑n : Int) = (↑n : Int), (↑(tk i).length : Int) = (↑(tk i).length : Int), Fits IntKind.i64 (↑(tk i).length : Int), tksB (tk i) = true, Fits IntKind.i64 (a + (↑(tk i).length : Int)), Fits IntKind.i64 (↑(tk i).length : Int), decide ((24 : Int) < a + (↑(tk (↑i : Int).toNat).length : Int)) = false, Fits IntKind.i64 ((↑i : Int) + (1 : Int))]) := by kernel_rfl
theorem h8o_go3 (s : ByteArray) (l0 l1 : List Int) (n : Nat) (fr : Nat → Int) (tk : Nat → List Int) (a : Int) (i : Nat) : runC g6 900 86 [.br true, .br true, .br false, .br true, .br false, .br false, .loop 10 h8i 2 (.exit 2) (mkLoopN h8ie), .br false] h8O (h8o.zip (h8V n (lnF fr tk) a (i : Int))) [PB s l0 l1 n (lnF fr tk)] h8o [0] =
    some (Ex.normal, [SV.ptr (0 : Nat) (0 : Nat), SV.int IntKind.i64 (a + (↑(tk i).length : Int)), SV.ro (2 : Nat) n (lnF fr tk), SV.int IntKind.i64 (↑n : Int), SV.int IntKind.i64 ((↑i : Int) + (1 : Int))], [some (Body.cells [SV.raw (Value.string s), SV.roi IntKind.i64 l0, SV.roi IntKind.i64 l1, SV.ro (2 : Nat) n (lnF fr tk)])], [decide ((↑i : Int) < (↑n : Int)) = true, (0 : Int) ≤ (↑i : Int) ∧ (↑i : Int) < (↑n : Int), Fits IntKind.i64 (↑(tk i).length : Int), decide (fr (↑i : Int).toNat = fr ((↑i : Int) - (1 : Int)).toNat) = false, (0 : Int) ≤ (↑i : Int) - (1 : Int) ∧ (↑i : Int) - (1 : Int) < (↑n : Int), Fits IntKind.i64 ((↑i : Int) - (1 : Int)), decide ((0 : Int) < (↑i : Int)) = true, (!decide (fr (↑i : Int).toNat = (1 : Int))) = false, (!decide (fr (↑i : Int).toNat = (0 : Int))) = true, decide ((↑(tk (↑i : Int).toNat).length : Int) = (0 : Int)) = false, Fits IntKind.i64 (↑(tk i).length : Int), LoopGood g6 86 (.loop h8I) h8i 2 (.exit 2) (mkLoopN h8ie), (↑n : Int) = (↑n : Int), (↑(tk i).length : Int) = (↑(tk i).length : Int), Fits IntKind.i64 (↑(tk i).length : Int), tksB (tk i) = true, Fits IntKind.i64 (a + (↑(tk i).length : Int)), Fits IntKind.i64 (↑(tk i).length : Int), decide ((24 : Int) < a + (↑(tk (↑i : Int).toNat).length : Int)) = false, Fits IntKind.i64 ((↑i : Int) + (1 : Int))]) := by kernel_rfl
theorem h8o_end (s : ByteArray) (l0 l1 : List Int) (n : Nat) (fr : Nat → Int) (tk : Nat → List Int) (a : Int) (i : Nat) : runC g6 900 86 [.br false] h8O (h8o.zip (h8V n (lnF fr tk) a (i : Int))) [PB s l0 l1 n (lnF fr tk)] [] [] =
    some (Ex.exit (0 : Nat), [], [], [decide ((↑i : Int) < (↑n : Int)) = false]) := by kernel_rfl
noncomputable def h8oe : LoopF := fun vals B => match vals, B with
  | [.ptr 0 0, .int .i64 0, .ro 2 n f, .int .i64 N, .int .i64 0], [.cells [.raw (.string s), .roi .i64 l0, .roi .i64 l1, .ro 2 n' f']] => some ([], [], pC l0 l1 n f ++ [N = n, n' = n, f' = f, allB (lineOk (frO f) (tkO f)) n = true])
  | _, _ => none
theorem h8o_e : LoopGood g6 86 (.loop h8O) h8o 0 (.exit 0) (mkLoopN h8oe) := by
  refine LoopGood.mkN (by decide) fun vals B S' B' C hG hC hlen w0 O hgl => ?_
  clear hlen
  unfold h8oe at hG
  split at hG
  · rename_i n f N s l0 l1 n' f'
    simp only [Option.some.injEq, Prod.mk.injEq] at hG
    obtain ⟨rfl, rfl, rfl⟩ := hG
    simp only [pC, allC_append, allC_cons, allC_nil, and_true] at hC
    obtain ⟨⟨hf, Fn, Fl0, Fl1, hT⟩, rfl, rfl, hff, ho⟩ := hC
    generalize frO f = fr at *
    generalize tkO f = tk at *
    subst hff
    subst hf
    have Fn' := fits_int Fn
    have hL := h8i_e
    have ho := allB_iff.1 ho
    · refine SimC.iter (g := g6) (e := .exit 0) (S := fun i => h8o.zip (h8V n' (lnF fr tk) (sumT tk i : Nat) (i : Int))) (B := fun _ => [PB s l0 l1 n' (lnF fr tk)]) (N := n') (fun i hi => ?_) ?_ (by simp) 0 (by omega)
      · obtain ⟨hfr, hal, hne, hs, htk⟩ := lineOk_iff.1 (ho i (by omega))
        have hT := hT i (by omega)
        have Fl : Fits .i64 ((tk i).length : Int) := fits_of (by omega) (by omega)
        rcases hfr with hfr | hfr <;> rcases Nat.eq_zero_or_pos i with hi0 | hi0
        · exact SimC.run (B' := [PB s l0 l1 n' (lnF fr tk)]) g6_ok (by decide) (h8o_go0 s l0 l1 n' fr tk (sumT tk i : Nat) i) (by simp only [allC_append, allC_cons, allC_nil, and_true, frO_ln, tkO_ln, decide_eq_true_eq, decide_eq_false_iff_not, Bool.not_eq_true', Bool.not_eq_false', Int.toNat_natCast, toNat_sub1]; (repeat' first | trivial | assumption | omega | exact fits_of (by omega) (by omega) | rfl | apply And.intro)) (by decide) (qn _) (by decide) (by simp) hgl
        · have hal : ¬ fr i = fr (i - 1) := hal.resolve_left (by omega)
          exact SimC.run (B' := [PB s l0 l1 n' (lnF fr tk)]) g6_ok (by decide) (h8o_go1 s l0 l1 n' fr tk (sumT tk i : Nat) i) (by simp only [allC_append, allC_cons, allC_nil, and_true, frO_ln, tkO_ln, decide_eq_true_eq, decide_eq_false_iff_not, Bool.not_eq_true', Bool.not_eq_false', Int.toNat_natCast, toNat_sub1]; (repeat' first | trivial | assumption | omega | exact fits_of (by omega) (by omega) | rfl | apply And.intro)) (by decide) (qn _) (by decide) (by simp) hgl
        · exact SimC.run (B' := [PB s l0 l1 n' (lnF fr tk)]) g6_ok (by decide) (h8o_go2 s l0 l1 n' fr tk (sumT tk i : Nat) i) (by simp only [allC_append, allC_cons, allC_nil, and_true, frO_ln, tkO_ln, decide_eq_true_eq, decide_eq_false_iff_not, Bool.not_eq_true', Bool.not_eq_false', Int.toNat_natCast, toNat_sub1]; (repeat' first | trivial | assumption | omega | exact fits_of (by omega) (by omega) | rfl | apply And.intro)) (by decide) (qn _) (by decide) (by simp) hgl
        · have hal : ¬ fr i = fr (i - 1) := hal.resolve_left (by omega)
          exact SimC.run (B' := [PB s l0 l1 n' (lnF fr tk)]) g6_ok (by decide) (h8o_go3 s l0 l1 n' fr tk (sumT tk i : Nat) i) (by simp only [allC_append, allC_cons, allC_nil, and_true, frO_ln, tkO_ln, decide_eq_true_eq, decide_eq_false_iff_not, Bool.not_eq_true', Bool.not_eq_false', Int.toNat_natCast, toNat_sub1]; (repeat' first | trivial | assumption | omega | exact fits_of (by omega) (by omega) | rfl | apply And.intro)) (by decide) (qn _) (by decide) (by simp) hgl
      · exact SimC.weaken (SimC.run (B' := []) g6_ok (by decide) (h8o_end s l0 l1 n' fr tk (sumT tk n' : Nat) n') (by simp only [allC_append, allC_cons, allC_nil, and_true, frO_ln, tkO_ln, decide_eq_true_eq, decide_eq_false_iff_not, Bool.not_eq_true', Bool.not_eq_false', Int.toNat_natCast, toNat_sub1]; (repeat' first | trivial | assumption | omega | exact fits_of (by omega) (by omega) | rfl | apply And.intro)) (by decide) (qn _) (by decide) (by simp) hgl) (fun t => .inr (by simp [mkT, tget, Tr.get_lf]))
  · simp at hG
theorem h8_run (s : ByteArray) (l0 l1 : List Int) (n : Nat) (fr : Nat → Int) (tk : Nat → List Int) : runF g6 900 [.br false, .loop 5 h8o 0 (.exit 0) (mkLoopN h8oe)] 18 [PA s l0 l1 n (lnF fr tk)] [] [] =
    some (SV.bool true, [], [Fits IntKind.i64 (↑n : Int), aheadR l1 = true, aheadR l0 = true, decide ((↑n : Int) = (0 : Int)) = false, Fits IntKind.i64 (↑n : Int), LoopGood g6 86 (.loop h8O) h8o 0 (.exit 0) (mkLoopN h8oe), lnF fr tk = lnF (frO (lnF fr tk)) (tkO (lnF fr tk)), Fits IntKind.i64 (↑n : Int), Fits IntKind.i64 (↑l0.length : Int), Fits IntKind.i64 (↑l1.length : Int), ∀ (i : Nat), i < n → (tkO (lnF fr tk) i).length ≤ (140737488351232 : Nat), (↑n : Int) = (↑n : Int), n = n, lnF fr tk = lnF fr tk, allB (lineOk (frO (lnF fr tk)) (tkO (lnF fr tk))) n = true]) := by kernel_rfl
def F18 : SumF := fun args B => match args, B with
  | [.agg [.raw (.string s), .roi .i64 l0, .roi .i64 l1, .ro 2 n f]], [] => some { val := .bool true, C := pC l0 l1 n f ++ [shapedR l0 l1 n (frO f) (tkO f) = true] }
  | _, _ => none
theorem acc18 : Acc g6 18 F18 := by
  intro args B out h hC
  unfold F18 at h
  split at h
  · rename_i s l0 l1 n f
    simp only [Option.some.injEq] at h; subst h
    simp only [pC, allC_append, allC_cons, allC_nil, and_true] at hC
    obtain ⟨⟨hf, Fn, Fl0, Fl1, hT⟩, hsh⟩ := hC
    generalize frO f = fr at *
    generalize tkO f = tk at *
    subst hf
    have hL := h8o_e
    obtain ⟨ha0, ha1, hn, ho⟩ := shaped_iff.1 hsh
    have hn' : ¬ (n : Int) = 0 := by omega
    exact FnOk.val (C := []) (rd := []) (FnOk.pure g6_ok (h8_run s l0 l1 n fr tk) (by simp only [allC_append, allC_cons, allC_nil, and_true, frO_ln, tkO_ln, decide_eq_true_eq, decide_eq_false_iff_not, Bool.not_eq_true', Bool.not_eq_false', Int.toNat_natCast, toNat_sub1]; (repeat' first | trivial | assumption | omega | exact fits_of (by omega) (by omega) | rfl | apply And.intro))) (DenImp.refl _)
  · simp at h
end Go.Proofs.Tryd

namespace Go.Proofs.Tryd
open Go Go.Vx
/-! ### the program's Check: what is known ahead; its lines: F12 -/
abbrev roL (l : List Int) : SV := .ro 1 l.length (fun i => .lit .i64 (l.getD i 0))
theorem roi_ro (l : List Int) : DenImp (.roi .i64 l) (roL l) := fun w0 O ρ v hd => by
  rcases hd with hd | ⟨h1, h2⟩
  · simp at hd
  · refine .inr ⟨h1, ?_⟩
    simp only [DenC] at h2 ⊢
    obtain ⟨a, cap, e1, e2, e3, e4⟩ := h2
    refine ⟨a, cap, e1, e2, fun hn => ?_⟩
    obtain ⟨b, o, g1, g2⟩ := e3 hn
    refine ⟨b, o, g1, fun i hi => ⟨[.int .i64 (l.getD i 0)], rfl, fun j u hu => ?_, ?_⟩⟩
    · match j, hu with
      | 0, hu =>
        simp at hu; subst hu
        have := g2 i (.int .i64 (l.getD i 0)) (by simp [hi])
        simpa using this
    · simp only [true_and]
      exact e4 _ (by rw [List.getD_eq_getElem?_getD, List.getElem?_eq_getElem hi]; exact List.getElem_mem _)
theorem agg_imp : ∀ {cs ds : List SV}, ImpL cs ds → flatL cs → DenImp (.agg cs) (.agg ds) := fun {cs ds} h hf w0 O ρ v hd => by
  obtain ⟨arr, rfl, hh⟩ := denV_agg hd
  refine den_agg ?_
  clear hd
  generalize arr.toList = vs at hh
  induction cs generalizing ds vs with
  | nil =>
    match ds, h with
    | [], _ => exact hh
  | cons c cs ih =>
    match ds, h with
    | d :: ds, h =>
      simp only [DenL] at hh ⊢
      obtain ⟨v, r, rfl, g1, g2, g3⟩ := hh
      exact ⟨v, r, rfl, denImp_cell h.1 g2 (hf c (by simp)) g1, g2, ih h.2 (fun x hx => hf x (by simp [hx])) r g3⟩

noncomputable abbrev g7 : Ctx := g6.add [(18, F18)]
theorem g7_ok : CtxU g7 := g6_ok.add mixed noGo (by
  intro x hx
  simp only [List.mem_cons, List.not_mem_nil, or_false] at hx
  rcases hx with rfl
  exact acc18)
def begW (l0 l1 : List Int) (j : Nat) : Bool := match j with
  | 1 => l0.any (fun a => decide (a = 1))
  | 2 => l0.any (fun a => !decide (a = 1))
  | 4 => l1.any (fun a => decide (a = 1))
  | 5 => l1.any (fun a => !decide (a = 1))
  | _ => false
abbrev bwK : List Nat := [1, 3, 21, 22]
noncomputable abbrev bwC : Code := .loop (bodyAt Tryd.prog 12 5)
abbrev bwZ : List SV := [.bool false, .bool false, .bool false, .bool false, .bool false, .bool false, .bool false, .bool false, .bool false, .bool false, .bool false, .bool false, .bool false, .bool false]
abbrev bwR (l0 l1 : List Int) : Body := .cells ((LB 14 (begW l0 l1) 0).map .bool)
theorem bw00 (s : ByteArray) (m0 m1 : List Int) (n : Nat) (f : Nat → SV) : runC g7 900 97 [.br false, .br false] bwC (bwK.zip [.ptr 0 0, .ptr 1 0, .agg [roL [], roL []], .lit .i64 0]) [PB s m0 m1 n f, .cells bwZ] [1, 3] [0, 1] =
    some (Ex.exit (0 : Nat), [SV.ptr (0 : Nat) (0 : Nat), SV.ptr (1 : Nat) (0 : Nat)], [some (Body.cells [SV.raw (Value.string s), SV.roi IntKind.i64 m0, SV.roi IntKind.i64 m1, SV.ro (2 : Nat) n f]), some (bwR [] [])], [Fits IntKind.i64 (0 : Int), false = false, Fits IntKind.i64 (0 : Int), false = false]) := by kernel_rfl
theorem bw01 (s : ByteArray) (m0 m1 : List Int) (n : Nat) (f : Nat → SV) : runC g7 900 97 [.br false, .br true, .br false] bwC (bwK.zip [.ptr 0 0, .ptr 1 0, .agg [roL [], roL [1]], .lit .i64 0]) [PB s m0 m1 n f, .cells bwZ] [1, 3] [0, 1] =
    some (Ex.exit (0 : Nat), [SV.ptr (0 : Nat) (0 : Nat), SV.ptr (1 : Nat) (0 : Nat)], [some (Body.cells [SV.raw (Value.string s), SV.roi IntKind.i64 m0, SV.roi IntKind.i64 m1, SV.ro (2 : Nat) n f]), some (bwR [] [1])], [Fits IntKind.i64 (0 : Int), false = false, Fits IntKind.i64 (1 : Int), true = true, (0 : Int) ≤ (0 : Int) ∧ (0 : Int) < (↑[(1 : Int)].length : Int), false = false]) := by kernel_rfl
theorem bw02 (s : ByteArray) (m0 m1 : List Int) (n : Nat) (f : Nat → SV) : runC g7 900 97 [.br false, .br true, .br false] bwC (bwK.zip [.ptr 0 0, .ptr 1 0, .agg [roL [], roL [2]], .lit .i64 0]) [PB s m0 m1 n f, .cells bwZ] [1, 3] [0, 1] =
    some (Ex.exit (0 : Nat), [SV.ptr (0 : Nat) (0 : Nat), SV.ptr (1 : Nat) (0 : Nat)], [some (Body.cells [SV.raw (Value.string s), SV.roi IntKind.i64 m0, SV.roi IntKind.i64 m1, SV.ro (2 : Nat) n f]), some (bwR [] [2])], [Fits IntKind.i64 (0 : Int), false = false, Fits IntKind.i64 (1 : Int), true = true, (0 : Int) ≤ (0 : Int) ∧ (0 : Int) < (↑[(2 : Int)].length : Int), false = false]) := by kernel_rfl
theorem bw03 (s : ByteArray) (m0 m1 : List Int) (n : Nat) (f : Nat → SV) : runC g7 900 97 [.br false, .br true, .br true, .br false] bwC (bwK.zip [.ptr 0 0, .ptr 1 0, .agg [roL [], roL [1, 2]], .lit .i64 0]) [PB s m0 m1 n f, .cells bwZ] [1, 3] [0, 1] =
    some (Ex.exit (0 : Nat), [SV.ptr (0 : Nat) (0 : Nat), SV.ptr (1 : Nat) (0 : Nat)], [some (Body.cells [SV.raw (Value.string s), SV.roi IntKind.i64 m0, SV.roi IntKind.i64 m1, SV.ro (2 : Nat) n f]), some (bwR [] [1, 2])], [Fits IntKind.i64 (0 : Int), false = false, Fits IntKind.i64 (2 : Int), true = true, (0 : Int) ≤ (0 : Int) ∧ (0 : Int) < (↑[(1 : Int), (2 : Int)].length : Int), true = true, (0 : Int) ≤ (1 : Int) ∧ (1 : Int) < (↑[(1 : Int), (2 : Int)].length : Int), false = false]) := by kernel_rfl
theorem bw10 (s : ByteArray) (m0 m1 : List Int) (n : Nat) (f : Nat → SV) : runC g7 900 97 [.br true, .br false, .br false] bwC (bwK.zip [.ptr 0 0, .ptr 1 0, .agg [roL [1], roL []], .lit .i64 0]) [PB s m0 m1 n f, .cells bwZ] [1, 3] [0, 1] =
    some (Ex.exit (0 : Nat), [SV.ptr (0 : Nat) (0 : Nat), SV.ptr (1 : Nat) (0 : Nat)], [some (Body.cells [SV.raw (Value.string s), SV.roi IntKind.i64 m0, SV.roi IntKind.i64 m1, SV.ro (2 : Nat) n f]), some (bwR [1] [])], [Fits IntKind.i64 (1 : Int), true = true, (0 : Int) ≤ (0 : Int) ∧ (0 : Int) < (↑[(1 : Int)].length : Int), false = false, Fits IntKind.i64 (0 : Int), false = false]) := by kernel_rfl
theorem bw11 (s : ByteArray) (m0 m1 : List Int) (n : Nat) (f : Nat → SV) : runC g7 900 97 [.br true, .br false, .br true, .br false] bwC (bwK.zip [.ptr 0 0, .ptr 1 0, .agg [roL [1], roL [1]], .lit .i64 0]) [PB s m0 m1 n f, .cells bwZ] [1, 3] [0, 1] =
    some (Ex.exit (0 : Nat), [SV.ptr (0 : Nat) (0 : Nat), SV.ptr (1 : Nat) (0 : Nat)], [some (Body.cells [SV.raw (Value.string s), SV.roi IntKind.i64 m0, SV.roi IntKind.i64 m1, SV.ro (2 : Nat) n f]), some (bwR [1] [1])], [Fits IntKind.i64 (1 : Int), true = true, (0 : Int) ≤ (0 : Int) ∧ (0 : Int) < (↑[(1 : Int)].length : Int), false = false, Fits IntKind.i64 (1 : Int), true = true, (0 : Int) ≤ (0 : Int) ∧ (0 : Int) < (↑[(1 : Int)].length : Int), false = false]) := by kernel_rfl
theorem bw12 (s : ByteArray) (m0 m1 : List Int) (n : Nat) (f : Nat → SV) : runC g7 900 97 [.br true, .br false, .br true, .br false] bwC (bwK.zip [.ptr 0 0, .ptr 1 0, .agg [roL [1], roL [2]], .lit .i64 0]) [PB s m0 m1 n f, .cells bwZ] [1, 3] [0, 1] =
    some (Ex.exit (0 : Nat), [SV.ptr (0 : Nat) (0 : Nat), SV.ptr (1 : Nat) (0 : Nat)], [some (Body.cells [SV.raw (Value.string s), SV.roi IntKind.i64 m0, SV.roi IntKind.i64 m1, SV.ro (2 : Nat) n f]), some (bwR [1] [2])], [Fits IntKind.i64 (1 : Int), true = true, (0 : Int) ≤ (0 : Int) ∧ (0 : Int) < (↑[(1 : Int)].length : Int), false = false, Fits IntKind.i64 (1 : Int), true = true, (0 : Int) ≤ (0 : Int) ∧ (0 : Int) < (↑[(2 : Int)].length : Int), false = false]) := by kernel_rfl
theorem bw13 (s : ByteArray) (m0 m1 : List Int) (n : Nat) (f : Nat → SV) : runC g7 900 97 [.br true, .br false, .br true, .br true, .br false] bwC (bwK.zip [.ptr 0 0, .ptr 1 0, .agg [roL [1], roL [1, 2]], .lit .i64 0]) [PB s m0 m1 n f, .cells bwZ] [1, 3] [0, 1] =
    some (Ex.exit (0 : Nat), [SV.ptr (0 : Nat) (0 : Nat), SV.ptr (1 : Nat) (0 : Nat)], [some (Body.cells [SV.raw (Value.string s), SV.roi IntKind.i64 m0, SV.roi IntKind.i64 m1, SV.ro (2 : Nat) n f]), some (bwR [1] [1, 2])], [Fits IntKind.i64 (1 : Int), true = true, (0 : Int) ≤ (0 : Int) ∧ (0 : Int) < (↑[(1 : Int)].length : Int), false = false, Fits IntKind.i64 (2 : Int), true = true, (0 : Int) ≤ (0 : Int) ∧ (0 : Int) < (↑[(1 : Int), (2 : Int)].length : Int), true = true, (0 : Int) ≤ (1 : Int) ∧ (1 : Int) < (↑[(1 : Int), (2 : Int)].length : Int), false = false]) := by kernel_rfl
theorem bw20 (s : ByteArray) (m0 m1 : List Int) (n : Nat) (f : Nat → SV) : runC g7 900 97 [.br true, .br false, .br false] bwC (bwK.zip [.ptr 0 0, .ptr 1 0, .agg [roL [2], roL []], .lit .i64 0]) [PB s m0 m1 n f, .cells bwZ] [1, 3] [0, 1] =
    some (Ex.exit (0 : Nat), [SV.ptr (0 : Nat) (0 : Nat), SV.ptr (1 : Nat) (0 : Nat)], [some (Body.cells [SV.raw (Value.string s), SV.roi IntKind.i64 m0, SV.roi IntKind.i64 m1, SV.ro (2 : Nat) n f]), some (bwR [2] [])], [Fits IntKind.i64 (1 : Int), true = true, (0 : Int) ≤ (0 : Int) ∧ (0 : Int) < (↑[(2 : Int)].length : Int), false = false, Fits IntKind.i64 (0 : Int), false = false]) := by kernel_rfl
theorem bw21 (s : ByteArray) (m0 m1 : List Int) (n : Nat) (f : Nat → SV) : runC g7 900 97 [.br true, .br false, .br true, .br false] bwC (bwK.zip [.ptr 0 0, .ptr 1 0, .agg [roL [2], roL [1]], .lit .i64 0]) [PB s m0 m1 n f, .cells bwZ] [1, 3] [0, 1] =
    some (Ex.exit (0 : Nat), [SV.ptr (0 : Nat) (0 : Nat), SV.ptr (1 : Nat) (0 : Nat)], [some (Body.cells [SV.raw (Value.string s), SV.roi IntKind.i64 m0, SV.roi IntKind.i64 m1, SV.ro (2 : Nat) n f]), some (bwR [2] [1])], [Fits IntKind.i64 (1 : Int), true = true, (0 : Int) ≤ (0 : Int) ∧ (0 : Int) < (↑[(2 : Int)].length : Int), false = false, Fits IntKind.i64 (1 : Int), true = true, (0 : Int) ≤ (0 : Int) ∧ (0 : Int) < (↑[(1 : Int)].length : Int), false = false]) := by kernel_rfl
theorem bw22 (s : ByteArray) (m0 m1 : List Int) (n : Nat) (f : Nat → SV) : runC g7 900 97 [.br true, .br false, .br true, .br false] bwC (bwK.zip [.ptr 0 0, .ptr 1 0, .agg [roL [2], roL [2]], .lit .i64 0]) [PB s m0 m1 n f, .cells bwZ] [1, 3] [0, 1] =
    some (Ex.exit (0 : Nat), [SV.ptr (0 : Nat) (0 : Nat), SV.ptr (1 : Nat) (0 : Nat)], [some (Body.cells [SV.raw (Value.string s), SV.roi IntKind.i64 m0, SV.roi IntKind.i64 m1, SV.ro (2 : Nat) n f]), some (bwR [2] [2])], [Fits IntKind.i64 (1 : Int), true = true, (0 : Int) ≤ (0 : Int) ∧ (0 : Int) < (↑[(2 : Int)].length : Int), false = false, Fits IntKind.i64 (1 : Int), true = true, (0 : Int) ≤ (0 : Int) ∧ (0 : Int) < (↑[(2 : Int)].length : Int), false = false]) := by kernel_rfl
theorem bw23 (s : ByteArray) (m0 m1 : List Int) (n : Nat) (f : Nat → SV) : runC g7 900 97 [.br true, .br false, .br true, .br true, .br false] bwC (bwK.zip [.ptr 0 0, .ptr 1 0, .agg [roL [2], roL [1, 2]], .lit .i64 0]) [PB s m0 m1 n f, .cells bwZ] [1, 3] [0, 1] =
    some (Ex.exit (0 : Nat), [SV.ptr (0 : Nat) (0 : Nat), SV.ptr (1 : Nat) (0 : Nat)], [some (Body.cells [SV.raw (Value.string s), SV.roi IntKind.i64 m0, SV.roi IntKind.i64 m1, SV.ro (2 : Nat) n f]), some (bwR [2] [1, 2])], [Fits IntKind.i64 (1 : Int), true = true, (0 : Int) ≤ (0 : Int) ∧ (0 : Int) < (↑[(2 : Int)].length : Int), false = false, Fits IntKind.i64 (2 : Int), true = true, (0 : Int) ≤ (0 : Int) ∧ (0 : Int) < (↑[(1 : Int), (2 : Int)].length : Int), true = true, (0 : Int) ≤ (1 : Int) ∧ (1 : Int) < (↑[(1 : Int), (2 : Int)].length : Int), false = false]) := by kernel_rfl
theorem bw30 (s : ByteArray) (m0 m1 : List Int) (n : Nat) (f : Nat → SV) : runC g7 900 97 [.br true, .br true, .br false, .br false] bwC (bwK.zip [.ptr 0 0, .ptr 1 0, .agg [roL [1, 2], roL []], .lit .i64 0]) [PB s m0 m1 n f, .cells bwZ] [1, 3] [0, 1] =
    some (Ex.exit (0 : Nat), [SV.ptr (0 : Nat) (0 : Nat), SV.ptr (1 : Nat) (0 : Nat)], [some (Body.cells [SV.raw (Value.string s), SV.roi IntKind.i64 m0, SV.roi IntKind.i64 m1, SV.ro (2 : Nat) n f]), some (bwR [1, 2] [])], [Fits IntKind.i64 (2 : Int), true = true, (0 : Int) ≤ (0 : Int) ∧ (0 : Int) < (↑[(1 : Int), (2 : Int)].length : Int), true = true, (0 : Int) ≤ (1 : Int) ∧ (1 : Int) < (↑[(1 : Int), (2 : Int)].length : Int), false = false, Fits IntKind.i64 (0 : Int), false = false]) := by kernel_rfl
theorem bw31 (s : ByteArray) (m0 m1 : List Int) (n : Nat) (f : Nat → SV) : runC g7 900 97 [.br true, .br true, .br false, .br true, .br false] bwC (bwK.zip [.ptr 0 0, .ptr 1 0, .agg [roL [1, 2], roL [1]], .lit .i64 0]) [PB s m0 m1 n f, .cells bwZ] [1, 3] [0, 1] =
    some (Ex.exit (0 : Nat), [SV.ptr (0 : Nat) (0 : Nat), SV.ptr (1 : Nat) (0 : Nat)], [some (Body.cells [SV.raw (Value.string s), SV.roi IntKind.i64 m0, SV.roi IntKind.i64 m1, SV.ro (2 : Nat) n f]), some (bwR [1, 2] [1])], [Fits IntKind.i64 (2 : Int), true = true, (0 : Int) ≤ (0 : Int) ∧ (0 : Int) < (↑[(1 : Int), (2 : Int)].length : Int), true = true, (0 : Int) ≤ (1 : Int) ∧ (1 : Int) < (↑[(1 : Int), (2 : Int)].length : Int), false = false, Fits IntKind.i64 (1 : Int), true = true, (0 : Int) ≤ (0 : Int) ∧ (0 : Int) < (↑[(1 : Int)].length : Int), false = false]) := by kernel_rfl
theorem bw32 (s : ByteArray) (m0 m1 : List Int) (n : Nat) (f : Nat → SV) : runC g7 900 97 [.br true, .br true, .br false, .br true, .br false] bwC (bwK.zip [.ptr 0 0, .ptr 1 0, .agg [roL [1, 2], roL [2]], .lit .i64 0]) [PB s m0 m1 n f, .cells bwZ] [1, 3] [0, 1] =
    some (Ex.exit (0 : Nat), [SV.ptr (0 : Nat) (0 : Nat), SV.ptr (1 : Nat) (0 : Nat)], [some (Body.cells [SV.raw (Value.string s), SV.roi IntKind.i64 m0, SV.roi IntKind.i64 m1, SV.ro (2 : Nat) n f]), some (bwR [1, 2] [2])], [Fits IntKind.i64 (2 : Int), true = true, (0 : Int) ≤ (0 : Int) ∧ (0 : Int) < (↑[(1 : Int), (2 : Int)].length : Int), true = true, (0 : Int) ≤ (1 : Int) ∧ (1 : Int) < (↑[(1 : Int), (2 : Int)].length : Int), false = false, Fits IntKind.i64 (1 : Int), true = true, (0 : Int) ≤ (0 : Int) ∧ (0 : Int) < (↑[(2 : Int)].length : Int), false = false]) := by kernel_rfl
theorem bw33 (s : ByteArray) (m0 m1 : List Int) (n : Nat) (f : Nat → SV) : runC g7 900 97 [.br true, .br true, .br false, .br true, .br true, .br false] bwC (bwK.zip [.ptr 0 0, .ptr 1 0, .agg [roL [1, 2], roL [1, 2]], .lit .i64 0]) [PB s m0 m1 n f, .cells bwZ] [1, 3] [0, 1] =
    some (Ex.exit (0 : Nat), [SV.ptr (0 : Nat) (0 : Nat), SV.ptr (1 : Nat) (0 : Nat)], [some (Body.cells [SV.raw (Value.string s), SV.roi IntKind.i64 m0, SV.roi IntKind.i64 m1, SV.ro (2 : Nat) n f]), some (bwR [1, 2] [1, 2])], [Fits IntKind.i64 (2 : Int), true = true, (0 : Int) ≤ (0 : Int) ∧ (0 : Int) < (↑[(1 : Int), (2 : Int)].length : Int), true = true, (0 : Int) ≤ (1 : Int) ∧ (1 : Int) < (↑[(1 : Int), (2 : Int)].length : Int), false = false, Fits IntKind.i64 (2 : Int), true = true, (0 : Int) ≤ (0 : Int) ∧ (0 : Int) < (↑[(1 : Int), (2 : Int)].length : Int), true = true, (0 : Int) ≤ (1 : Int) ∧ (1 : Int) < (↑[(1 : Int), (2 : Int)].length : Int), false = false]) := by kernel_rfl
theorem zip_imp : ∀ (keep : List Nat) {vals vals' : List SV}, ImpL vals vals' → ∀ t, (∀ k ∈ keep, k < 65535) → DenImp (tget (mkT (keep.zip vals)) t) (tget (mkT (keep.zip vals')) t)
  | [], _, _, _, t, _ => by simp only [List.zip_nil_left]; exact DenImp.refl _
  | k :: ks, [], [], _, t, _ => by simp only [List.zip_nil_right]; exact DenImp.refl _
  | k :: ks, v :: vs, w :: ws, h, t, hk => by
    have h1 : tget (mkT ((k, v) :: ks.zip vs)) t = if t = k then v else tget (mkT (ks.zip vs)) t := Tr.get_set _ _ _ _ _ (hk k (by simp))
    have h2 : tget (mkT ((k, w) :: ks.zip ws)) t = if t = k then w else tget (mkT (ks.zip ws)) t := Tr.get_set _ _ _ _ _ (hk k (by simp))
    rw [List.zip_cons_cons, List.zip_cons_cons, h1, h2]
    split
    · exact h.1
    · exact zip_imp ks h.2 t fun k' h' => hk k' (by simp [h'])
noncomputable def bwG : LoopF := fun vals B => match vals, B with
  | [.ptr 0 0, .ptr 1 0, .agg [.roi .i64 l0, .roi .i64 l1], .int .i64 0], [.cells [.raw (.string s), .roi .i64 m0, .roi .i64 m1, .ro 2 n f], .cells cs] => match boolsAs cs with
    | some bl => some ([(1, .ptr 0 0), (3, .ptr 1 0)], [PB s m0 m1 n f, bwR l0 l1], [bl = List.replicate 14 false, aheadR l0 = true, aheadR l1 = true])
    | none => none
  | _, _ => none
theorem bw_loop : LoopGood g7 97 bwC bwK 2 (.exit 0) (mkLoopN bwG) := by
  refine LoopGood.mkN (by decide) fun vals B S' B' C hG hC hlen w0 O hgl => ?_
  clear hlen
  unfold bwG at hG
  split at hG
  · rename_i l0 l1 s m0 m1 n f cs
    split at hG
    · rename_i bl hb
      simp only [Option.some.injEq, Prod.mk.injEq] at hG
      obtain ⟨rfl, rfl, rfl⟩ := hG
      simp only [allC_cons, allC_nil, and_true] at hC
      obtain ⟨rfl, h0, h1⟩ := hC
      refine SimC.preI (B1 := [PB s m0 m1 n f, .cells bwZ]) ?_ ⟨pb_refl _ _ _ _ _, ⟨.cells (boolsB hb), fun l e => by injection e with e; subst e; exact bools_flat hb⟩, trivial⟩
      refine SimC.pre (S := bwK.zip [.ptr 0 0, .ptr 1 0, .agg [roL l0, roL l1], .lit .i64 0]) ?_ (fun t => zip_imp bwK (vals := [.ptr 0 0, .ptr 1 0, .agg [.roi .i64 l0, .roi .i64 l1], .int .i64 0]) (vals' := [.ptr 0 0, .ptr 1 0, .agg [roL l0, roL l1], .lit .i64 0]) ⟨DenImp.refl _, DenImp.refl _, agg_imp (cs := [.roi .i64 l0, .roi .i64 l1]) (ds := [roL l0, roL l1]) ⟨roi_ro l0, roi_ro l1, trivial⟩ (fun c hc => by
        simp only [List.mem_cons, List.not_mem_nil, or_false] at hc
        rcases hc with rfl | rfl <;> rfl), lit_imp (fits_small (by decide) (by decide)), trivial⟩ t (by decide))
      rcases ahead_cases h0 with rfl | rfl | rfl | rfl <;> rcases ahead_cases h1 with rfl | rfl | rfl | rfl
      · exact SimC.weaken (SimC.run (B' := [PB s m0 m1 n f, bwR [] []]) g7_ok (by decide) (bw00 s m0 m1 n f) (by simp only [allC_cons, allC_nil, and_true]; (repeat' first | trivial | decide | exact fits_of (by decide) (by decide) | apply And.intro)) (by decide) q2 (by decide) (by simp) hgl) (sub_mkT (by simp; exact ⟨rfl, rfl⟩))
      · exact SimC.weaken (SimC.run (B' := [PB s m0 m1 n f, bwR [] [1]]) g7_ok (by decide) (bw01 s m0 m1 n f) (by simp only [allC_cons, allC_nil, and_true]; (repeat' first | trivial | decide | exact fits_of (by decide) (by decide) | apply And.intro)) (by decide) q2 (by decide) (by simp) hgl) (sub_mkT (by simp; exact ⟨rfl, rfl⟩))
      · exact SimC.weaken (SimC.run (B' := [PB s m0 m1 n f, bwR [] [2]]) g7_ok (by decide) (bw02 s m0 m1 n f) (by simp only [allC_cons, allC_nil, and_true]; (repeat' first | trivial | decide | exact fits_of (by decide) (by decide) | apply And.intro)) (by decide) q2 (by decide) (by simp) hgl) (sub_mkT (by simp; exact ⟨rfl, rfl⟩))
      · exact SimC.weaken (SimC.run (B' := [PB s m0 m1 n f, bwR [] [1, 2]]) g7_ok (by decide) (bw03 s m0 m1 n f) (by simp only [allC_cons, allC_nil, and_true]; (repeat' first | trivial | decide | exact fits_of (by decide) (by decide) | apply And.intro)) (by decide) q2 (by decide) (by simp) hgl) (sub_mkT (by simp; exact ⟨rfl, rfl⟩))
      · exact SimC.weaken (SimC.run (B' := [PB s m0 m1 n f, bwR [1] []]) g7_ok (by decide) (bw10 s m0 m1 n f) (by simp only [allC_cons, allC_nil, and_true]; (repeat' first | trivial | decide | exact fits_of (by decide) (by decide) | apply And.intro)) (by decide) q2 (by decide) (by simp) hgl) (sub_mkT (by simp; exact ⟨rfl, rfl⟩))
      · exact SimC.weaken (SimC.run (B' := [PB s m0 m1 n f, bwR [1] [1]]) g7_ok (by decide) (bw11 s m0 m1 n f) (by simp only [allC_cons, allC_nil, and_true]; (repeat' first | trivial | decide | exact fits_of (by decide) (by decide) | apply And.intro)) (by decide) q2 (by decide) (by simp) hgl) (sub_mkT (by simp; exact ⟨rfl, rfl⟩))
      · exact SimC.weaken (SimC.run (B' := [PB s m0 m1 n f, bwR [1] [2]]) g7_ok (by decide) (bw12 s m0 m1 n f) (by simp only [allC_cons, allC_nil, and_true]; (repeat' first | trivial | decide | exact fits_of (by decide) (by decide) | apply And.intro)) (by decide) q2 (by decide) (by simp) hgl) (sub_mkT (by simp; exact ⟨rfl, rfl⟩))
      · exact SimC.weaken (SimC.run (B' := [PB s m0 m1 n f, bwR [1] [1, 2]]) g7_ok (by decide) (bw13 s m0 m1 n f) (by simp only [allC_cons, allC_nil, and_true]; (repeat' first | trivial | decide | exact fits_of (by decide) (by decide) | apply And.intro)) (by decide) q2 (by decide) (by simp) hgl) (sub_mkT (by simp; exact ⟨rfl, rfl⟩))
      · exact SimC.weaken (SimC.run (B' := [PB s m0 m1 n f, bwR [2] []]) g7_ok (by decide) (bw20 s m0 m1 n f) (by simp only [allC_cons, allC_nil, and_true]; (repeat' first | trivial | decide | exact fits_of (by decide) (by decide) | apply And.intro)) (by decide) q2 (by decide) (by simp) hgl) (sub_mkT (by simp; exact ⟨rfl, rfl⟩))
      · exact SimC.weaken (SimC.run (B' := [PB s m0 m1 n f, bwR [2] [1]]) g7_ok (by decide) (bw21 s m0 m1 n f) (by simp only [allC_cons, allC_nil, and_true]; (repeat' first | trivial | decide | exact fits_of (by decide) (by decide) | apply And.intro)) (by decide) q2 (by decide) (by simp) hgl) (sub_mkT (by simp; exact ⟨rfl, rfl⟩))
      · exact SimC.weaken (SimC.run (B' := [PB s m0 m1 n f, bwR [2] [2]]) g7_ok (by decide) (bw22 s m0 m1 n f) (by simp only [allC_cons, allC_nil, and_true]; (repeat' first | trivial | decide | exact fits_of (by decide) (by decide) | apply And.intro)) (by decide) q2 (by decide) (by simp) hgl) (sub_mkT (by simp; exact ⟨rfl, rfl⟩))
      · exact SimC.weaken (SimC.run (B' := [PB s m0 m1 n f, bwR [2] [1, 2]]) g7_ok (by decide) (bw23 s m0 m1 n f) (by simp only [allC_cons, allC_nil, and_true]; (repeat' first | trivial | decide | exact fits_of (by decide) (by decide) | apply And.intro)) (by decide) q2 (by decide) (by simp) hgl) (sub_mkT (by simp; exact ⟨rfl, rfl⟩))
      · exact SimC.weaken (SimC.run (B' := [PB s m0 m1 n f, bwR [1, 2] []]) g7_ok (by decide) (bw30 s m0 m1 n f) (by simp only [allC_cons, allC_nil, and_true]; (repeat' first | trivial | decide | exact fits_of (by decide) (by decide) | apply And.intro)) (by decide) q2 (by decide) (by simp) hgl) (sub_mkT (by simp; exact ⟨rfl, rfl⟩))
      · exact SimC.weaken (SimC.run (B' := [PB s m0 m1 n f, bwR [1, 2] [1]]) g7_ok (by decide) (bw31 s m0 m1 n f) (by simp only [allC_cons, allC_nil, and_true]; (repeat' first | trivial | decide | exact fits_of (by decide) (by decide) | apply And.intro)) (by decide) q2 (by decide) (by simp) hgl) (sub_mkT (by simp; exact ⟨rfl, rfl⟩))
      · exact SimC.weaken (SimC.run (B' := [PB s m0 m1 n f, bwR [1, 2] [2]]) g7_ok (by decide) (bw32 s m0 m1 n f) (by simp only [allC_cons, allC_nil, and_true]; (repeat' first | trivial | decide | exact fits_of (by decide) (by decide) | apply And.intro)) (by decide) q2 (by decide) (by simp) hgl) (sub_mkT (by simp; exact ⟨rfl, rfl⟩))
      · exact SimC.weaken (SimC.run (B' := [PB s m0 m1 n f, bwR [1, 2] [1, 2]]) g7_ok (by decide) (bw33 s m0 m1 n f) (by simp only [allC_cons, allC_nil, and_true]; (repeat' first | trivial | decide | exact fits_of (by decide) (by decide) | apply And.intro)) (by decide) q2 (by decide) (by simp) hgl) (sub_mkT (by simp; exact ⟨rfl, rfl⟩))
    · simp at hG
  · simp at hG
end Go.Proofs.Tryd
