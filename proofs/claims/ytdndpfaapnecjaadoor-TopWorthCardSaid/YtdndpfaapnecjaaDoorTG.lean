/- Accounts of this seat's functions: lemmas, no statement of their own. No conditions. -/
import Derived.Test.YtdndpfaapnecjaaDoorTE
namespace Go.Proofs.Tryd
open Go Go.Vx
/-! ### the document's Check: F4 -/
def errTo (p : Nat → Int) : Nat → Int
  | 0 => 0
  | n + 1 => if errTo p n = 0 then p n else errTo p n
theorem errTo_zero {p : Nat → Int} : ∀ {n : Nat}, errTo p n = 0 → ∀ j, j < n → p j = 0
  | 0, _, j, hj => absurd hj (Nat.not_lt_zero j)
  | n + 1, h, j, hj => by
    unfold errTo at h
    split at h
    · rename_i h0
      rcases Nat.lt_or_ge j n with h1 | h1
      · exact errTo_zero h0 j h1
      · rw [show j = n by omega]; exact h
    · rename_i h0; exact absurd h h0
theorem errTo_first {p : Nat → Int} : ∀ {n : Nat}, ¬ errTo p n = 0 → ∃ i, i < n ∧ (∀ j, j < i → p j = 0) ∧ p i = errTo p n
  | 0, h => absurd rfl h
  | n + 1, h => by
    by_cases h0 : errTo p n = 0
    · exact ⟨n, by omega, errTo_zero h0, by simp [errTo, h0]⟩
    · obtain ⟨i, h1, h2, h3⟩ := errTo_first h0
      exact ⟨i, by omega, h2, by simp [errTo, h0, h3]⟩
/-- the state behind k tokens of a line -/
def stL (x : Nat → Bool) (s : Int) (l : List Int) : Nat → Nat → Bool
  | 0 => x
  | k + 1 => tokX (nrm 12 (stL x s l k)) s (l.getD k 0)
def tkErr (x : Nat → Bool) (s : Int) (l : List Int) (n : Nat) : Int := errTo (fun k => tokE (nrm 12 (stL x s l k)) s (l.getD k 0)) n
/-- the state ahead of a line -/
def stP (x : Nat → Bool) (fr : Nat → Int) (tk : Nat → List Int) : Nat → Nat → Bool
  | 0 => x
  | i + 1 => stL (nrm 12 (stP x fr tk i)) (fr i) (tk i) (tk i).length
def lnErr (x : Nat → Bool) (fr : Nat → Int) (tk : Nat → List Int) (i : Nat) : Int :=
  if tkErr (nrm 12 (stP x fr tk i)) (fr i) (tk i) (tk i).length = 0 then (if safeR (nrm 12 (stP x fr tk (i + 1))) (fr i) = true then 0 else 12) else tkErr (nrm 12 (stP x fr tk i)) (fr i) (tk i) (tk i).length
def ckErr (x : Nat → Bool) (fr : Nat → Int) (tk : Nat → List Int) (n : Nat) : Int := errTo (lnErr x fr tk) n
abbrev c4i : List Nat := [1, 3, 4, 5, 6]
noncomputable abbrev c4I : Code := bodyAt Tryd.prog 4 9
abbrev c4J (i k : Int) : List SV := [.ptr 0 0, .ptr 1 0, .int .i64 i, .ptr 2 0, .int .i64 k]
abbrev c4B (s : ByteArray) (l0 l1 : List Int) (n : Nat) (f : Nat → SV) (x : Nat → Bool) (v : Int) (l : List Int) : List Body := [PB s l0 l1 n f, .cells (SX 12 x), LnB v l]
theorem r3_parts4 {α β γ δ : Type} {x : Option (α × β × γ × δ)} {a : α} {b : β} {c : γ} {d : δ} (h1 : x.map (·.1) = some a) (h2 : x.map (·.2.1) = some b) (h3 : x.map (·.2.2.1) = some c) (h4 : x.map (·.2.2.2) = some d) : x = some (a, b, c, d) := by
  cases x with
  | none => simp at h1
  | some y => obtain ⟨y1, y2, y3, y4⟩ := y; simp at h1 h2 h3 h4; simp [h1, h2, h3, h4]
theorem c4i_go (s : ByteArray) (l0 l1 : List Int) (n : Nat) (f : Nat → SV) (x : Nat → Bool) (v : Int) (l : List Int) (i k : Int) : runC g3 600 67 [.br true, .br false] c4I (c4i.zip (c4J i k)) (c4B s l0 l1 n f x v l) c4i [0, 1, 2] =
    some (Ex.normal, [SV.ptr (0 : Nat) (0 : Nat), SV.ptr (1 : Nat) (0 : Nat), SV.int IntKind.i64 i, SV.ptr (2 : Nat) (0 : Nat), SV.int IntKind.i64 (k + (1 : Int))], [some (Body.cells [SV.raw (Value.string s), SV.roi IntKind.i64 l0, SV.roi IntKind.i64 l1, SV.ro (2 : Nat) n f]), some (Body.cells (SX 12 (tokX (nrm 12 x) v (l.getD k.toNat (0 : Int))))), some (Body.cells [SV.int IntKind.i64 v, SV.roi IntKind.i64 l])], [Fits IntKind.i64 (↑l.length : Int), decide (k < (↑l.length : Int)) = true, (v = (0 : Int) ∨ v = (1 : Int)) ∧ (1 : Int) ≤ l.getD k.toNat (0 : Int) ∧ l.getD k.toNat (0 : Int) ≤ (7 : Int), (0 : Int) ≤ k ∧ k < (↑l.length : Int), (!decide (tokE (nrm 12 x) v (l.getD k.toNat (0 : Int)) = (0 : Int))) = false, Fits IntKind.i64 (k + (1 : Int))]) := by kernel_rfl
theorem c4i_ret (s : ByteArray) (l0 l1 : List Int) (n : Nat) (f : Nat → SV) (x : Nat → Bool) (v : Int) (l : List Int) (i k : Int) : runC g3 600 67 [.br true, .br true] c4I (c4i.zip (c4J i k)) (c4B s l0 l1 n f x v l) [2] [] =
    some (Ex.ret, [SV.int IntKind.i64 (tokE (nrm 12 x) v (l.getD k.toNat (0 : Int)))], [], [Fits IntKind.i64 (↑l.length : Int), decide (k < (↑l.length : Int)) = true, (v = (0 : Int) ∨ v = (1 : Int)) ∧ (1 : Int) ≤ l.getD k.toNat (0 : Int) ∧ l.getD k.toNat (0 : Int) ≤ (7 : Int), (0 : Int) ≤ k ∧ k < (↑l.length : Int), (!decide (tokE (nrm 12 x) v (l.getD k.toNat (0 : Int)) = (0 : Int))) = true]) := by kernel_rfl
theorem c4i_end (s : ByteArray) (l0 l1 : List Int) (n : Nat) (f : Nat → SV) (x : Nat → Bool) (v : Int) (l : List Int) (i k : Int) : runC g3 600 67 [.br false] c4I (c4i.zip (c4J i k)) (c4B s l0 l1 n f x v l) [1, 3, 4, 5] [0, 1, 2] =
    some (Ex.exit (2 : Nat), [SV.ptr (0 : Nat) (0 : Nat), SV.ptr (1 : Nat) (0 : Nat), SV.int IntKind.i64 i, SV.ptr (2 : Nat) (0 : Nat)], [some (Body.cells [SV.raw (Value.string s), SV.roi IntKind.i64 l0, SV.roi IntKind.i64 l1, SV.ro (2 : Nat) n f]), some (Body.cells (SX 12 x)), some (Body.cells [SV.int IntKind.i64 v, SV.roi IntKind.i64 l])], [Fits IntKind.i64 (↑l.length : Int), decide (k < (↑l.length : Int)) = false]) := by kernel_rfl
theorem pb_refl (s : ByteArray) (l0 l1 : List Int) (n : Nat) (f : Nat → SV) : BImp (PB s l0 l1 n f) (PB s l0 l1 n f) ∧ ∀ l, PB s l0 l1 n f = .cells l → flatL l := ⟨.refl _, fun l e => by
  injection e with e; subst e
  intro c hc
  simp only [List.mem_cons, List.not_mem_nil, or_false] at hc
  rcases hc with rfl | rfl | rfl | rfl <;> rfl⟩
theorem ln_refl (v : Int) (l : List Int) : BImp (LnB v l) (LnB v l) ∧ ∀ l', LnB v l = .cells l' → flatL l' := ⟨.refl _, fun l' e => by
  injection e with e; subst e
  intro c hc
  simp only [List.mem_cons, List.not_mem_nil, or_false] at hc
  rcases hc with rfl | rfl <;> rfl⟩
theorem q012 : ∀ j : Nat, j < 3 → ([0, 1, 2] : List Nat)[j]? = some j := fun j hj => by
  match j, hj with
  | 0, _ => rfl
  | 1, _ => rfl
  | 2, _ => rfl
theorem q2 : ∀ j : Nat, j < 2 → ([0, 1] : List Nat)[j]? = some j := fun j hj => by
  match j, hj with
  | 0, _ => rfl
  | 1, _ => rfl
noncomputable def c4ie : LoopF := fun vals B => match vals, B with
  | [.ptr 0 0, .ptr 1 0, .int .i64 i, .ptr 2 0, .int .i64 0], [.cells [.raw (.string s), .roi .i64 l0, .roi .i64 l1, .ro 2 n f], .cells cs, .cells [.int .i64 v, .roi .i64 l]] => match sxOf 12 cs with
    | some x => some ([(1, .ptr 0 0), (3, .ptr 1 0), (4, .int .i64 i), (5, .ptr 2 0)], [PB s l0 l1 n f, .cells (SX 12 (stL x v l l.length)), LnB v l], [Fits .i64 (l.length : Int), v = 0 ∨ v = 1, tksB l = true, tkErr x v l l.length = 0])
    | none => none
  | _, _ => none
theorem c4i_e : LoopGood g3 67 (.loop c4I) c4i 3 (.exit 2) (mkLoopN c4ie) := by
  refine LoopGood.mkN (by decide) fun vals B S' B' C hG hC hlen w0 O hgl => ?_
  clear hlen
  unfold c4ie at hG
  split at hG
  · rename_i i s l0 l1 n f cs v l
    split at hG
    · rename_i x hx
      simp only [Option.some.injEq, Prod.mk.injEq] at hG
      obtain ⟨rfl, rfl, rfl⟩ := hG
      simp only [allC_cons, allC_nil, and_true] at hC
      obtain ⟨F, hv, ht, he⟩ := hC
      have F' := fits_int F
      unfold tksB at ht
      have ht := allB_iff.1 ht
      refine SimC.preI (B1 := c4B s l0 l1 n f x v l) ?_ ⟨pb_refl _ _ _ _ _, sx_cells hx, ln_refl _ _, trivial⟩
      have he := errTo_zero he
      · refine SimC.iter (g := g3) (e := .exit 2) (S := fun k => c4i.zip (c4J i (k : Int))) (B := fun k => c4B s l0 l1 n f (stL x v l k) v l) (N := l.length) (fun k hk => ?_) ?_ (by simp) 0 (by omega)
        · have ht := tkB_iff.1 (ht k (by omega))
          have he := he k (by omega)
          exact SimC.run (B' := c4B s l0 l1 n f (stL x v l (k + 1)) v l) g3_ok (by decide) (c4i_go s l0 l1 n f (stL x v l k) v l i (k : Int)) (by simp only [allC_cons, allC_nil, and_true, frO_ln, tkO_ln, decide_eq_true_eq, decide_eq_false_iff_not, Bool.not_eq_true', Bool.not_eq_false', Int.toNat_natCast, toNat_sub1]; (repeat' first | trivial | assumption | omega | exact fits_of (by omega) (by omega) | rfl | apply And.intro)) (by decide) (q012) (by decide) (by simp) hgl
        · exact SimC.weaken (SimC.run (B' := [PB s l0 l1 n f, .cells (SX 12 (stL x v l l.length)), LnB v l]) g3_ok (by decide) (c4i_end s l0 l1 n f (stL x v l l.length) v l i (l.length : Int)) (by simp only [allC_cons, allC_nil, and_true, frO_ln, tkO_ln, decide_eq_true_eq, decide_eq_false_iff_not, Bool.not_eq_true', Bool.not_eq_false', Int.toNat_natCast, toNat_sub1]; (repeat' first | trivial | assumption | omega | exact fits_of (by omega) (by omega) | rfl | apply And.intro)) (by decide) q012 (by decide) (by simp) hgl) (sub_mkT (by simp; exact ⟨rfl, rfl, rfl, rfl⟩))
    · simp at hG
  · simp at hG
noncomputable def c4ir : LoopF := fun vals B => match vals, B with
  | [.ptr 0 0, .ptr 1 0, .int .i64 i, .ptr 2 0, .int .i64 0], [.cells [.raw (.string s), .roi .i64 l0, .roi .i64 l1, .ro 2 n f], .cells cs, .cells [.int .i64 v, .roi .i64 l]] => match sxOf 12 cs with
    | some x => some ([(2, .int .i64 (tkErr x v l l.length))], [], [Fits .i64 (l.length : Int), v = 0 ∨ v = 1, tksB l = true, ¬ tkErr x v l l.length = 0])
    | none => none
  | _, _ => none
theorem c4i_r : LoopGood g3 67 (.loop c4I) c4i 0 (.ret) (mkLoopN c4ir) := by
  refine LoopGood.mkN (by decide) fun vals B S' B' C hG hC hlen w0 O hgl => ?_
  clear hlen
  unfold c4ir at hG
  split at hG
  · rename_i i s l0 l1 n f cs v l
    split at hG
    · rename_i x hx
      simp only [Option.some.injEq, Prod.mk.injEq] at hG
      obtain ⟨rfl, rfl, rfl⟩ := hG
      simp only [allC_cons, allC_nil, and_true] at hC
      obtain ⟨F, hv, ht, he⟩ := hC
      have F' := fits_int F
      unfold tksB at ht
      have ht := allB_iff.1 ht
      refine SimC.preI (B1 := c4B s l0 l1 n f x v l) ?_ ⟨pb_refl _ _ _ _ _, sx_cells hx, ln_refl _ _, trivial⟩
      obtain ⟨j, hj, he, hee⟩ := errTo_first he
      rw [show tkErr x v l l.length = tokE (nrm 12 (stL x v l j)) v (l.getD j 0) from hee.symm]
      have hne : ¬ tokE (nrm 12 (stL x v l j)) v (l.getD j 0) = 0 := by have h0 := hee; intro h1; exact absurd (h0.symm.trans h1) (by assumption)
      · refine SimC.iter (g := g3) (e := .ret) (S := fun k => c4i.zip (c4J i (k : Int))) (B := fun k => c4B s l0 l1 n f (stL x v l k) v l) (N := j) (fun k hk => ?_) ?_ (by simp) 0 (by omega)
        · have ht := tkB_iff.1 (ht k (by omega))
          have he := he k (by omega)
          exact SimC.run (B' := c4B s l0 l1 n f (stL x v l (k + 1)) v l) g3_ok (by decide) (c4i_go s l0 l1 n f (stL x v l k) v l i (k : Int)) (by simp only [allC_cons, allC_nil, and_true, frO_ln, tkO_ln, decide_eq_true_eq, decide_eq_false_iff_not, Bool.not_eq_true', Bool.not_eq_false', Int.toNat_natCast, toNat_sub1]; (repeat' first | trivial | assumption | omega | exact fits_of (by omega) (by omega) | rfl | apply And.intro)) (by decide) (qn _) (by decide) (by simp) hgl
        · have ht := tkB_iff.1 (ht j (by omega))
          exact SimC.weaken (SimC.run (B' := []) g3_ok (by decide) (c4i_ret s l0 l1 n f (stL x v l j) v l i (j : Int)) (by simp only [allC_cons, allC_nil, and_true, frO_ln, tkO_ln, decide_eq_true_eq, decide_eq_false_iff_not, Bool.not_eq_true', Bool.not_eq_false', Int.toNat_natCast, toNat_sub1]; (repeat' first | trivial | assumption | omega | exact fits_of (by omega) (by omega) | rfl | apply And.intro)) (by decide) (qn _) (by decide) (by simp) hgl) (sub_mkT (by simp; exact rfl))
    · simp at hG
  · simp at hG
abbrev c4o : List Nat := [1, 3, 4]
noncomputable abbrev c4O : Code := bodyAt Tryd.prog 4 5
abbrev c4V (i : Int) : List SV := [.ptr 0 0, .ptr 1 0, .int .i64 i]
theorem c4o_go (s : ByteArray) (l0 l1 : List Int) (n : Nat) (fr : Nat → Int) (tk : Nat → List Int) (x : Nat → Bool) (i : Nat) : runC g3 900 67 [.br true, .loop 9 c4i 3 (.exit 2) (mkLoopN c4ie), .br false] c4O (c4o.zip (c4V (i : Int))) [PB s l0 l1 n (lnF fr tk), .cells (SX 12 x)] c4o [0, 1] =
    some (Ex.normal, [SV.ptr (0 : Nat) (0 : Nat), SV.ptr (1 : Nat) (0 : Nat), SV.int IntKind.i64 ((↑i : Int) + (1 : Int))], [some (Body.cells [SV.raw (Value.string s), SV.roi IntKind.i64 l0, SV.roi IntKind.i64 l1, SV.ro (2 : Nat) n (lnF fr tk)]), some (Body.cells (SX 12 (stL (nrm 12 x) (fr i) (tk i) (tk i).length)))], [Fits IntKind.i64 (↑n : Int), decide ((↑i : Int) < (↑n : Int)) = true, (0 : Int) ≤ (↑i : Int) ∧ (↑i : Int) < (↑n : Int), LoopGood g3 67 (.loop c4I) c4i 3 (.exit 2) (mkLoopN c4ie), Fits IntKind.i64 (↑(tk i).length : Int), fr (↑i : Int).toNat = (0 : Int) ∨ fr (↑i : Int).toNat = (1 : Int), tksB (tk i) = true, tkErr (nrm 12 x) (fr i) (tk i) (tk i).length = (0 : Int), fr (↑i : Int).toNat = (0 : Int) ∨ fr (↑i : Int).toNat = (1 : Int), (!safeR (fun i_1 => [stL (nrm 12 x) (fr i) (tk i) (tk i).length (0 : Nat), stL (nrm 12 x) (fr i) (tk i) (tk i).length (1 : Nat), stL (nrm 12 x) (fr i) (tk i) (tk i).length (2 : Nat), stL (nrm 12 x) (fr i) (tk i) (tk i).length (3 : Nat), stL (nrm 12 x) (fr i) (tk i) (tk i).length (4 : Nat), stL (nrm 12 x) (fr i) (tk i) (tk i).length (5 : Nat), stL (nrm 12 x) (fr i) (tk i) (tk i).length (6 : Nat), stL (nrm 12 x) (fr i) (tk i) (tk i).length (7 : Nat), stL (nrm 12 x) (fr i) (tk i) (tk i).length (8 : Nat), stL (nrm 12 x) (fr i) (tk i) (tk i).length (9 : Nat), stL (nrm 12 x) (fr i) (tk i) (tk i).length (10 : Nat), stL (nrm 12 x) (fr i) (tk i) (tk i).length (11 : Nat)].getD i_1 false) (fr i)) = false, Fits IntKind.i64 ((↑i : Int) + (1 : Int))]) := by kernel_rfl
theorem c4o_tok (s : ByteArray) (l0 l1 : List Int) (n : Nat) (fr : Nat → Int) (tk : Nat → List Int) (x : Nat → Bool) (i : Nat) : runC g3 900 67 [.br true, .loop 9 c4i 0 .ret (mkLoopN c4ir)] c4O (c4o.zip (c4V (i : Int))) [PB s l0 l1 n (lnF fr tk), .cells (SX 12 x)] [2] [] =
    some (Ex.ret, [SV.int IntKind.i64 (tkErr (nrm 12 x) (fr i) (tk i) (tk i).length)], [], [Fits IntKind.i64 (↑n : Int), decide ((↑i : Int) < (↑n : Int)) = true, (0 : Int) ≤ (↑i : Int) ∧ (↑i : Int) < (↑n : Int), LoopGood g3 67 (.loop c4I) c4i 0 .ret (mkLoopN c4ir), Fits IntKind.i64 (↑(tk i).length : Int), fr (↑i : Int).toNat = (0 : Int) ∨ fr (↑i : Int).toNat = (1 : Int), tksB (tk i) = true, ¬tkErr (nrm 12 x) (fr (↑i : Int).toNat) (tk (↑i : Int).toNat) (tk (↑i : Int).toNat).length = (0 : Int)]) := by kernel_rfl
theorem c4o_safe (s : ByteArray) (l0 l1 : List Int) (n : Nat) (fr : Nat → Int) (tk : Nat → List Int) (x : Nat → Bool) (i : Nat) : runC g3 900 67 [.br true, .loop 9 c4i 3 (.exit 2) (mkLoopN c4ie), .br true] c4O (c4o.zip (c4V (i : Int))) [PB s l0 l1 n (lnF fr tk), .cells (SX 12 x)] [2] [] =
    some (Ex.ret, [SV.lit IntKind.i64 (12 : Int)], [], [Fits IntKind.i64 (↑n : Int), decide ((↑i : Int) < (↑n : Int)) = true, (0 : Int) ≤ (↑i : Int) ∧ (↑i : Int) < (↑n : Int), LoopGood g3 67 (.loop c4I) c4i 3 (.exit 2) (mkLoopN c4ie), Fits IntKind.i64 (↑(tk i).length : Int), fr (↑i : Int).toNat = (0 : Int) ∨ fr (↑i : Int).toNat = (1 : Int), tksB (tk i) = true, tkErr (nrm 12 x) (fr i) (tk i) (tk i).length = (0 : Int), fr (↑i : Int).toNat = (0 : Int) ∨ fr (↑i : Int).toNat = (1 : Int), (!safeR (fun i_1 => [stL (nrm 12 x) (fr i) (tk i) (tk i).length (0 : Nat), stL (nrm 12 x) (fr i) (tk i) (tk i).length (1 : Nat), stL (nrm 12 x) (fr i) (tk i) (tk i).length (2 : Nat), stL (nrm 12 x) (fr i) (tk i) (tk i).length (3 : Nat), stL (nrm 12 x) (fr i) (tk i) (tk i).length (4 : Nat), stL (nrm 12 x) (fr i) (tk i) (tk i).length (5 : Nat), stL (nrm 12 x) (fr i) (tk i) (tk i).length (6 : Nat), stL (nrm 12 x) (fr i) (tk i) (tk i).length (7 : Nat), stL (nrm 12 x) (fr i) (tk i) (tk i).length (8 : Nat), stL (nrm 12 x) (fr i) (tk i) (tk i).length (9 : Nat), stL (nrm 12 x) (fr i) (tk i) (tk i).length (10 : Nat), stL (nrm 12 x) (fr i) (tk i) (tk i).length (11 : Nat)].getD i_1 false) (fr i)) = true]) := by kernel_rfl
theorem c4o_end (s : ByteArray) (l0 l1 : List Int) (n : Nat) (fr : Nat → Int) (tk : Nat → List Int) (x : Nat → Bool) (i : Nat) : runC g3 900 67 [.br false] c4O (c4o.zip (c4V (i : Int))) [PB s l0 l1 n (lnF fr tk), .cells (SX 12 x)] [1, 3] [0, 1] =
    some (Ex.exit (0 : Nat), [SV.ptr (0 : Nat) (0 : Nat), SV.ptr (1 : Nat) (0 : Nat)], [some (Body.cells [SV.raw (Value.string s), SV.roi IntKind.i64 l0, SV.roi IntKind.i64 l1, SV.ro (2 : Nat) n (lnF fr tk)]), some (Body.cells (SX 12 x))], [Fits IntKind.i64 (↑n : Int), decide ((↑i : Int) < (↑n : Int)) = false]) := by kernel_rfl
end Go.Proofs.Tryd

namespace Go.Proofs.Tryd
open Go Go.Vx
/-! ### the document's Check: its lines -/
noncomputable def c4oe : LoopF := fun vals B => match vals, B with
  | [.ptr 0 0, .ptr 1 0, .int .i64 0], [.cells [.raw (.string s), .roi .i64 l0, .roi .i64 l1, .ro 2 n f], .cells cs] => match sxOf 12 cs with
    | some x => some ([(1, .ptr 0 0), (3, .ptr 1 0)], [PB s l0 l1 n f, .cells (SX 12 (stP x (frO f) (tkO f) n))], pC l0 l1 n f ++ [allB (lineOk (frO f) (tkO f)) n = true, ckErr x (frO f) (tkO f) n = 0])
    | none => none
  | _, _ => none
theorem c4o_e : LoopGood g3 67 (.loop c4O) c4o 2 (.exit 0) (mkLoopN c4oe) := by
  refine LoopGood.mkN (by decide) fun vals B S' B' C hG hC hlen w0 O hgl => ?_
  clear hlen
  unfold c4oe at hG
  split at hG
  · rename_i s l0 l1 n f cs
    split at hG
    · rename_i x hx
      simp only [Option.some.injEq, Prod.mk.injEq] at hG
      obtain ⟨rfl, rfl, rfl⟩ := hG
      simp only [pC, allC_append, allC_cons, allC_nil, and_true] at hC
      obtain ⟨⟨hf, Fn, Fl0, Fl1, hT⟩, ho, he⟩ := hC
      refine SimC.preI (B1 := [PB s l0 l1 n f, .cells (SX 12 x)]) ?_ ⟨pb_refl _ _ _ _ _, sx_cells hx, trivial⟩
      clear hx
      generalize frO f = fr at *
      generalize tkO f = tk at *
      subst hf
      have Fn' := fits_int Fn
      have ho := allB_iff.1 ho
      have hL := c4i_e
      have hLr := c4i_r
      have he := errTo_zero he
      · refine SimC.iter (g := g3) (e := .exit 0) (S := fun i => c4o.zip (c4V (i : Int))) (B := fun i => [PB s l0 l1 n (lnF fr tk), .cells (SX 12 (stP x fr tk i))]) (N := n) (fun i hi => ?_) ?_ (by simp) 0 (by omega)
        · obtain ⟨hfr, hal, hne, hs, htk⟩ := lineOk_iff.1 (ho i (by omega))
          have hT := hT i (by omega)
          have Fl : Fits .i64 ((tk i).length : Int) := fits_of (by omega) (by omega)
          have he := he i (by omega)
          unfold lnErr at he
          have h1 : tkErr (nrm 12 (stP x fr tk i)) (fr i) (tk i) (tk i).length = 0 := by
            by_cases h1 : tkErr (nrm 12 (stP x fr tk i)) (fr i) (tk i) (tk i).length = 0
            · exact h1
            · rw [if_neg h1] at he; exact absurd he h1
          rw [if_pos h1] at he
          have h2 : safeR (nrm 12 (stP x fr tk (i + 1))) (fr i) = true := by
            by_cases h2 : safeR (nrm 12 (stP x fr tk (i + 1))) (fr i) = true
            · exact h2
            · rw [if_neg h2] at he; exact absurd he (by decide)
          exact SimC.run (B' := [PB s l0 l1 n (lnF fr tk), .cells (SX 12 (stP x fr tk (i + 1)))]) g3_ok (by decide) (c4o_go s l0 l1 n fr tk (stP x fr tk i) i) (by simp only [allC_append, allC_cons, allC_nil, and_true, frO_ln, tkO_ln, decide_eq_true_eq, decide_eq_false_iff_not, Bool.not_eq_true', Bool.not_eq_false', Int.toNat_natCast, toNat_sub1]; (repeat' first | trivial | assumption | omega | exact fits_of (by omega) (by omega) | rfl | apply And.intro)) (by decide) (q2) (by decide) (by simp) hgl
        · exact SimC.weaken (SimC.run (B' := [PB s l0 l1 n (lnF fr tk), .cells (SX 12 (stP x fr tk n))]) g3_ok (by decide) (c4o_end s l0 l1 n fr tk (stP x fr tk n) n) (by simp only [allC_append, allC_cons, allC_nil, and_true, frO_ln, tkO_ln, decide_eq_true_eq, decide_eq_false_iff_not, Bool.not_eq_true', Bool.not_eq_false', Int.toNat_natCast, toNat_sub1]; (repeat' first | trivial | assumption | omega | exact fits_of (by omega) (by omega) | rfl | apply And.intro)) (by decide) q2 (by decide) (by simp) hgl) (sub_mkT (by simp; exact ⟨rfl, rfl⟩))
    · simp at hG
  · simp at hG
noncomputable def c4or : LoopF := fun vals B => match vals, B with
  | [.ptr 0 0, .ptr 1 0, .int .i64 0], [.cells [.raw (.string s), .roi .i64 l0, .roi .i64 l1, .ro 2 n f], .cells cs] => match sxOf 12 cs with
    | some x => some ([(2, .int .i64 (ckErr x (frO f) (tkO f) n))], [], pC l0 l1 n f ++ [allB (lineOk (frO f) (tkO f)) n = true, ¬ ckErr x (frO f) (tkO f) n = 0])
    | none => none
  | _, _ => none
theorem c4o_r : LoopGood g3 67 (.loop c4O) c4o 0 (.ret) (mkLoopN c4or) := by
  refine LoopGood.mkN (by decide) fun vals B S' B' C hG hC hlen w0 O hgl => ?_
  clear hlen
  unfold c4or at hG
  split at hG
  · rename_i s l0 l1 n f cs
    split at hG
    · rename_i x hx
      simp only [Option.some.injEq, Prod.mk.injEq] at hG
      obtain ⟨rfl, rfl, rfl⟩ := hG
      simp only [pC, allC_append, allC_cons, allC_nil, and_true] at hC
      obtain ⟨⟨hf, Fn, Fl0, Fl1, hT⟩, ho, he⟩ := hC
      refine SimC.preI (B1 := [PB s l0 l1 n f, .cells (SX 12 x)]) ?_ ⟨pb_refl _ _ _ _ _, sx_cells hx, trivial⟩
      clear hx
      generalize frO f = fr at *
      generalize tkO f = tk at *
      subst hf
      have Fn' := fits_int Fn
      have ho := allB_iff.1 ho
      have hL := c4i_e
      have hLr := c4i_r
      have hne0 := he
      obtain ⟨j, hj, he, hee⟩ := errTo_first he
      have hee : lnErr x fr tk j = ckErr x fr tk n := hee
      rw [← hee]
      rw [← hee] at hne0
      · refine SimC.iter (g := g3) (e := .ret) (S := fun i => c4o.zip (c4V (i : Int))) (B := fun i => [PB s l0 l1 n (lnF fr tk), .cells (SX 12 (stP x fr tk i))]) (N := j) (fun i hi => ?_) ?_ (by simp) 0 (by omega)
        · obtain ⟨hfr, hal, hne, hs, htk⟩ := lineOk_iff.1 (ho i (by omega))
          have hT := hT i (by omega)
          have Fl : Fits .i64 ((tk i).length : Int) := fits_of (by omega) (by omega)
          have he := he i (by omega)
          unfold lnErr at he
          have h1 : tkErr (nrm 12 (stP x fr tk i)) (fr i) (tk i) (tk i).length = 0 := by
            by_cases h1 : tkErr (nrm 12 (stP x fr tk i)) (fr i) (tk i) (tk i).length = 0
            · exact h1
            · rw [if_neg h1] at he; exact absurd he h1
          rw [if_pos h1] at he
          have h2 : safeR (nrm 12 (stP x fr tk (i + 1))) (fr i) = true := by
            by_cases h2 : safeR (nrm 12 (stP x fr tk (i + 1))) (fr i) = true
            · exact h2
            · rw [if_neg h2] at he; exact absurd he (by decide)
          exact SimC.run (B' := [PB s l0 l1 n (lnF fr tk), .cells (SX 12 (stP x fr tk (i + 1)))]) g3_ok (by decide) (c4o_go s l0 l1 n fr tk (stP x fr tk i) i) (by simp only [allC_append, allC_cons, allC_nil, and_true, frO_ln, tkO_ln, decide_eq_true_eq, decide_eq_false_iff_not, Bool.not_eq_true', Bool.not_eq_false', Int.toNat_natCast, toNat_sub1]; (repeat' first | trivial | assumption | omega | exact fits_of (by omega) (by omega) | rfl | apply And.intro)) (by decide) (qn _) (by decide) (by simp) hgl
        · obtain ⟨hfr, hal, hne, hs, htk⟩ := lineOk_iff.1 (ho j (by omega))
          have hT := hT j (by omega)
          have Fl : Fits .i64 ((tk j).length : Int) := fits_of (by omega) (by omega)
          by_cases h1 : tkErr (nrm 12 (stP x fr tk j)) (fr j) (tk j) (tk j).length = 0
          · have h2 : safeR (nrm 12 (stP x fr tk (j + 1))) (fr j) = false := by
              cases h2 : safeR (nrm 12 (stP x fr tk (j + 1))) (fr j) with
              | false => rfl
              | true => unfold lnErr at hne0; rw [if_pos h1, if_pos h2] at hne0; exact absurd rfl hne0
            rw [show lnErr x fr tk j = 12 by unfold lnErr; rw [if_pos h1, if_neg (by rw [h2]; decide)]]
            refine SimC.weakenI (SimC.run (B' := []) g3_ok (by decide) (c4o_safe s l0 l1 n fr tk (stP x fr tk j) j) (by simp only [allC_append, allC_cons, allC_nil, and_true, frO_ln, tkO_ln, decide_eq_true_eq, decide_eq_false_iff_not, Bool.not_eq_true', Bool.not_eq_false', Int.toNat_natCast, toNat_sub1]; (repeat' first | trivial | assumption | omega | exact fits_of (by omega) (by omega) | rfl | apply And.intro)) (by decide) (qn _) (by decide) (by simp) hgl) fun y hy => ?_
            simp only [List.mem_cons, List.not_mem_nil, or_false] at hy
            subst hy
            exact ⟨by decide, i_lit _ _⟩
          · rw [show lnErr x fr tk j = tkErr (nrm 12 (stP x fr tk j)) (fr j) (tk j) (tk j).length by unfold lnErr; rw [if_neg h1]]
            exact SimC.weaken (SimC.run (B' := []) g3_ok (by decide) (c4o_tok s l0 l1 n fr tk (stP x fr tk j) j) (by simp only [allC_append, allC_cons, allC_nil, and_true, frO_ln, tkO_ln, decide_eq_true_eq, decide_eq_false_iff_not, Bool.not_eq_true', Bool.not_eq_false', Int.toNat_natCast, toNat_sub1]; (repeat' first | trivial | assumption | omega | exact fits_of (by omega) (by omega) | rfl | apply And.intro)) (by decide) (qn _) (by decide) (by simp) hgl) (sub_mkT (by simp; exact rfl))
    · simp at hG
  · simp at hG
theorem ck_9 (s : ByteArray) (l0 l1 : List Int) (n : Nat) (fr : Nat → Int) (tk : Nat → List Int) : runF g3 900 [.br true] 4 [PA s l0 l1 n (lnF fr tk)] [] [] =
    some (SV.lit IntKind.i64 (9 : Int), [], [lnF fr tk = lnF (frO (lnF fr tk)) (tkO (lnF fr tk)), Fits IntKind.i64 (↑n : Int), Fits IntKind.i64 (↑l0.length : Int), Fits IntKind.i64 (↑l1.length : Int), ∀ (i : Nat), i < n → (tkO (lnF fr tk) i).length ≤ (140737488351232 : Nat), (!shapedR l0 l1 n (frO (lnF fr tk)) (tkO (lnF fr tk))) = true]) := by kernel_rfl
theorem ck_r (s : ByteArray) (l0 l1 : List Int) (n : Nat) (fr : Nat → Int) (tk : Nat → List Int) : runF g3 900 [.br false, .loop 5 c4o 0 .ret (mkLoopN c4or)] 4 [PA s l0 l1 n (lnF fr tk)] [] [] =
    some (SV.int IntKind.i64 (ckErr (nrm 12 (begR l0 l1)) (frO (lnF fr tk)) (tkO (lnF fr tk)) n), [], [lnF fr tk = lnF (frO (lnF fr tk)) (tkO (lnF fr tk)), Fits IntKind.i64 (↑n : Int), Fits IntKind.i64 (↑l0.length : Int), Fits IntKind.i64 (↑l1.length : Int), ∀ (i : Nat), i < n → (tkO (lnF fr tk) i).length ≤ (140737488351232 : Nat), (!shapedR l0 l1 n (frO (lnF fr tk)) (tkO (lnF fr tk))) = false, aheadR l0 = true ∧ aheadR l1 = true, LoopGood g3 67 (.loop c4O) c4o 0 .ret (mkLoopN c4or), lnF fr tk = lnF (frO (lnF fr tk)) (tkO (lnF fr tk)), Fits IntKind.i64 (↑n : Int), Fits IntKind.i64 (↑l0.length : Int), Fits IntKind.i64 (↑l1.length : Int), ∀ (i : Nat), i < n → (tkO (lnF fr tk) i).length ≤ (140737488351232 : Nat), allB (lineOk (frO (lnF fr tk)) (tkO (lnF fr tk))) n = true, ¬ckErr (nrm 12 (begR l0 l1)) (frO (lnF fr tk)) (tkO (lnF fr tk)) n = (0 : Int)]) := by kernel_rfl
theorem ck_a (s : ByteArray) (l0 l1 : List Int) (n : Nat) (fr : Nat → Int) (tk : Nat → List Int) : runF g3 900 [.br false, .loop 5 c4o 2 (.exit 0) (mkLoopN c4oe), .br true] 4 [PA s l0 l1 n (lnF fr tk)] [] [] =
    some (SV.lit IntKind.i64 (12 : Int), [], [lnF fr tk = lnF (frO (lnF fr tk)) (tkO (lnF fr tk)), Fits IntKind.i64 (↑n : Int), Fits IntKind.i64 (↑l0.length : Int), Fits IntKind.i64 (↑l1.length : Int), ∀ (i : Nat), i < n → (tkO (lnF fr tk) i).length ≤ (140737488351232 : Nat), (!shapedR l0 l1 n (frO (lnF fr tk)) (tkO (lnF fr tk))) = false, aheadR l0 = true ∧ aheadR l1 = true, LoopGood g3 67 (.loop c4O) c4o 2 (.exit 0) (mkLoopN c4oe), lnF fr tk = lnF (frO (lnF fr tk)) (tkO (lnF fr tk)), Fits IntKind.i64 (↑n : Int), Fits IntKind.i64 (↑l0.length : Int), Fits IntKind.i64 (↑l1.length : Int), ∀ (i : Nat), i < n → (tkO (lnF fr tk) i).length ≤ (140737488351232 : Nat), allB (lineOk (frO (lnF fr tk)) (tkO (lnF fr tk))) n = true, ckErr (nrm 12 (begR l0 l1)) (frO (lnF fr tk)) (tkO (lnF fr tk)) n = (0 : Int), (!safeR (nrm 12 (stP (nrm 12 (begR l0 l1)) (frO (lnF fr tk)) (tkO (lnF fr tk)) n)) (0 : Int)) = true, (0 : Int) = (0 : Int) ∨ (0 : Int) = (1 : Int)]) := by kernel_rfl
theorem ck_b (s : ByteArray) (l0 l1 : List Int) (n : Nat) (fr : Nat → Int) (tk : Nat → List Int) : runF g3 900 [.br false, .loop 5 c4o 2 (.exit 0) (mkLoopN c4oe), .br false, .br false] 4 [PA s l0 l1 n (lnF fr tk)] [] [] =
    some (SV.lit IntKind.i64 (0 : Int), [], [lnF fr tk = lnF (frO (lnF fr tk)) (tkO (lnF fr tk)), Fits IntKind.i64 (↑n : Int), Fits IntKind.i64 (↑l0.length : Int), Fits IntKind.i64 (↑l1.length : Int), ∀ (i : Nat), i < n → (tkO (lnF fr tk) i).length ≤ (140737488351232 : Nat), (!shapedR l0 l1 n (frO (lnF fr tk)) (tkO (lnF fr tk))) = false, aheadR l0 = true ∧ aheadR l1 = true, LoopGood g3 67 (.loop c4O) c4o 2 (.exit 0) (mkLoopN c4oe), lnF fr tk = lnF (frO (lnF fr tk)) (tkO (lnF fr tk)), Fits IntKind.i64 (↑n : Int), Fits IntKind.i64 (↑l0.length : Int), Fits IntKind.i64 (↑l1.length : Int), ∀ (i : Nat), i < n → (tkO (lnF fr tk) i).length ≤ (140737488351232 : Nat), allB (lineOk (frO (lnF fr tk)) (tkO (lnF fr tk))) n = true, ckErr (nrm 12 (begR l0 l1)) (frO (lnF fr tk)) (tkO (lnF fr tk)) n = (0 : Int), (!oneR n (frO (lnF fr tk))) = false, lnF fr tk = lnF (frO (lnF fr tk)) (tkO (lnF fr tk)), Fits IntKind.i64 (↑n : Int), (!safeR (nrm 12 (stP (nrm 12 (begR l0 l1)) (frO (lnF fr tk)) (tkO (lnF fr tk)) n)) (0 : Int)) = false, (0 : Int) = (0 : Int) ∨ (0 : Int) = (1 : Int)]) := by kernel_rfl
theorem ck_c (s : ByteArray) (l0 l1 : List Int) (n : Nat) (fr : Nat → Int) (tk : Nat → List Int) : runF g3 900 [.br false, .loop 5 c4o 2 (.exit 0) (mkLoopN c4oe), .br false, .br true, .br true] 4 [PA s l0 l1 n (lnF fr tk)] [] [] =
    some (SV.lit IntKind.i64 (12 : Int), [], [lnF fr tk = lnF (frO (lnF fr tk)) (tkO (lnF fr tk)), Fits IntKind.i64 (↑n : Int), Fits IntKind.i64 (↑l0.length : Int), Fits IntKind.i64 (↑l1.length : Int), ∀ (i : Nat), i < n → (tkO (lnF fr tk) i).length ≤ (140737488351232 : Nat), (!shapedR l0 l1 n (frO (lnF fr tk)) (tkO (lnF fr tk))) = false, aheadR l0 = true ∧ aheadR l1 = true, LoopGood g3 67 (.loop c4O) c4o 2 (.exit 0) (mkLoopN c4oe), lnF fr tk = lnF (frO (lnF fr tk)) (tkO (lnF fr tk)), Fits IntKind.i64 (↑n : Int), Fits IntKind.i64 (↑l0.length : Int), Fits IntKind.i64 (↑l1.length : Int), ∀ (i : Nat), i < n → (tkO (lnF fr tk) i).length ≤ (140737488351232 : Nat), allB (lineOk (frO (lnF fr tk)) (tkO (lnF fr tk))) n = true, ckErr (nrm 12 (begR l0 l1)) (frO (lnF fr tk)) (tkO (lnF fr tk)) n = (0 : Int), (1 : Int) = (0 : Int) ∨ (1 : Int) = (1 : Int), (!oneR n (frO (lnF fr tk))) = true, lnF fr tk = lnF (frO (lnF fr tk)) (tkO (lnF fr tk)), Fits IntKind.i64 (↑n : Int), (!safeR (nrm 12 (stP (nrm 12 (begR l0 l1)) (frO (lnF fr tk)) (tkO (lnF fr tk)) n)) (0 : Int)) = false, (0 : Int) = (0 : Int) ∨ (0 : Int) = (1 : Int), (!safeR (nrm 12 (stP (nrm 12 (begR l0 l1)) (frO (lnF fr tk)) (tkO (lnF fr tk)) n)) (1 : Int)) = true]) := by kernel_rfl
theorem ck_d (s : ByteArray) (l0 l1 : List Int) (n : Nat) (fr : Nat → Int) (tk : Nat → List Int) : runF g3 900 [.br false, .loop 5 c4o 2 (.exit 0) (mkLoopN c4oe), .br false, .br true, .br false] 4 [PA s l0 l1 n (lnF fr tk)] [] [] =
    some (SV.lit IntKind.i64 (0 : Int), [], [lnF fr tk = lnF (frO (lnF fr tk)) (tkO (lnF fr tk)), Fits IntKind.i64 (↑n : Int), Fits IntKind.i64 (↑l0.length : Int), Fits IntKind.i64 (↑l1.length : Int), ∀ (i : Nat), i < n → (tkO (lnF fr tk) i).length ≤ (140737488351232 : Nat), (!shapedR l0 l1 n (frO (lnF fr tk)) (tkO (lnF fr tk))) = false, aheadR l0 = true ∧ aheadR l1 = true, LoopGood g3 67 (.loop c4O) c4o 2 (.exit 0) (mkLoopN c4oe), lnF fr tk = lnF (frO (lnF fr tk)) (tkO (lnF fr tk)), Fits IntKind.i64 (↑n : Int), Fits IntKind.i64 (↑l0.length : Int), Fits IntKind.i64 (↑l1.length : Int), ∀ (i : Nat), i < n → (tkO (lnF fr tk) i).length ≤ (140737488351232 : Nat), allB (lineOk (frO (lnF fr tk)) (tkO (lnF fr tk))) n = true, ckErr (nrm 12 (begR l0 l1)) (frO (lnF fr tk)) (tkO (lnF fr tk)) n = (0 : Int), (1 : Int) = (0 : Int) ∨ (1 : Int) = (1 : Int), (!oneR n (frO (lnF fr tk))) = true, lnF fr tk = lnF (frO (lnF fr tk)) (tkO (lnF fr tk)), Fits IntKind.i64 (↑n : Int), (!safeR (nrm 12 (stP (nrm 12 (begR l0 l1)) (frO (lnF fr tk)) (tkO (lnF fr tk)) n)) (0 : Int)) = false, (0 : Int) = (0 : Int) ∨ (0 : Int) = (1 : Int), (!safeR (nrm 12 (stP (nrm 12 (begR l0 l1)) (frO (lnF fr tk)) (tkO (lnF fr tk)) n)) (1 : Int)) = false]) := by kernel_rfl
def ck0 (l0 l1 : List Int) : Nat → Bool := nrm 12 (begR l0 l1)
def ckR (l0 l1 : List Int) (n : Nat) (fr : Nat → Int) (tk : Nat → List Int) : Int :=
  if shapedR l0 l1 n fr tk = false then 9 else if ckErr (ck0 l0 l1) fr tk n = 0 then
    (if safeR (nrm 12 (stP (ck0 l0 l1) fr tk n)) 0 = true ∧ (oneR n fr = true ∨ safeR (nrm 12 (stP (ck0 l0 l1) fr tk n)) 1 = true) then 0 else 12)
  else ckErr (ck0 l0 l1) fr tk n
theorem shaped_iff {l0 l1 : List Int} {n : Nat} {fr : Nat → Int} {tk : Nat → List Int} : shapedR l0 l1 n fr tk = true ↔ aheadR l0 = true ∧ aheadR l1 = true ∧ ¬ n = 0 ∧ allB (lineOk fr tk) n = true := by
  simp only [shapedR, Bool.and_eq_true, Bool.not_eq_true', decide_eq_false_iff_not]
def F4 : SumF := fun args B => match args, B with
  | [.agg [.raw (.string s), .roi .i64 l0, .roi .i64 l1, .ro 2 n f]], [] => some { val := .int .i64 (ckR l0 l1 n (frO f) (tkO f)), C := pC l0 l1 n f }
  | _, _ => none
theorem acc4 : Acc g3 4 F4 := by
  intro args B out h hC
  unfold F4 at h
  split at h
  · rename_i s l0 l1 n f
    simp only [Option.some.injEq] at h; subst h
    simp only [pC, allC_cons, allC_nil, and_true] at hC
    obtain ⟨hf, Fn, Fl0, Fl1, hT⟩ := hC
    generalize frO f = fr at *
    generalize tkO f = tk at *
    subst hf
    have hL := c4o_e
    have hLr := c4o_r
    cases hsh : shapedR l0 l1 n fr tk with
    | false => exact FnOk.val (C := []) (rd := []) (FnOk.pure g3_ok (ck_9 s l0 l1 n fr tk) (by simp only [allC_append, allC_cons, allC_nil, and_true, frO_ln, tkO_ln, decide_eq_true_eq, decide_eq_false_iff_not, Bool.not_eq_true', Bool.not_eq_false', Int.toNat_natCast, toNat_sub1]; (repeat' first | trivial | assumption | omega | exact fits_of (by omega) (by omega) | rfl | apply And.intro))) (by
        rw [show ckR l0 l1 n fr tk = 9 by unfold ckR; rw [if_pos hsh]]; exact i_lit _ _)
    | true =>
      obtain ⟨ha0, ha1, hn, ho⟩ := shaped_iff.1 hsh
      have hns : ¬ shapedR l0 l1 n fr tk = false := by rw [hsh]; decide
      by_cases he : ckErr (ck0 l0 l1) fr tk n = 0
      · have hx : ckErr (nrm 12 (begR l0 l1)) fr tk n = 0 := he
        cases h0 : safeR (nrm 12 (stP (nrm 12 (begR l0 l1)) fr tk n)) 0 with
        | false => exact FnOk.val (C := []) (rd := []) (FnOk.pure g3_ok (ck_a s l0 l1 n fr tk) (by simp only [allC_append, allC_cons, allC_nil, and_true, frO_ln, tkO_ln, decide_eq_true_eq, decide_eq_false_iff_not, Bool.not_eq_true', Bool.not_eq_false', Int.toNat_natCast, toNat_sub1]; (repeat' first | trivial | assumption | omega | exact fits_of (by omega) (by omega) | rfl | apply And.intro))) (by
            rw [show ckR l0 l1 n fr tk = 12 by unfold ckR; rw [if_neg hns, if_pos he, if_neg (by intro h; have h := h.1; unfold ck0 at h; rw [h0] at h; exact absurd h (by decide))]]; exact i_lit _ _)
        | true =>
          cases h1 : oneR n fr with
          | true => exact FnOk.val (C := []) (rd := []) (FnOk.pure g3_ok (ck_b s l0 l1 n fr tk) (by simp only [allC_append, allC_cons, allC_nil, and_true, frO_ln, tkO_ln, decide_eq_true_eq, decide_eq_false_iff_not, Bool.not_eq_true', Bool.not_eq_false', Int.toNat_natCast, toNat_sub1]; (repeat' first | trivial | assumption | omega | exact fits_of (by omega) (by omega) | rfl | apply And.intro))) (by
              rw [show ckR l0 l1 n fr tk = 0 by unfold ckR; rw [if_neg hns, if_pos he, if_pos ⟨h0, .inl h1⟩]]; exact i_lit _ _)
          | false =>
            cases h2 : safeR (nrm 12 (stP (nrm 12 (begR l0 l1)) fr tk n)) 1 with
            | false => exact FnOk.val (C := []) (rd := []) (FnOk.pure g3_ok (ck_c s l0 l1 n fr tk) (by simp only [allC_append, allC_cons, allC_nil, and_true, frO_ln, tkO_ln, decide_eq_true_eq, decide_eq_false_iff_not, Bool.not_eq_true', Bool.not_eq_false', Int.toNat_natCast, toNat_sub1]; (repeat' first | trivial | assumption | omega | exact fits_of (by omega) (by omega) | rfl | apply And.intro))) (by
                rw [show ckR l0 l1 n fr tk = 12 by
                  unfold ckR
                  rw [if_neg hns, if_pos he, if_neg (by
                    intro h; have h := h.2; unfold ck0 at h; rw [h1, h2] at h; exact absurd h (by decide))]]
                exact i_lit _ _)
            | true => exact FnOk.val (C := []) (rd := []) (FnOk.pure g3_ok (ck_d s l0 l1 n fr tk) (by simp only [allC_append, allC_cons, allC_nil, and_true, frO_ln, tkO_ln, decide_eq_true_eq, decide_eq_false_iff_not, Bool.not_eq_true', Bool.not_eq_false', Int.toNat_natCast, toNat_sub1]; (repeat' first | trivial | assumption | omega | exact fits_of (by omega) (by omega) | rfl | apply And.intro))) (by
                rw [show ckR l0 l1 n fr tk = 0 by unfold ckR; rw [if_neg hns, if_pos he, if_pos ⟨h0, .inr h2⟩]]; exact i_lit _ _)
      · have hx : ¬ ckErr (nrm 12 (begR l0 l1)) fr tk n = 0 := he
        exact FnOk.val (C := []) (rd := []) (FnOk.pure g3_ok (ck_r s l0 l1 n fr tk) (by simp only [allC_append, allC_cons, allC_nil, and_true, frO_ln, tkO_ln, decide_eq_true_eq, decide_eq_false_iff_not, Bool.not_eq_true', Bool.not_eq_false', Int.toNat_natCast, toNat_sub1]; (repeat' first | trivial | assumption | omega | exact fits_of (by omega) (by omega) | rfl | apply And.intro))) (by
          rw [show ckR l0 l1 n fr tk = ckErr (nrm 12 (begR l0 l1)) fr tk n by unfold ckR; rw [if_neg hns, if_neg he]; rfl]; exact DenImp.refl _)
  · simp at h
/-- what a pattern is that the document lets pass -/
theorem ckR_zero {l0 l1 : List Int} {n : Nat} {fr : Nat → Int} {tk : Nat → List Int} (h : ckR l0 l1 n fr tk = 0) : shapedR l0 l1 n fr tk = true ∧ ckErr (ck0 l0 l1) fr tk n = 0 ∧ safeR (nrm 12 (stP (ck0 l0 l1) fr tk n)) 0 = true ∧ (oneR n fr = true ∨ safeR (nrm 12 (stP (ck0 l0 l1) fr tk n)) 1 = true) := by
  unfold ckR at h
  split at h
  · exact absurd h (by decide)
  · rename_i h0
    split at h
    · rename_i h1
      split at h
      · rename_i h2
        exact ⟨by simpa using h0, h1, h2⟩
      · exact absurd h (by decide)
    · rename_i h1; exact absurd h h1
end Go.Proofs.Tryd
