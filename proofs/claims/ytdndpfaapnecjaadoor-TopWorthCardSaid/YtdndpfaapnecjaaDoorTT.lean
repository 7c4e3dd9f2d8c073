/- Accounts of this seat's functions: lemmas, no statement of their own. No conditions. -/
import Derived.Test.YtdndpfaapnecjaaDoorTQ
import Derived.Test.YtdndpfaapnecjaaDoorV4
namespace Go.Proofs.Tryd
open Go Go.Vx
/-! ### TopWorth: F3 -/

abbrev t3K : List Nat := [5, 7, 8]
noncomputable abbrev t3C : Code := bodyAt Tryd.prog 3 8
abbrev t3V (i : Int) : List SV := [.own 0, .ptr 1 0, .int .i64 i]
def rI (R : List (List Int)) (i j : Nat) : Int := (R.getD i []).getD j 0
def bstep (R : List (List Int)) (x : Nat → Int) (i j : Nat) : Int := if (rI R i 0).toNat = j / 3 then rI R i (j % 3) else x j
def bst (R : List (List Int)) : Nat → Nat → Int
  | 0 => fun _ => 0
  | i + 1 => bstep R (bst R i) i
abbrev t3B (R : List (List Int)) (x : Nat → Int) : List Body := [.rows K3 R, .cells (svF [.i64, .i64, .i64, .i64, .i64, .i64] x 0)]
theorem t3_go0 (R : List (List Int)) (x : Nat → Int) (i : Nat) : runC gb 900 102 [.br true, .br false, .br false, .br false, .br false, .br false] t3C (t3K.zip (t3V (i : Int))) (t3B R x) t3K [0, 1] =
    some (Ex.normal, [SV.own (0 : Nat), SV.ptr (1 : Nat) (0 : Nat), SV.int IntKind.i64 ((↑i : Int) + (1 : Int))], [some (Body.rows [IntKind.i64, IntKind.i64, IntKind.i64] R), some (Body.cells (svF [.i64, .i64, .i64, .i64, .i64, .i64] (bstep R x i) 0))], [Fits IntKind.i64 (↑R.length : Int), decide ((↑i : Int) < (↑R.length : Int)) = true, i < R.length, (0 : Int) ≤ (↑i : Int) ∧ (↑i : Int) < (↑R.length : Int), (!decide (rI R i 0 = (0 : Int))) = false, i < R.length, (0 : Int) ≤ (↑i : Int) ∧ (↑i : Int) < (↑R.length : Int), decide ((2 : Int) < rI R i 1) = false, i < R.length, (0 : Int) ≤ (↑i : Int) ∧ (↑i : Int) < (↑R.length : Int), decide (rI R i 2 < ([x (2 : Nat), x (5 : Nat)]).getD (rI R i 0).toNat (0 : Int)) = false, (rI R i 0).toNat < (2 : Nat), (0 : Int) ≤ rI R i 0 ∧ rI R i 0 < (2 : Int), i < R.length, (0 : Int) ≤ (↑i : Int) ∧ (↑i : Int) < (↑R.length : Int), decide (rI R i 1 < ([x (1 : Nat), x (4 : Nat)]).getD (rI R i 0).toNat (0 : Int)) = false, (rI R i 0).toNat < (2 : Nat), (0 : Int) ≤ rI R i 0 ∧ rI R i 0 < (2 : Int), i < R.length, (0 : Int) ≤ (↑i : Int) ∧ (↑i : Int) < (↑R.length : Int), decide ((5 : Int) < rI R i 2) = false, (rI R i 0).toNat < (2 : Nat), (rI R i 0).toNat < (2 : Nat), (rI R i 0).toNat < (2 : Nat), (0 : Int) ≤ rI R i 0 ∧ rI R i 0 < (2 : Int), i < R.length, i < R.length, i < R.length, (0 : Int) ≤ (↑i : Int) ∧ (↑i : Int) < (↑R.length : Int), Fits IntKind.i64 ((↑i : Int) + (1 : Int))]) := by kernel_rfl
theorem t3_go1 (R : List (List Int)) (x : Nat → Int) (i : Nat) : runC gb 900 102 [.br true, .br true, .br false, .br false, .br false, .br false, .br false] t3C (t3K.zip (t3V (i : Int))) (t3B R x) t3K [0, 1] =
    some (Ex.normal, [SV.own (0 : Nat), SV.ptr (1 : Nat) (0 : Nat), SV.int IntKind.i64 ((↑i : Int) + (1 : Int))], [some (Body.rows [IntKind.i64, IntKind.i64, IntKind.i64] R), some (Body.cells (svF [.i64, .i64, .i64, .i64, .i64, .i64] (bstep R x i) 0))], [Fits IntKind.i64 (↑R.length : Int), decide ((↑i : Int) < (↑R.length : Int)) = true, i < R.length, (0 : Int) ≤ (↑i : Int) ∧ (↑i : Int) < (↑R.length : Int), (!decide (rI R i 0 = (0 : Int))) = true, (!decide (rI R i 0 = (1 : Int))) = false, i < R.length, (0 : Int) ≤ (↑i : Int) ∧ (↑i : Int) < (↑R.length : Int), decide ((2 : Int) < rI R i 1) = false, i < R.length, (0 : Int) ≤ (↑i : Int) ∧ (↑i : Int) < (↑R.length : Int), decide (rI R i 2 < ([x (2 : Nat), x (5 : Nat)]).getD (rI R i 0).toNat (0 : Int)) = false, (rI R i 0).toNat < (2 : Nat), (0 : Int) ≤ rI R i 0 ∧ rI R i 0 < (2 : Int), i < R.length, (0 : Int) ≤ (↑i : Int) ∧ (↑i : Int) < (↑R.length : Int), decide (rI R i 1 < ([x (1 : Nat), x (4 : Nat)]).getD (rI R i 0).toNat (0 : Int)) = false, (rI R i 0).toNat < (2 : Nat), (0 : Int) ≤ rI R i 0 ∧ rI R i 0 < (2 : Int), i < R.length, (0 : Int) ≤ (↑i : Int) ∧ (↑i : Int) < (↑R.length : Int), decide ((5 : Int) < rI R i 2) = false, (rI R i 0).toNat < (2 : Nat), (rI R i 0).toNat < (2 : Nat), (rI R i 0).toNat < (2 : Nat), (0 : Int) ≤ rI R i 0 ∧ rI R i 0 < (2 : Int), i < R.length, i < R.length, i < R.length, (0 : Int) ≤ (↑i : Int) ∧ (↑i : Int) < (↑R.length : Int), Fits IntKind.i64 ((↑i : Int) + (1 : Int))]) := by kernel_rfl
theorem t3_end (R : List (List Int)) (x : Nat → Int) (i : Nat) : runC gb 900 102 [.br false] t3C (t3K.zip (t3V (i : Int))) (t3B R x) [] [] =
    some (Ex.exit (0 : Nat), [], [], [Fits IntKind.i64 (↑R.length : Int), decide ((↑i : Int) < (↑R.length : Int)) = false]) := by kernel_rfl
/-- the grades of each side never fall -/
def rowsOk (R : List (List Int)) : Prop := ∀ i, i < R.length → (rI R i 0 = 0 ∨ rI R i 0 = 1) ∧ bst R i (3 * (rI R i 0).toNat + 1) ≤ rI R i 1 ∧ bst R i (3 * (rI R i 0).toNat + 2) ≤ rI R i 2 ∧ rI R i 1 ≤ 2 ∧ rI R i 2 ≤ 5
noncomputable def t3e : LoopF := fun vals B => match vals, B with
  | [.own 0, .ptr 1 0, .int .i64 0], [.rows K R, .cells cs] => match numsAs [.i64, .i64, .i64, .i64, .i64, .i64] cs with
    | some l => some ([], [], [K = K3, l = [0, 0, 0, 0, 0, 0], rowsOk R, R.length ≤ 1000000])
    | none => none
  | _, _ => none
theorem t3_e : LoopGood gb 102 (.loop t3C) t3K 0 (.exit 0) (mkLoopN t3e) := by
  refine LoopGood.mkN (by decide) fun vals B S' B' C hG hC hlen w0 O hgl => ?_
  clear hlen
  unfold t3e at hG
  split at hG
  · rename_i K R cs
    split at hG
    · rename_i l hl
      simp only [Option.some.injEq, Prod.mk.injEq] at hG
      obtain ⟨rfl, rfl, rfl⟩ := hG
      simp only [allC_cons, allC_nil, and_true] at hC
      obtain ⟨rfl, rfl, hR, hn⟩ := hC
      refine SimC.preI (B1 := t3B R (bst R 0)) ?_ ⟨⟨.refl _, fun l e => by cases e⟩, cells_nums hl, trivial⟩
      have Fn : Fits .i64 (R.length : Int) := fits_of (by omega) (by omega)
      · refine SimC.iter (g := gb) (e := .exit 0) (S := fun i => t3K.zip (t3V (i : Int))) (B := fun i => t3B R (bst R i)) (N := R.length) (fun i hi => ?_) ?_ (by simp) 0 (by omega)
        · obtain ⟨h0, h1, h2, h3, h4⟩ := hR i hi
          rcases h0 with h0 | h0
          · have e0 : (rI R i 0).toNat = 0 := by rw [h0]; rfl
            rw [e0] at h1 h2
            have h1 : [bst R i 1, bst R i 4].getD (rI R i 0).toNat 0 ≤ rI R i 1 := by rw [e0]; exact h1
            have h2 : [bst R i 2, bst R i 5].getD (rI R i 0).toNat 0 ≤ rI R i 2 := by rw [e0]; exact h2
            exact SimC.run (B' := t3B R (bst R (i + 1))) gb_ok (by decide) (t3_go0 R (bst R i) i) (by simp only [allC_append, allC_cons, allC_nil, and_true, frO_ln, tkO_ln, decide_eq_true_eq, decide_eq_false_iff_not, Bool.not_eq_true', Bool.not_eq_false', Int.toNat_natCast, toNat_sub1]; (repeat' first | with_reducible assumption | exact True.intro | exact fits_of (by omega) (by omega) | apply And.intro | omega | rfl | assumption)) (by decide) (qn _) (by decide) (by simp) hgl
          · have e0 : (rI R i 0).toNat = 1 := by rw [h0]; rfl
            rw [e0] at h1 h2
            have h1 : [bst R i 1, bst R i 4].getD (rI R i 0).toNat 0 ≤ rI R i 1 := by rw [e0]; exact h1
            have h2 : [bst R i 2, bst R i 5].getD (rI R i 0).toNat 0 ≤ rI R i 2 := by rw [e0]; exact h2
            exact SimC.run (B' := t3B R (bst R (i + 1))) gb_ok (by decide) (t3_go1 R (bst R i) i) (by simp only [allC_append, allC_cons, allC_nil, and_true, frO_ln, tkO_ln, decide_eq_true_eq, decide_eq_false_iff_not, Bool.not_eq_true', Bool.not_eq_false', Int.toNat_natCast, toNat_sub1]; (repeat' first | with_reducible assumption | exact True.intro | exact fits_of (by omega) (by omega) | apply And.intro | omega | rfl | assumption)) (by decide) (qn _) (by decide) (by simp) hgl
        · exact SimC.weaken (SimC.run (B' := []) gb_ok (by decide) (t3_end R (bst R R.length) R.length) (by simp only [allC_append, allC_cons, allC_nil, and_true, frO_ln, tkO_ln, decide_eq_true_eq, decide_eq_false_iff_not, Bool.not_eq_true', Bool.not_eq_false', Int.toNat_natCast, toNat_sub1]; (repeat' first | with_reducible assumption | exact True.intro | exact fits_of (by omega) (by omega) | apply And.intro | omega | rfl | assumption)) (by decide) (qn _) (by decide) (by simp) hgl) (fun t => .inr (by simp [mkT, tget, Tr.get_lf]))
    · simp at hG
  · simp at hG
theorem tw_a (s : ByteArray) (l0 l1 : List Int) (n : Nat) (fr : Nat → Int) (tk : Nat → List Int) (more : Int) : runF gb 900 [.br true] 3 [PA s l0 l1 n (lnF fr tk), .int .i64 more] [] [] =
    some (SV.bool true, [], [(!decide (ckR l0 l1 n (frO (lnF fr tk)) (tkO (lnF fr tk)) = (0 : Int))) = true, lnF fr tk = lnF (frO (lnF fr tk)) (tkO (lnF fr tk)), Fits IntKind.i64 (↑n : Int), Fits IntKind.i64 (↑l0.length : Int), Fits IntKind.i64 (↑l1.length : Int), ∀ (i : Nat), i < n → (tkO (lnF fr tk) i).length ≤ (140737488351232 : Nat)]) := by kernel_rfl
theorem tw_b (s : ByteArray) (l0 l1 : List Int) (n : Nat) (fr : Nat → Int) (tk : Nat → List Int) (more : Int) : runF gb 900 [.br false, .br true] 3 [PA s l0 l1 n (lnF fr tk), .int .i64 more] [] [] =
    some (SV.bool true, [], [decide (more < (0 : Int)) = true, (!decide (ckR l0 l1 n (frO (lnF fr tk)) (tkO (lnF fr tk)) = (0 : Int))) = false, lnF fr tk = lnF (frO (lnF fr tk)) (tkO (lnF fr tk)), Fits IntKind.i64 (↑n : Int), Fits IntKind.i64 (↑l0.length : Int), Fits IntKind.i64 (↑l1.length : Int), ∀ (i : Nat), i < n → (tkO (lnF fr tk) i).length ≤ (140737488351232 : Nat)]) := by kernel_rfl
theorem tw_c (s : ByteArray) (l0 l1 : List Int) (n : Nat) (fr : Nat → Int) (tk : Nat → List Int) (more : Int) : runF gb 900 [.br false, .br false, .br true] 3 [PA s l0 l1 n (lnF fr tk), .int .i64 more] [] [] =
    some (SV.bool true, [], [decide (more < (0 : Int)) = false, (!decide (ckR l0 l1 n (frO (lnF fr tk)) (tkO (lnF fr tk)) = (0 : Int))) = false, lnF fr tk = lnF (frO (lnF fr tk)) (tkO (lnF fr tk)), Fits IntKind.i64 (↑n : Int), Fits IntKind.i64 (↑l0.length : Int), Fits IntKind.i64 (↑l1.length : Int), ∀ (i : Nat), i < n → (tkO (lnF fr tk) i).length ≤ (140737488351232 : Nat), decide ((64 : Int) < more) = true]) := by kernel_rfl
theorem tw_d (s : ByteArray) (l0 l1 : List Int) (n : Nat) (fr : Nat → Int) (tk : Nat → List Int) (more : Int) : runF gb 900 [.br false, .br false, .br false, .br false, .loop 8 t3K 0 (.exit 0) (mkLoopN t3e)] 3 [PA s l0 l1 n (lnF fr tk), .int .i64 more] [] [] =
    some (SV.bool true, [], [decide (more < (0 : Int)) = false, (!decide (ckR l0 l1 n (frO (lnF fr tk)) (tkO (lnF fr tk)) = (0 : Int))) = false, lnF fr tk = lnF (frO (lnF fr tk)) (tkO (lnF fr tk)), Fits IntKind.i64 (↑n : Int), Fits IntKind.i64 (↑l0.length : Int), Fits IntKind.i64 (↑l1.length : Int), ∀ (i : Nat), i < n → (tkO (lnF fr tk) i).length ≤ (140737488351232 : Nat), decide ((64 : Int) < more) = false, lnF fr tk = lnF (frO (lnF fr tk)) (tkO (lnF fr tk)), Fits IntKind.i64 (↑n : Int), Fits IntKind.i64 (↑l0.length : Int), Fits IntKind.i64 (↑l1.length : Int), ∀ (i : Nat), i < n → (tkO (lnF fr tk) i).length ≤ (140737488351232 : Nat), ckR l0 l1 n (frO (lnF fr tk)) (tkO (lnF fr tk)) = (0 : Int), (0 : Int) ≤ more ∧ more ≤ (64 : Int), Fits IntKind.i64 ((↑n : Int) + more), Fits IntKind.i64 (↑n : Int), Fits IntKind.i64 (↑(RQ (RW (frO (lnF fr tk)) (tkO (lnF fr tk)) n) (dP (tkO (lnF fr tk)) n) (aP (frO (lnF fr tk)) (tkO (lnF fr tk)) n) (bP (frO (lnF fr tk)) (tkO (lnF fr tk)) n) (oneR n (frO (lnF fr tk))) (frO (lnF fr tk) (n - (1 : Nat))) more.toNat).length : Int), (!decide ((↑(RQ (RW (frO (lnF fr tk)) (tkO (lnF fr tk)) n) (dP (tkO (lnF fr tk)) n) (aP (frO (lnF fr tk)) (tkO (lnF fr tk)) n) (bP (frO (lnF fr tk)) (tkO (lnF fr tk)) n) (oneR n (frO (lnF fr tk))) (frO (lnF fr tk) (n - (1 : Nat))) more.toNat).length : Int) = (↑n : Int) + more)) = false, LoopGood gb 102 (.loop t3C) t3K 0 (.exit 0) (mkLoopN t3e), [IntKind.i64, IntKind.i64, IntKind.i64] = [IntKind.i64, IntKind.i64, IntKind.i64], [(0 : Int), (0 : Int), (0 : Int), (0 : Int), (0 : Int), (0 : Int)] = [(0 : Int), (0 : Int), (0 : Int), (0 : Int), (0 : Int), (0 : Int)], rowsOk (RQ (RW (frO (lnF fr tk)) (tkO (lnF fr tk)) n) (dP (tkO (lnF fr tk)) n) (aP (frO (lnF fr tk)) (tkO (lnF fr tk)) n) (bP (frO (lnF fr tk)) (tkO (lnF fr tk)) n) (oneR n (frO (lnF fr tk))) (frO (lnF fr tk) (n - (1 : Nat))) more.toNat), (RQ (RW (frO (lnF fr tk)) (tkO (lnF fr tk)) n) (dP (tkO (lnF fr tk)) n) (aP (frO (lnF fr tk)) (tkO (lnF fr tk)) n) (bP (frO (lnF fr tk)) (tkO (lnF fr tk)) n) (oneR n (frO (lnF fr tk))) (frO (lnF fr tk) (n - (1 : Nat))) more.toNat).length ≤ (1000000 : Nat)]) := by kernel_rfl
end Go.Proofs.Tryd

namespace Go.Proofs.Tryd
open Go Go.Vx
/-! ### the plain law: the levels of a side never fall -/
theorem bit_or : ∀ d : Fin 16, ∀ g : Fin 16, ∀ f : Fin 16, f.val = 1 ∨ f.val = 2 ∨ f.val = 4 ∨ f.val = 8 → (!(Nat.beq (d.val &&& f.val) 0)) = true → (!(Nat.beq ((d.val ||| g.val) &&& f.val) 0)) = true := by decide +kernel
def bitsLe (d d' : Int) : Prop := ∀ f : Int, f = 1 ∨ f = 2 ∨ f = 4 ∨ f = 8 → bitG d f = true → bitG d' f = true
theorem bitsLe.refl (d : Int) : bitsLe d d := fun _ _ h => h
theorem bitsLe.trans {a b c : Int} (h : bitsLe a b) (h' : bitsLe b c) : bitsLe a c := fun f hf h1 => h' f hf (h f hf h1)
theorem bits_uor {d g : Int} (hd : 0 ≤ d ∧ d < 16) (hg : 0 ≤ g ∧ g < 16) : bitsLe d (uor d g) := fun f hf h => by
  have := bit_or ⟨d.toNat, by omega⟩ ⟨g.toNat, by omega⟩ ⟨f.toNat, by omega⟩ (by simp only; omega) h
  exact this
theorem bits_dL {d : Int} (hd : 0 ≤ d ∧ d < 16) (l : List Int) : ∀ k, bitsLe d (dL d l k)
  | 0 => bitsLe.refl _
  | k + 1 => (bits_dL hd l k).trans (bits_uor (dL_lt hd l k) (flagN_lt _))
theorem bits_dP (tk : Nat → List Int) (i : Nat) : bitsLe (dP tk i) (dP tk (i + 1)) := bits_dL (dP_lt tk i) _ _
theorem src_mono {d d' : Int} (h : bitsLe d d') (s : Int) : srcG d s ≤ srcG d' s := by
  have h1 := h (if s = 1 then 2 else 4) (by split <;> simp)
  have h2 := h 8 (by simp)
  unfold srcG
  revert h1 h2
  generalize bitG d (if s = 1 then 2 else 4) = x
  generalize bitG d 8 = y
  generalize bitG d' (if s = 1 then 2 else 4) = x'
  generalize bitG d' 8 = y'
  cases x <;> cases y <;> cases x' <;> cases y' <;> simp
theorem dst_mono {d d' : Int} (h : bitsLe d d') (s : Int) {r r' : Int} (hr : 0 ≤ r) (hrr : r ≤ r') (hr' : r' < 3) : dstG d s r ≤ dstG d' s r' := by
  have h1 := h (if s = 1 then 4 else 2) (by split <;> simp)
  have h2 := h 1 (by simp)
  unfold dstG
  revert h1 h2
  generalize bitG d (if s = 1 then 4 else 2) = x
  generalize bitG d 1 = y
  generalize bitG d' (if s = 1 then 4 else 2) = x'
  generalize bitG d' 1 = y'
  have e : (if r = 2 then 5 else if r = 1 then 4 else 3 : Int) = 3 + r := by
    have : r = 0 ∨ r = 1 ∨ r = 2 := by omega
    rcases this with rfl | rfl | rfl <;> decide
  have e' : (if r' = 2 then 5 else if r' = 1 then 4 else 3 : Int) = 3 + r' := by
    have : r' = 0 ∨ r' = 1 ∨ r' = 2 := by omega
    rcases this with rfl | rfl | rfl <;> decide
  rw [e, e']
  cases x <;> cases y <;> cases x' <;> cases y' <;> simp <;> omega
theorem src_le (d s : Int) : srcG d s ≤ 2 := by have := srcG_lt d s; omega
theorem dst_le (d s : Int) {r : Int} (hr : 0 ≤ r) (hr' : r < 3) : 0 ≤ dstG d s r ∧ dstG d s r ≤ 5 := by
  unfold dstG
  generalize bitG d (if s = 1 then 4 else 2) = x
  generalize bitG d 1 = y
  have : r = 0 ∨ r = 1 ∨ r = 2 := by omega
  rcases this with rfl | rfl | rfl <;> cases x <;> cases y <;> decide
theorem mx_ge (a b : Int) : a ≤ mxG a b := by
  unfold mxG
  split <;> omega
theorem shA_ge (d a s : Int) : a ≤ shA d a s := by
  unfold shA
  split
  · exact mx_ge _ _
  · exact Int.le_refl _
theorem shB_ge (d b s : Int) : b ≤ shB d b s := by
  unfold shB
  split
  · exact Int.le_refl _
  · exact mx_ge _ _
theorem rv_mono {a b a' b' : Int} (ha : a ≤ a') (hb : b ≤ b') (s : Int) : rvG a b s ≤ rvG a' b' s := by
  unfold rvG
  split <;> assumption
theorem rv_lt {a b : Int} (ha : 0 ≤ a ∧ a < 3) (hb : 0 ≤ b ∧ b < 3) (s : Int) : 0 ≤ rvG a b s ∧ rvG a b s < 3 := by
  unfold rvG
  split <;> assumption
/-! rows -/
theorem RW_get (fr : Nat → Int) (tk : Nat → List Int) : ∀ (n i : Nat), i < n → (RW fr tk n).getD i [] = rowG (dP tk (i + 1)) (aP fr tk i) (bP fr tk i) (fr i)
  | 0, i, h => absurd h (Nat.not_lt_zero _)
  | n + 1, i, h => by
    have hl := RW_len fr tk n
    unfold RW
    rcases Nat.lt_or_ge i n with h1 | h1
    · rw [List.getD_eq_getElem?_getD, List.getElem?_append_left (by omega), ← List.getD_eq_getElem?_getD]
      exact RW_get fr tk n i h1
    · have : i = n := by omega
      subst this
      rw [List.getD_eq_getElem?_getD, List.getElem?_append_right (by omega), hl, Nat.sub_self]
      rfl
section
variable {fr : Nat → Int} {tk : Nat → List Int} {N : Nat} (hF : ∀ i, i < N → fr i = 0 ∨ fr i = 1)
include hF
theorem bst_le : ∀ i, i ≤ N → ∀ s : Nat, s < 2 → bst (RW fr tk N) i (3 * s + 1) ≤ srcG (dP tk i) s ∧ bst (RW fr tk N) i (3 * s + 2) ≤ dstG (dP tk i) s (rvG (aP fr tk i) (bP fr tk i) s)
  | 0, _, s, hs => ⟨(srcG_lt _ _).1, (dst_le _ _ (rv_lt (aP_lt fr tk 0) (bP_lt fr tk 0) s).1 (rv_lt (aP_lt fr tk 0) (bP_lt fr tk 0) s).2).1⟩
  | i + 1, hi, s, hs => by
    obtain ⟨h1, h2⟩ := bst_le i (by omega) s hs
    have hm := bits_dP tk i
    have hg := RW_get fr tk N i (by omega)
    have hf := hF i (by omega)
    have ha := aP_lt fr tk i
    have hb := bP_lt fr tk i
    have ha' := aP_lt fr tk (i + 1)
    have hb' := bP_lt fr tk (i + 1)
    have hra : aP fr tk i ≤ aP fr tk (i + 1) := shA_ge _ _ _
    have hrb : bP fr tk i ≤ bP fr tk (i + 1) := shB_ge _ _ _
    have hrv := rv_mono hra hrb (s : Int)
    have r0 : rI (RW fr tk N) i 0 = fr i := by unfold rI; rw [hg]; rfl
    have r1 : rI (RW fr tk N) i 1 = srcG (dP tk (i + 1)) (fr i) := by unfold rI; rw [hg]; rfl
    have r2 : rI (RW fr tk N) i 2 = dstG (dP tk (i + 1)) (fr i) (rvG (aP fr tk i) (bP fr tk i) (fr i)) := by unfold rI; rw [hg]; rfl
    have e1 : (3 * s + 1) / 3 = s := by omega
    have e2 : (3 * s + 2) / 3 = s := by omega
    have e3 : (3 * s + 1) % 3 = 1 := by omega
    have e4 : (3 * s + 2) % 3 = 2 := by omega
    show bstep (RW fr tk N) (bst (RW fr tk N) i) i (3 * s + 1) ≤ _ ∧ bstep (RW fr tk N) (bst (RW fr tk N) i) i (3 * s + 2) ≤ _
    unfold bstep
    rw [e1, e2, e3, e4, r0, r1, r2]
    by_cases hs' : (fr i).toNat = s
    · have hfs : fr i = (s : Int) := by omega
      rw [if_pos hs', if_pos hs', hfs]
      exact ⟨Int.le_refl _, dst_mono (bitsLe.refl _) _ (rv_lt ha hb _).1 hrv (rv_lt ha' hb' _).2⟩
    · rw [if_neg hs', if_neg hs']
      exact ⟨Int.le_trans h1 (src_mono hm _), Int.le_trans h2 (dst_mono hm _ (rv_lt ha hb _).1 hrv (rv_lt ha' hb' _).2)⟩
theorem rows_ok : rowsOk (RW fr tk N) := fun i hi => by
  rw [RW_len] at hi
  have hg := RW_get fr tk N i hi
  have hf := hF i hi
  have ha := aP_lt fr tk i
  have hb := bP_lt fr tk i
  have r0 : rI (RW fr tk N) i 0 = fr i := by unfold rI; rw [hg]; rfl
  have r1 : rI (RW fr tk N) i 1 = srcG (dP tk (i + 1)) (fr i) := by unfold rI; rw [hg]; rfl
  have r2 : rI (RW fr tk N) i 2 = dstG (dP tk (i + 1)) (fr i) (rvG (aP fr tk i) (bP fr tk i) (fr i)) := by unfold rI; rw [hg]; rfl
  rw [r0, r1, r2]
  have hm := bits_dP tk i
  obtain ⟨h1, h2⟩ := bst_le hF i (by omega) (fr i).toNat (by omega)
  have hfs : ((fr i).toNat : Int) = fr i := by omega
  rw [hfs] at h1 h2
  exact ⟨hf, Int.le_trans h1 (src_mono hm _), Int.le_trans h2 (dst_mono hm _ (rv_lt ha hb _).1 (Int.le_refl _) (rv_lt ha hb _).2), src_le _ _, (dst_le _ _ (rv_lt ha hb _).1 (rv_lt ha hb _).2).2⟩
end
/-! the messages behind the handshake go on as lines without tokens -/
def frE (n : Nat) (fr : Nat → Int) (one : Bool) (last : Int) (i : Nat) : Int := if i < n then fr i else lq one last (i - n + 1)
def tkE (n : Nat) (tk : Nat → List Int) (i : Nat) : List Int := if i < n then tk i else []
theorem seq_cong {fr fr' : Nat → Int} {tk tk' : Nat → List Int} : ∀ i, (∀ j, j < i → fr j = fr' j ∧ tk j = tk' j) → dP tk i = dP tk' i ∧ aP fr tk i = aP fr' tk' i ∧ bP fr tk i = bP fr' tk' i ∧ RW fr tk i = RW fr' tk' i
  | 0, _ => ⟨rfl, rfl, rfl, rfl⟩
  | i + 1, h => by
    obtain ⟨h1, h2, h3, h4⟩ := seq_cong i fun j hj => h j (by omega)
    obtain ⟨e1, e2⟩ := h i (by omega)
    have hd : dP tk (i + 1) = dP tk' (i + 1) := by
      show dL (dP tk i) (tk i) (tk i).length = dL (dP tk' i) (tk' i) (tk' i).length
      rw [h1, e2]
    refine ⟨hd, ?_, ?_, ?_⟩
    · show shA (dP tk (i + 1)) (aP fr tk i) (fr i) = shA (dP tk' (i + 1)) (aP fr' tk' i) (fr' i)
      rw [hd, h2, e1]
    · show shB (dP tk (i + 1)) (bP fr tk i) (fr i) = shB (dP tk' (i + 1)) (bP fr' tk' i) (fr' i)
      rw [hd, h3, e1]
    · show RW fr tk i ++ [rowG (dP tk (i + 1)) (aP fr tk i) (bP fr tk i) (fr i)] = RW fr' tk' i ++ [rowG (dP tk' (i + 1)) (aP fr' tk' i) (bP fr' tk' i) (fr' i)]
      rw [hd, h2, h3, h4, e1]
theorem seq_more (n : Nat) (fr : Nat → Int) (tk : Nat → List Int) (one : Bool) (last : Int) : ∀ j, dP (tkE n tk) (n + j) = dP tk n ∧ aP (frE n fr one last) (tkE n tk) (n + j) = aQ (dP tk n) (aP fr tk n) one last j ∧ bP (frE n fr one last) (tkE n tk) (n + j) = bQ (dP tk n) (bP fr tk n) one last j ∧
    RW (frE n fr one last) (tkE n tk) (n + j) = RQ (RW fr tk n) (dP tk n) (aP fr tk n) (bP fr tk n) one last j
  | 0 => seq_cong n fun j hj => ⟨by unfold frE; rw [if_pos hj], by unfold tkE; rw [if_pos hj]⟩
  | j + 1 => by
    obtain ⟨h1, h2, h3, h4⟩ := seq_more n fr tk one last j
    have e1 : frE n fr one last (n + j) = lq one last (j + 1) := by
      unfold frE; rw [if_neg (by omega), show n + j - n + 1 = j + 1 by omega]
    have e2 : tkE n tk (n + j) = [] := by unfold tkE; rw [if_neg (by omega)]
    have hd : dP (tkE n tk) (n + (j + 1)) = dP tk n := by
      show dL (dP (tkE n tk) (n + j)) (tkE n tk (n + j)) (tkE n tk (n + j)).length = _
      rw [h1, e2]; rfl
    refine ⟨hd, ?_, ?_, ?_⟩
    · show shA (dP (tkE n tk) (n + (j + 1))) (aP (frE n fr one last) (tkE n tk) (n + j)) (frE n fr one last (n + j)) = shA (dP tk n) (aQ (dP tk n) (aP fr tk n) one last j) (lq one last (j + 1))
      rw [hd, h2, e1]
    · show shB (dP (tkE n tk) (n + (j + 1))) (bP (frE n fr one last) (tkE n tk) (n + j)) (frE n fr one last (n + j)) = shB (dP tk n) (bQ (dP tk n) (bP fr tk n) one last j) (lq one last (j + 1))
      rw [hd, h3, e1]
    · show RW (frE n fr one last) (tkE n tk) (n + j) ++ [rowG (dP (tkE n tk) (n + (j + 1))) (aP (frE n fr one last) (tkE n tk) (n + j)) (bP (frE n fr one last) (tkE n tk) (n + j)) (frE n fr one last (n + j))] = RQ (RW fr tk n) (dP tk n) (aP fr tk n) (bP fr tk n) one last j ++ [rowG (dP tk n) (aQ (dP tk n) (aP fr tk n) one last j) (bQ (dP tk n) (bP fr tk n) one last j) (lq one last (j + 1))]
      rw [hd, h2, h3, h4, e1]
theorem levels_ok {n : Nat} {fr : Nat → Int} {tk : Nat → List Int} (one : Bool) {last : Int} (hf : ∀ i, i < n → fr i = 0 ∨ fr i = 1) (hl : last = 0 ∨ last = 1) (m : Nat) : rowsOk (RQ (RW fr tk n) (dP tk n) (aP fr tk n) (bP fr tk n) one last m) := by
  rw [← (seq_more n fr tk one last m).2.2.2]
  refine rows_ok fun i hi => ?_
  unfold frE
  split
  · rename_i h; exact hf i h
  · exact lq_01 one hl _
/-! ### TopWorth -/
theorem tw_ok (s : ByteArray) (l0 l1 : List Int) (n : Nat) (fr : Nat → Int) (tk : Nat → List Int) (more : Int) (Fm : Fits .i64 more) (Fn : Fits .i64 (n : Int)) (Fl0 : Fits .i64 (l0.length : Int)) (Fl1 : Fits .i64 (l1.length : Int)) (hT : tkC n tk) :
    FnOk gb 3 [PA s l0 l1 n (lnF fr tk), .int .i64 more] [] { val := .bool true } := by
  have hL := t3_e
  by_cases hck : ckR l0 l1 n fr tk = 0
  · by_cases h0 : more < 0
    · exact FnOk.val (C := []) (rd := []) (FnOk.pure gb_ok (tw_b s l0 l1 n fr tk more) (by simp only [allC_append, allC_cons, allC_nil, and_true, frO_ln, tkO_ln, decide_eq_true_eq, decide_eq_false_iff_not, Bool.not_eq_true', Bool.not_eq_false', Int.toNat_natCast, toNat_sub1]; (repeat' first | with_reducible assumption | exact True.intro | exact fits_of (by omega) (by omega) | apply And.intro | omega | rfl | assumption | exact decide_eq_true (by assumption) | exact decide_eq_true (by omega) | exact decide_eq_false (by assumption)))) (DenImp.refl _)
    · by_cases h1 : 64 < more
      · exact FnOk.val (C := []) (rd := []) (FnOk.pure gb_ok (tw_c s l0 l1 n fr tk more) (by simp only [allC_append, allC_cons, allC_nil, and_true, frO_ln, tkO_ln, decide_eq_true_eq, decide_eq_false_iff_not, Bool.not_eq_true', Bool.not_eq_false', Int.toNat_natCast, toNat_sub1]; (repeat' first | with_reducible assumption | exact True.intro | exact fits_of (by omega) (by omega) | apply And.intro | omega | rfl | assumption | exact decide_eq_true (by assumption) | exact decide_eq_true (by omega) | exact decide_eq_false (by assumption)))) (DenImp.refl _)
      · obtain ⟨hsh, he, s0, s1⟩ := ckR_zero hck
        obtain ⟨ha0, ha1, hn, ho⟩ := shaped_iff.1 hsh
        have ho' := allB_iff.1 ho
        have h24 := few_lines ho'
        have hl := (lineOk_iff.1 (ho' (n - 1) (by omega))).1
        have hR := levels_ok (tk := tk) (oneR n fr) (fun i hi => (lineOk_iff.1 (ho' i hi)).1) hl more.toNat
        have hlen := RQ_len (RW fr tk n) (dP tk n) (aP fr tk n) (bP fr tk n) (oneR n fr) (fr (n - 1)) more.toNat
        rw [RW_len] at hlen
        have hz : [(0 : Int), 0, 0, 0, 0, 0] = [0, 0, 0, 0, 0, 0] := rfl
        exact FnOk.val (C := []) (rd := []) (FnOk.pure gb_ok (tw_d s l0 l1 n fr tk more) (by simp only [allC_append, allC_cons, allC_nil, and_true, frO_ln, tkO_ln, decide_eq_true_eq, decide_eq_false_iff_not, Bool.not_eq_true', Bool.not_eq_false', Int.toNat_natCast, toNat_sub1]; (repeat' first | with_reducible assumption | exact True.intro | exact fits_of (by omega) (by omega) | apply And.intro | omega | rfl | assumption | exact decide_eq_true (by assumption) | exact decide_eq_true (by omega) | exact decide_eq_false (by assumption)))) (DenImp.refl _)
  · exact FnOk.val (C := []) (rd := []) (FnOk.pure gb_ok (tw_a s l0 l1 n fr tk more) (by simp only [allC_append, allC_cons, allC_nil, and_true, frO_ln, tkO_ln, decide_eq_true_eq, decide_eq_false_iff_not, Bool.not_eq_true', Bool.not_eq_false', Int.toNat_natCast, toNat_sub1]; (repeat' first | with_reducible assumption | exact True.intro | exact fits_of (by omega) (by omega) | apply And.intro | omega | rfl | assumption | exact decide_eq_true (by assumption) | exact decide_eq_true (by omega) | exact decide_eq_false (by assumption)))) (DenImp.refl _)
end Go.Proofs.Tryd

namespace Go.Proofs.Tryd
open Go Go.Vx Go.ChangeShapes Go.WideShapes Go.ChangeAt
/-! ### the argument: a pattern -/
section
variable {H : Type} {enc : TypeId × Value → H} {W : World} {base : Nat} {spare : Nat → Bool} {held : Bool}
theorem c1_22 : Tryd.prog.cellsOf 22 = 1 := by kernel_rfl
theorem c1_3 : Tryd.prog.cellsOf 3 = 1 := by kernel_rfl
theorem c1_9 : Tryd.prog.cellsOf 9 = 1 := by kernel_rfl
theorem c1_24 : Tryd.prog.cellsOf 24 = 1 := by kernel_rfl
theorem c2_23 : Tryd.prog.cellsOf 23 = 2 := by kernel_rfl
theorem c2_45 : Tryd.prog.cellsOf 45 = 2 := by kernel_rfl
theorem c4_26 : Tryd.prog.cellsOf 26 = 4 := by kernel_rfl
theorem b8_3 : Tryd.prog.bytesOf 3 = 8 := by kernel_rfl
/-- a slice of numbers that stands in a cell -/
theorem ints_cell {fuel : Nat} {u : Value} {x : DataW H × List MemPlace} (h : DataW.trod enc Tryd.prog W base spare held fuel 22 [u] = some x) :
    ∃ l : List Int, l.length ≤ maxLen ∧ isAggV u = false ∧ DenC W (O0 W) (fun _ => none) (.roi .i64 l) [u] ∧ ∃ y : List (DataW H) × List (DataW H), (x.1 = .nil ∧ l = []) ∨ (x.1 = .slice y.1 y.2 ∧ l.length = y.1.length) := by
  have hs := trod_ints Tryd.underlying22 Tryd.underlying3 c1_3 h
  obtain ⟨v, l, e1, e2, e3, e4⟩ := hs.2 0 (.s .i64) rfl
  simp only [List.getElem?_cons_zero, Option.some.injEq] at e1
  subst e1
  refine ⟨l, e3, e2, e4, ?_⟩
  simp only [DenC] at e4
  obtain ⟨a, cap, g1, g2, g3, g4⟩ := e4
  simp only [List.cons.injEq, and_true] at g1
  rcases DataW.trod_slice Tryd.underlying22 h with hz | ⟨a1, len, cap1, elems, rest, m, _, q1, q2, _, _, _, q3, _⟩
  · obtain ⟨h1, h2⟩ := hz
    simp only [List.cons.injEq, and_true] at h1
    rw [g1] at h1
    simp only [Value.slice.injEq] at h1
    exact ⟨([], []), .inl ⟨by rw [h2], List.length_eq_zero_iff.1 h1.2.1⟩⟩
  · simp only [List.cons.injEq, and_true] at q1
    rw [g1] at q1
    simp only [Value.slice.injEq] at q1
    exact ⟨(elems.map (·.1), rest.map (·.1)), .inr ⟨by rw [q2], by simp only [List.length_map]; omega⟩⟩
/-- a line that stands in two cells -/
theorem line_cells {fuel : Nat} {us : List Value} {x : DataW H × List MemPlace} (hl : us.length = 2) (h : DataW.trod enc Tryd.prog W base spare held fuel 45 us = some x) :
    ∃ (f : Int) (l : List Int), DenC W (O0 W) (fun _ => none) (.agg [.int .i64 f, .roi .i64 l]) us ∧ ∃ (d0 : DataW H) (d1 : DataW H) (y : List (DataW H) × List (DataW H)), x.1 = .agg [d0, d1] ∧ ((d1 = .nil ∧ l = []) ∨ (d1 = .slice y.1 y.2 ∧ l.length = y.1.length)) := by
  obtain ⟨xs, n, _, e1, e2, e3, e4⟩ := DataW.trod_struct Tryd.underlying45 h
  match us, hl with
  | [u0, u1], _ =>
    have e3 : xs.length = 2 := e3
    match xs, e3 with
    | [x0, x1], _ =>
      have h0 : DataW.trod enc Tryd.prog W base spare held n 3 (([u0, u1].drop 0).take (Tryd.prog.cellsOf 3)) = some x0 := e4 0 _ rfl
      have h1 : DataW.trod enc Tryd.prog W base spare held n 22 (([u0, u1].drop 1).take (Tryd.prog.cellsOf 22)) = some x1 := e4 1 _ rfl
      simp only [c1_3, c1_22, List.drop_zero, List.drop_succ_cons, List.take_succ_cons, List.take_zero, List.getElem?_cons_zero, List.getElem?_cons_succ] at h0 h1
      obtain ⟨f, g1, _, g3⟩ := DataW.trod_int Tryd.underlying3 h0
      simp only [List.cons.injEq, and_true] at g1
      subst g1
      obtain ⟨l, q1, q2, q3, y, q4⟩ := ints_cell h1
      refine ⟨f, l, ?_, x0.1, x1.1, y, by rw [e1]; rfl, q4⟩
      simp only [DenC, DenL]
      refine ⟨_, _, rfl, ⟨rfl, fits_of_wf g3⟩, rfl, u1, [], rfl, ?_, q2, rfl⟩
      simpa only [DenC] using q3
theorem weights_mem {P : Program} {x : Nat} : ∀ {ts : List TypeId} {ds : List (DataW H)} {j : Nat} {t : TypeId} {d : DataW H}, ts[j]? = some t → ds[j]? = some d → x ∈ d.weights P t → x ∈ DataW.weightsEach P ts ds := weightsEach_mem
theorem open_pattern {v : Value} {d : DataW H} {ps : List MemPlace} {r : Reach} {b0 : Nat} (hval : Value.okWide Tryd.prog W r b0 26 v) (hT : DataW.Trod enc Tryd.prog W base spare held 26 v d ps) (hw : ∀ x ∈ d.weights Tryd.prog 26, x ≤ reachBytes) (ρ : Rho) :
    ∃ (s : ByteArray) (l0 l1 : List Int) (n : Nat) (fr : Nat → Int) (tk : Nat → List Int), l0.length ≤ maxLen ∧ l1.length ≤ maxLen ∧ n ≤ maxLen ∧ tkC n tk ∧ DenV W (O0 W) ρ (PA s l0 l1 n (lnF fr tk)) v := by
  obtain ⟨fuel, hf⟩ := hT
  have hv : ∃ arr, v = .agg arr := by
    unfold Value.okWide at hval
    rw [Tryd.underlying26] at hval
    obtain ⟨cs, e, _⟩ := hval
    exact ⟨cs, e⟩
  obtain ⟨arr, rfl⟩ := hv
  obtain ⟨xs, m, _, e1, e2, e3, e4⟩ := DataW.trod_struct Tryd.underlying26 hf
  have hcs : ∃ c0 c1 c2 c3, (Value.agg arr).cells.toList = [c0, c1, c2, c3] := by
    rw [c4_26] at e2
    match hh : (Value.agg arr).cells.toList, e2 with
    | [c0, c1, c2, c3], _ => exact ⟨c0, c1, c2, c3, rfl⟩
  obtain ⟨c0, c1, c2, c3, hcs⟩ := hcs
  have e3 : xs.length = 3 := e3
  match xs, e3 with
  | [x0, x1, x2], _ =>
    rw [hcs] at e4
    have h0 : DataW.trod enc Tryd.prog W base spare held m 9 (([c0, c1, c2, c3].drop 0).take (Tryd.prog.cellsOf 9)) = some x0 := e4 0 _ rfl
    have h1 : DataW.trod enc Tryd.prog W base spare held m 23 (([c0, c1, c2, c3].drop 1).take (Tryd.prog.cellsOf 23)) = some x1 := e4 1 _ rfl
    have h2 : DataW.trod enc Tryd.prog W base spare held m 24 (([c0, c1, c2, c3].drop 3).take (Tryd.prog.cellsOf 24)) = some x2 := e4 2 _ rfl
    simp only [c1_9, c2_23, c1_24, List.drop_zero, List.drop_succ_cons, List.take_succ_cons, List.take_zero, List.getElem?_cons_zero, List.getElem?_cons_succ] at h0 h1 h2
    obtain ⟨s, g1, _, _⟩ := DataW.trod_string Tryd.underlying9 h0
    simp only [List.cons.injEq, and_true] at g1
    subst g1
    obtain ⟨zs, m1, _, z1, z2, z3, z4⟩ := DataW.trod_array Tryd.underlying23 h1
    have k0 := z4 0 (by omega)
    have k1 := z4 1 (by omega)
    match zs, z3 with
    | [y0, y1], _ =>
      simp only [c1_22, Nat.zero_mul, Nat.one_mul, List.drop_zero, List.drop_succ_cons, List.take_succ_cons, List.take_zero, List.getElem?_cons_zero, List.getElem?_cons_succ] at k0 k1
      obtain ⟨l0, a1, a2, a3, _⟩ := ints_cell k0
      obtain ⟨l1, b1, b2, b3, _⟩ := ints_cell k1
      have hd : d = .agg [x0.1, x1.1, x2.1] := by injection e1
      -- the lines
      have lines : ∃ (n : Nat) (fr : Nat → Int) (tk : Nat → List Int), n ≤ maxLen ∧ tkC n tk ∧ isAggV c3 = false ∧ DenC W (O0 W) (fun _ => none) (.ro 2 n (lnF fr tk)) [c3] := by
        rcases DataW.trod_slice Tryd.underlying24 h2 with hz | ⟨a, len, cap, elems, rest, m2, _, q1, q2, _, q3, q4, q5, q6, _⟩
        · have h1 := hz.1
          simp only [List.cons.injEq, and_true] at h1
          subst h1
          refine ⟨0, fun _ => 0, fun _ => [], Nat.zero_le _, fun i hi => absurd hi (Nat.not_lt_zero _), rfl, ?_⟩
          simp only [DenC]
          exact ⟨none, 0, rfl, Nat.le_refl _, by simp⟩
        · simp only [List.cons.injEq, and_true] at q1
          subst q1
          have each : ∀ i, ∃ p : Int × List Int × List Value, i < len → W.cells? base (a.add (i * 2)) 2 = some p.2.2 ∧ DenC W (O0 W) (fun _ => none) (.agg [.int .i64 p.1, .roi .i64 p.2.1]) p.2.2 ∧ p.2.1.length ≤ 140737488351232 := fun i => by
            by_cases hi : i < len
            · have h3 := q6 i hi
              rw [List.getElem?_eq_getElem (by omega), c2_45] at h3
              obtain ⟨us, w1, w2⟩ := Option.bind_eq_some_iff.1 h3
              obtain ⟨f, l, r1, d0, d1, y, r2, r3⟩ := line_cells (cells_mem w1).1 w2
              refine ⟨(f, l, us), fun _ => ⟨w1, r1, ?_⟩⟩
              rcases r3 with ⟨_, r3⟩ | ⟨r3, r4⟩
              · show l.length ≤ _
                rw [r3]; exact Nat.zero_le _
              · have hm : (y.1.length + y.2.length) * Tryd.prog.bytesOf 3 ∈ d.weights Tryd.prog 26 := by
                  rw [hd]
                  simp only [DataW.weights, Tryd.underlying26]
                  refine weightsEach_mem (j := 2) (t := 24) (d := x2.1) rfl rfl ?_
                  rw [q2]
                  simp only [DataW.weights, Tryd.underlying24]
                  refine List.mem_cons_of_mem _ (List.mem_append.2 (.inl (weightsAll_mem (d := elems[i].1) (List.mem_map.2 ⟨_, List.getElem_mem _, rfl⟩) ?_)))
                  rw [r2]
                  simp only [DataW.weights, Tryd.underlying45]
                  refine weightsEach_mem (j := 1) (t := 22) (d := d1) rfl rfl ?_
                  rw [r3]
                  simp only [DataW.weights, Tryd.underlying22]
                  exact List.mem_cons_self
                have := hw _ hm
                rw [b8_3, show reachBytes = 140737488351232 by decide] at this
                show l.length ≤ _
                omega
            · exact ⟨(0, [], []), fun h => absurd h hi⟩
          obtain ⟨p, hp⟩ := Classical.axiomOfChoice each
          refine ⟨len, fun i => (p i).1, fun i => (p i).2.1, by omega, fun i hi => (hp i hi).2.2, rfl, ?_⟩
          simp only [DenC]
          refine ⟨some a, cap, rfl, q3, fun hpos => ?_⟩
          have hspot : a.spot = none := by
            obtain ⟨w1, _, _⟩ := hp 0 hpos
            obtain ⟨t1, t2⟩ := cells_mem w1
            have := t2 0 _ (List.getElem?_eq_getElem (by omega))
            rw [Nat.zero_mul] at this
            have e0 : a.add 0 = a := by simp [Addr.add]
            rw [e0] at this
            exact spot_none this
          obtain ⟨b, o, sp⟩ := a
          simp only at hspot; subst hspot
          refine ⟨b, o, rfl, fun i hi => ?_⟩
          obtain ⟨w1, w2, _⟩ := hp i hi
          obtain ⟨t1, t2⟩ := cells_mem w1
          refine ⟨(p i).2.2, t1, fun j u hj => ?_, w2⟩
          have := t2 j u hj
          have e1 : (Addr.add ⟨b, o, none⟩ (i * 2)) = adr b (o + i * 2) := adr_add b o _
          rw [e1, adr_add] at this
          exact this
      obtain ⟨n, fr, tk, n1, n2, n3, n4⟩ := lines
      refine ⟨s, l0, l1, n, fr, tk, a1, b1, n1, n2, ?_⟩
      refine den_agg ?_
      have hcs' : arr.toList = [.string s, c1, c2, c3] := hcs
      rw [hcs']
      simp only [DenL]
      refine ⟨_, _, rfl, by simp [DenC, isAggV], rfl, c1, _, rfl, DenC.mono (ext_none ρ) _ _ a3, a2, c2, _, rfl, DenC.mono (ext_none ρ) _ _ b3, b2, c3, [], rfl, DenC.mono (ext_none ρ) _ _ n4, n3, rfl⟩
end
end Go.Proofs.Tryd
