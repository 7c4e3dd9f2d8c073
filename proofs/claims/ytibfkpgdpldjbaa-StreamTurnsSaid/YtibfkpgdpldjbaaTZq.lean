/- Accounts of this seat's functions: lemmas, no statement of their own. No conditions. -/
import Derived.Test.YtibfkpgdpldjbaaTZp
namespace Go.Proofs.Ytibfkpgdpldjbaa
open Go Go.Vx
/-! ### StreamTurns: the bytes are laid anew -/
def cpL (w o : List Int) : Nat → List Int
  | 0 => w
  | i + 1 => (cpL w o i).set i (o.getD i 0)
theorem cpL_len (w o : List Int) : ∀ n, (cpL w o n).length = w.length
  | 0 => rfl
  | n + 1 => by show (List.set _ _ _).length = _; rw [List.length_set, cpL_len w o n]
theorem cpL_get (w o : List Int) : ∀ (n : Nat) {p : Nat}, p < w.length → (cpL w o n).getD p 0 = if p < n then o.getD p 0 else w.getD p 0
  | 0, p, _ => by rw [if_neg (by omega)]; rfl
  | n + 1, p, hp => by
    show ((cpL w o n).set n (o.getD n 0)).getD p 0 = _
    rw [setI (by rw [cpL_len]; exact hp), cpL_get w o n hp]
    by_cases h : n = p
    · subst h; rw [if_pos rfl, if_pos (by omega)]
    · rw [if_neg h]
      by_cases h2 : p < n
      · rw [if_pos h2, if_pos (by omega)]
      · rw [if_neg h2, if_neg (by omega)]
abbrev cpKeep : List Nat := [1, 4, 6, 9, 10, 11, 13, 14, 15]
noncomputable abbrev cpBody : Code := bodyAt Try.prog 7 16
abbrev cpS (c n : Int) (m1 n1 i : Nat) : List (Nat × SV) := cpKeep.zip [.int .u32 c, .ptr 0 0, .ptr 1 0, .int .i64 n, .ptr 2 0, .sl 3 m1 0 1 0 n1 false, .own 4, .own 5, .int .i64 (i : Int)]
noncomputable abbrev cpB (k m : Nat → Int) (e v : List (List Int)) (w o : List Int) : List Body := [.cells (k32 k), .cells (n12 m), .log e, .ints .u8 w, .rows [.i64, .i64] v, .ints .u8 o]
theorem cp_go (c n : Int) (m1 n1 i : Nat) (k m : Nat → Int) (e v : List (List Int)) (w o : List Int) : runC g12 300 113 [.br true] cpBody (cpS c n m1 n1 i) (cpB k m e v w o) cpKeep [0, 1, 2, 3, 4, 5] =
    some (.normal, [.int .u32 c, .ptr 0 0, .ptr 1 0, .int .i64 n, .ptr 2 0, .sl 3 m1 0 1 0 n1 false, .own 4, .own 5, .int .i64 ((i : Int) + 1)], (cpB k m e v (w.set (0 + i + 0) (o.getD (i + 0) 0)) o).map some, [decide ((i : Int) < n) = true, 0 + i + 0 < w.length, (0 : Int) ≤ (i : Int) ∧ (i : Int) < (n1 : Int), i + 0 < o.length, (0 : Int) ≤ (i : Int) ∧ (i : Int) < (o.length : Int), Fits .i64 ((i : Int) + 1)]) := by kernel_rfl
theorem cp_end (c n : Int) (m1 n1 i : Nat) (k m : Nat → Int) (e v : List (List Int)) (w o : List Int) : runC g12 300 113 [.br false] cpBody (cpS c n m1 n1 i) (cpB k m e v w o) cpKeep [0, 1, 2, 3, 4, 5] =
    some (.exit 0, [.int .u32 c, .ptr 0 0, .ptr 1 0, .int .i64 n, .ptr 2 0, .sl 3 m1 0 1 0 n1 false, .own 4, .own 5, .int .i64 (i : Int)], (cpB k m e v w o).map some, [decide ((i : Int) < n) = false]) := by kernel_rfl
noncomputable def cpG : LoopF := fun vals B => match vals, B with
  | [.int .u32 c, .ptr 0 0, .ptr 1 0, .int .i64 n, .ptr 2 0, .sl 3 m1 0 1 0 n1 false, .own 4, .own 5, .int .i64 0], [.cells ks, .cells ns, .log e, .ints K w, .rows K3 v, .ints K2 o] => match sameK K .u8, sameK K2 .u8, sameKs K3 [.i64, .i64], numsAs (List.replicate 32 .u8) ks, numsAs (List.replicate 12 .u8) ns with
    | true, true, true, some lk, some ln => some ([(1, .int .u32 c), (4, .ptr 0 0), (6, .ptr 1 0), (9, .int .i64 n), (10, .ptr 2 0), (11, .sl 3 m1 0 1 0 n1 false), (13, .own 4), (14, .own 5)], cpB (atL lk) (atL ln) e v (cpL w o o.length) o, [n = (o.length : Int), o.length ≤ n1, n1 ≤ w.length, o.length ≤ 1000000000])
    | _, _, _, _, _ => none
  | _, _ => none
theorem cp_loop : LoopGood g12 113 (.loop cpBody) cpKeep 6 (.exit 0) (mkLoopN cpG) := by
  refine LoopGood.mkN (by decide) fun vals B S' B' C hG hC hlen w0 O hgl => ?_
  clear hlen
  unfold cpG at hG
  split at hG
  · rename_i c n m1 n1 ks ns e K w K3 v K2 o
    split at hG
    · rename_i lk ln hK hK2 hK3 hk hn
      obtain rfl := kidx_inj hK
      obtain rfl := kidx_inj hK2
      obtain rfl := sameKs_eq hK3
      simp only [Option.some.injEq, Prod.mk.injEq] at hG
      obtain ⟨rfl, rfl, rfl⟩ := hG
      simp only [allC_cons, allC_nil, and_true] at hC
      obtain ⟨rfl, h1, h2, h3⟩ := hC
      have fb : ∀ b : Body, (∀ cs, b ≠ .cells cs) → BImp b b ∧ ∀ l, b = .cells l → flatL l := fun b hb => ⟨BImp.refl _, fun l h => absurd h (hb l)⟩
      refine SimC.preI (B1 := cpB (atL lk) (atL ln) e v w o) ?_ ⟨cells_nums hk, cells_nums hn, fb _ (by simp), fb _ (by simp), fb _ (by simp), fb _ (by simp), trivial⟩
      have j6 : ∀ j : Nat, j < 6 → ([0, 1, 2, 3, 4, 5] : List Nat)[j]? = some j := fun j hj => by
        match j, hj with
        | 0, _ => rfl
        | 1, _ => rfl
        | 2, _ => rfl
        | 3, _ => rfl
        | 4, _ => rfl
        | 5, _ => rfl
      refine SimC.iter (g := g12) (e := .exit 0) (S := fun i => cpS c (o.length : Int) m1 n1 i) (B := fun i => cpB (atL lk) (atL ln) e v (cpL w o i) o) (N := o.length) (fun i hi => ?_) ?_ (by simp) 0 (by omega)
      · have hl := cpL_len w o i
        have F2 : Fits .i64 ((i : Int) + 1) := fits_of (by omega) (by omega)
        have hr := cp_go c (o.length : Int) m1 n1 i (atL lk) (atL ln) e v (cpL w o i) o
        rw [Nat.zero_add, Nat.add_zero] at hr
        refine SimC.run (B' := cpB (atL lk) (atL ln) e v (cpL w o (i + 1)) o) g12_ok (by decide) hr ?_ (by decide) j6 (by decide) (by simp) hgl
        simp only [allC_cons, allC_nil, and_true, hl]
        exact ⟨decide_eq_true (by omega), by omega, ⟨by omega, by omega⟩, by omega, ⟨by omega, by omega⟩, F2⟩
      · exact SimC.weaken (SimC.run (B' := cpB (atL lk) (atL ln) e v (cpL w o o.length) o) g12_ok (by decide) (cp_end c (o.length : Int) m1 n1 o.length _ _ _ _ _ _) (by (simp only [allC_cons, allC_nil, and_true]; repeat' (with_reducible (first | refine And.intro ?_ ?_ | exact True.intro | assumption | omega | exact decide_eq_true (by first | assumption | omega) | exact decide_eq_false (by first | assumption | omega) | rfl | (simp; done))))) (by decide) j6 (by decide) (by simp) hgl) (sub_mkT (by simp; exact ⟨rfl, rfl, rfl, rfl, rfl, rfl, rfl, rfl⟩))
    · simp at hG
  · simp at hG
end Go.Proofs.Ytibfkpgdpldjbaa
