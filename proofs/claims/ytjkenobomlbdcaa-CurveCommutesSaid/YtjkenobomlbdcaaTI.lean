/- Accounts of this seat's functions: lemmas, no statement of their own. No conditions. -/
import Derived.Test.YtjkenobomlbdcaaTH
namespace Go.Proofs.Ytjkenobomlbdcaa
open Go Go.Vx
/-! ### all rounds -/
def shN (k x : Nat → Int) (t : Int) (L : Ld) : Nat → Int × Ld
  | 0 => (t, L)
  | i + 1 => (kBit k i, ldStep x (ldSw (uadd .u64 (shN k x t L i).1 (kBit k i)) (shN k x t L i).2))
abbrev yX (y : Nat → Int) : Nat → Int := fun i => y i
abbrev yL (y : Nat → Int) : Ld := ⟨fun i => y (5 + i), fun i => y (10 + i), fun i => y (15 + i), fun i => y (20 + i)⟩
theorem l25_S5 (y : Nat → Int) : l25 y = l25 (S5 (yX y) (yL y)) := by kernel_rfl
def lgM (w : List (List Int)) : Nat → List (List Int)
  | 0 => w
  | i + 1 => lgN (lgM w i) one20
theorem lgM_len (w : List (List Int)) : ∀ i, (lgM w i).length = w.length + 20 * i
  | 0 => rfl
  | i + 1 => by
    have := lgM_len w i
    rw [lgM, lgN_eq, List.length_append, this]
    show _ + 20 = _
    omega
noncomputable def shG : LoopF := fun vals B => match vals, B with
  | [.raw (.pointer none), .ptr 0 0, .ptr 1 0, .ptr 2 0, .int .u64 t, .int .i64 0], [.cells zs, .cells ks, .cells ys] => match numsAs (List.replicate 32 .u8) zs, numsAs (List.replicate 32 .u8) ks, numsAs (List.replicate 25 .u64) ys with
    | some lz, some lk, some ly => some ([(0, .raw (.pointer none)), (6, .ptr 0 0), (10, .ptr 2 0), (11, .int .u64 (shN (atL lk) (yX (atL ly)) t (yL (atL ly)) 255).1)], shB (atL lz) (atL lk) (S5 (yX (atL ly)) (shN (atL lk) (yX (atL ly)) t (yL (atL ly)) 255).2), [])
    | _, _, _ => none
  | _, _ => none
noncomputable def slG : LoopF := fun vals B => match vals, B with
  | [.ptr 0 0, .ptr 1 0, .ptr 2 0, .ptr 3 0, .int .u64 t, .int .i64 0], [.log w, .cells zs, .cells ks, .cells ys] => match numsAs (List.replicate 32 .u8) zs, numsAs (List.replicate 32 .u8) ks, numsAs (List.replicate 25 .u64) ys with
    | some lz, some lk, some ly => some ([(0, .ptr 0 0), (6, .ptr 1 0), (10, .ptr 3 0), (11, .int .u64 (shN (atL lk) (yX (atL ly)) t (yL (atL ly)) 255).1)], [.log (lgM w 255), .cells (b32 (atL lz)), .cells (b32 (atL lk)), .cells (l25 (S5 (yX (atL ly)) (shN (atL lk) (yX (atL ly)) t (yL (atL ly)) 255).2))], [w.length < 1000000000])
    | _, _, _ => none
  | _, _ => none
theorem shC_ok {i : Nat} (hi : i < 255) : AllC (shC i) := by
  have e1 : (254 - (i : Int)).tdiv 8 = ((254 - i) / 8 : Nat) := by
    rw [show (254 - (i : Int)) = ((254 - i : Nat) : Int) by omega, Int.tdiv_eq_ediv_of_nonneg (Int.natCast_nonneg _)]; rfl
  have e2 : (254 - (i : Int)).tmod 8 = ((254 - i) % 8 : Nat) := by
    rw [show (254 - (i : Int)) = ((254 - i : Nat) : Int) by omega, Int.tmod_eq_emod_of_nonneg (Int.natCast_nonneg _)]; rfl
  have F : Fits .i64 (254 - (i : Int)) := fits_of (by omega) (by omega)
  simp only [shC, allC_cons, allC_nil, and_true, e1, e2]
  exact ⟨decide_eq_true (by omega), by omega, F, by omega, ⟨by omega, by omega⟩, F⟩
theorem sh_loop : LoopGood gK 68 (.loop shBody) shKeep 3 (.exit 0) (mkLoopN shG) := by
  refine LoopGood.mkN (by decide) fun vals B S' B' C hG hC hlen w0 O hgl => ?_
  clear hlen
  unfold shG at hG
  split at hG
  · rename_i t zs ks ys
    split at hG
    · rename_i lz lk ly hz hk hy
      simp only [Option.some.injEq, Prod.mk.injEq] at hG
      obtain ⟨rfl, rfl, rfl⟩ := hG
      have i3 : ∀ j : Nat, j < 3 → ([0, 1, 2] : List Nat)[j]? = some j := fun j hj => by
        match j, hj with
        | 0, _ => rfl
        | 1, _ => rfl
        | 2, _ => rfl
      refine SimC.preI (B1 := shB (atL lz) (atL lk) (atL ly)) ?_ ⟨cells_nums hz, cells_nums hk, cells_nums hy, trivial⟩
      have key : SimC gK.P w0 O 68 (.loop shBody) (shS (shN (atL lk) (yX (atL ly)) t (yL (atL ly)) 0).1 0) (shB (atL lz) (atL lk) (S5 (yX (atL ly)) (shN (atL lk) (yX (atL ly)) t (yL (atL ly)) 0).2)) (.exit 0) [(0, .raw (.pointer none)), (6, .ptr 0 0), (10, .ptr 2 0), (11, .int .u64 (shN (atL lk) (yX (atL ly)) t (yL (atL ly)) 255).1)]
          (shB (atL lz) (atL lk) (S5 (yX (atL ly)) (shN (atL lk) (yX (atL ly)) t (yL (atL ly)) 255).2)) 3 := by
        refine SimC.iter (g := gK) (e := .exit 0) (S := fun i => shS (shN (atL lk) (yX (atL ly)) t (yL (atL ly)) i).1 i) (B := fun i => shB (atL lz) (atL lk) (S5 (yX (atL ly)) (shN (atL lk) (yX (atL ly)) t (yL (atL ly)) i).2)) (N := 255) (fun i hi => ?_) ?_ (by simp) 0 (by omega)
        · have F : Fits .i64 ((i : Int) + 1) := fits_of (by omega) (by omega)
          refine SimC.run (B' := shB (atL lz) (atL lk) (S5 (yX (atL ly)) (shN (atL lk) (yX (atL ly)) t (yL (atL ly)) (i + 1)).2)) gK_ok (by decide) (sh_go i _ _ _ _ _) ?_ (by decide) i3 (by decide) (by simp) hgl
          rw [allC_append]
          exact ⟨shC_ok hi, by (simp only [allC_cons, allC_nil, and_true]; repeat' (with_reducible (first | refine And.intro ?_ ?_ | exact True.intro | assumption | omega | exact decide_eq_true (by first | assumption | omega) | exact decide_eq_false (by first | assumption | omega) | rfl | (simp; done))))⟩
        · exact SimC.weaken (SimC.run (B' := shB (atL lz) (atL lk) (S5 (yX (atL ly)) (shN (atL lk) (yX (atL ly)) t (yL (atL ly)) 255).2)) gK_ok (by decide) (sh_end 255 _ _ _ _ _) (by (simp only [allC_cons, allC_nil, and_true]; repeat' (with_reducible (first | refine And.intro ?_ ?_ | exact True.intro | assumption | omega | exact decide_eq_true (by first | assumption | omega) | exact decide_eq_false (by first | assumption | omega) | rfl | (simp; done))))) (by decide) i3 (by decide) (by simp) hgl) (sub_mkT (by simp; exact ⟨rfl, rfl, rfl, rfl⟩))
      have e := l25_S5 (atL ly)
      show SimC _ _ _ _ _ (shS t 0) [.cells (b32 (atL lz)), .cells (b32 (atL lk)), .cells (l25 (atL ly))] _ _ _ _
      rw [e]
      exact key
    · simp at hG
  · simp at hG
theorem sl_loop : LoopGood gK 68 (.loop shBody) shKeep 4 (.exit 0) (mkLoopN slG) := by
  refine LoopGood.mkN (by decide) fun vals B S' B' C hG hC hlen w0 O hgl => ?_
  clear hlen
  unfold slG at hG
  split at hG
  · rename_i t w zs ks ys
    split at hG
    · rename_i lz lk ly hz hk hy
      simp only [Option.some.injEq, Prod.mk.injEq] at hG
      obtain ⟨rfl, rfl, rfl⟩ := hG
      simp only [allC_cons, allC_nil, and_true] at hC
      have i3 : ∀ j : Nat, j < 4 → ([0, 1, 2, 3] : List Nat)[j]? = some j := fun j hj => by
        match j, hj with
        | 0, _ => rfl
        | 1, _ => rfl
        | 2, _ => rfl
        | 3, _ => rfl
      refine SimC.preI (B1 := slB (atL lz) (atL lk) (atL ly) w) ?_ ⟨⟨BImp.refl _, fun _ h => by simp at h⟩, cells_nums hz, cells_nums hk, cells_nums hy, trivial⟩
      have key : SimC gK.P w0 O 68 (.loop shBody) (slS (shN (atL lk) (yX (atL ly)) t (yL (atL ly)) 0).1 0) (slB (atL lz) (atL lk) (S5 (yX (atL ly)) (shN (atL lk) (yX (atL ly)) t (yL (atL ly)) 0).2) (lgM w 0)) (.exit 0) [(0, .ptr 0 0), (6, .ptr 1 0), (10, .ptr 3 0), (11, .int .u64 (shN (atL lk) (yX (atL ly)) t (yL (atL ly)) 255).1)]
          (slB (atL lz) (atL lk) (S5 (yX (atL ly)) (shN (atL lk) (yX (atL ly)) t (yL (atL ly)) 255).2) (lgM w 255)) 4 := by
        refine SimC.iter (g := gK) (e := .exit 0) (S := fun i => slS (shN (atL lk) (yX (atL ly)) t (yL (atL ly)) i).1 i) (B := fun i => slB (atL lz) (atL lk) (S5 (yX (atL ly)) (shN (atL lk) (yX (atL ly)) t (yL (atL ly)) i).2) (lgM w i)) (N := 255) (fun i hi => ?_) ?_ (by simp) 0 (by omega)
        · have F : Fits .i64 ((i : Int) + 1) := fits_of (by omega) (by omega)
          refine SimC.run (B' := slB (atL lz) (atL lk) (S5 (yX (atL ly)) (shN (atL lk) (yX (atL ly)) t (yL (atL ly)) (i + 1)).2) (lgM w (i + 1))) gK_ok (by decide) (sl_go i _ _ _ _ _ _) ?_ (by decide) i3 (by decide) (by simp) hgl
          have hl := lgM_len w i
          rw [allC_append, allC_append]
          exact ⟨⟨shC_ok hi, lgC_ok (by omega)⟩, by (simp only [allC_cons, allC_nil, and_true]; repeat' (with_reducible (first | refine And.intro ?_ ?_ | exact True.intro | assumption | omega | exact decide_eq_true (by first | assumption | omega) | exact decide_eq_false (by first | assumption | omega) | rfl | (simp; done))))⟩
        · exact SimC.weaken (SimC.run (B' := slB (atL lz) (atL lk) (S5 (yX (atL ly)) (shN (atL lk) (yX (atL ly)) t (yL (atL ly)) 255).2) (lgM w 255)) gK_ok (by decide) (sl_end 255 _ _ _ _ _ _) (by (simp only [allC_cons, allC_nil, and_true]; repeat' (with_reducible (first | refine And.intro ?_ ?_ | exact True.intro | assumption | omega | exact decide_eq_true (by first | assumption | omega) | exact decide_eq_false (by first | assumption | omega) | rfl | (simp; done))))) (by decide) i3 (by decide) (by simp) hgl) (sub_mkT (by simp; exact ⟨rfl, rfl, rfl, rfl⟩))
      have e := l25_S5 (atL ly)
      show SimC _ _ _ _ _ (slS t 0) [.log w, .cells (b32 (atL lz)), .cells (b32 (atL lk)), .cells (l25 (atL ly))] _ _ _ _
      rw [e]
      exact key
    · simp at hG
  · simp at hG
end Go.Proofs.Ytjkenobomlbdcaa
