/- Accounts of this seat's functions: lemmas, no statement of their own. No conditions. -/
import Derived.Test.YtibfkpgdpldjbaaTZd
namespace Go.Proofs.Ytibfkpgdpldjbaa
open Go Go.Vx
def yN : Nat → (Nat → Int) → Nat → Int
  | 0, x => x
  | n + 1, x => y8 (yN n x)
theorem yN_U {x : Nat → Int} (h : U16 x) : ∀ n, U16 (yN n x)
  | 0 => h
  | n + 1 => (y8_U (yN_U h n)).2.2.2.2.2.2.2.2
theorem yN_dr (x : Nat → Int) : ∀ n i, i < 16 → yN n x i = drN n x i
  | 0, _, _ => rfl
  | n + 1, i, hi => by
    show y8 (yN n x) i = dr (drN n x) i
    rw [y8_dr _ i hi]
    exact congrFun (dr_congr (yN_dr x n)) i
noncomputable def rbG : LoopF := fun vals B => match vals, B with
  | [.ptr 0 0, .ptr 1 0, .ptr 2 0, .int .i64 0], [.cells oo, .cells ss, .cells xs] => match numsAs (List.replicate 64 .u8) oo, numsAs (List.replicate 16 .i64) ss, numsAs (List.replicate 16 .i64) xs with
    | some lo, some ls, some lx => some ([(6, .ptr 0 0), (7, .ptr 1 0), (8, .ptr 2 0)], rbB (atL lo) (atL ls) (yN 10 (atL lx)), [U16 (atL lx)])
    | _, _, _ => none
  | _, _ => none
theorem rb_loop : LoopGood g8 84 (.loop rbBody) rbKeep 3 (.exit 0) (mkLoopN rbG) := by
  refine LoopGood.mkN (by decide) fun vals B S' B' C hG hC hlen w0 O hgl => ?_
  clear hlen
  unfold rbG at hG
  split at hG
  · rename_i oo ss xs
    split at hG
    · rename_i lo ls lx ho hs hx
      simp only [Option.some.injEq, Prod.mk.injEq] at hG
      obtain ⟨rfl, rfl, rfl⟩ := hG
      simp only [allC_cons, allC_nil, and_true] at hC
      refine SimC.preI (B1 := rbB (atL lo) (atL ls) (atL lx)) ?_ ⟨cells_nums ho, cells_nums hs, cells_nums hx, trivial⟩
      refine SimC.iter (g := g8) (S := rbS) (B := fun i => rbB (atL lo) (atL ls) (yN i (atL lx))) (N := 10) (fun i hi => ?_) ?_ (by simp) 0 (by omega)
      · have F : Fits .i64 ((i : Int) + 1) := fits_of (by omega) (by omega)
        obtain ⟨u0, u1, u2, u3, u4, u5, u6, u7, _⟩ := y8_U (yN_U hC i)
        exact SimC.run (B' := rbB (atL lo) (atL ls) (yN (i + 1) (atL lx))) g8_ok (by decide) (rb_go i _ _ _) (by (simp only [allC_cons, allC_nil, and_true]; repeat' (with_reducible (first | refine And.intro ?_ ?_ | exact True.intro | assumption | omega | exact decide_eq_true (by first | assumption | omega) | exact decide_eq_false (by first | assumption | omega) | rfl | (simp; done))))) (by decide) i3 (by decide) (by simp) hgl
      · exact SimC.weaken (SimC.run (B' := rbB (atL lo) (atL ls) (yN 10 (atL lx))) g8_ok (by decide) (rb_end 10 _ _ _) (by (simp only [allC_cons, allC_nil, and_true]; repeat' (with_reducible (first | refine And.intro ?_ ?_ | exact True.intro | assumption | omega | exact decide_eq_true (by first | assumption | omega) | exact decide_eq_false (by first | assumption | omega) | rfl | (simp; done))))) (by decide) i3 (by decide) (by simp) hgl) (sub_mkT (by simp; exact ⟨rfl, rfl, rfl⟩))
    · simp at hG
  · simp at hG
end Go.Proofs.Ytibfkpgdpldjbaa
