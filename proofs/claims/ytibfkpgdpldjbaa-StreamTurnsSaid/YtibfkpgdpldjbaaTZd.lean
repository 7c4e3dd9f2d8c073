/- Accounts of this seat's functions: lemmas, no statement of their own. No conditions. -/
import Derived.Test.YtibfkpgdpldjbaaTZc
namespace Go.Proofs.Ytibfkpgdpldjbaa
open Go Go.Vx
theorem U16_Lf {x : Nat → Int} (h : U16 x) : U16 (Lf x) := fun i hi => by rw [show Lf x i = x i from atL_listF hi]; exact h i hi
theorem U16_qst {x : Nat → Int} (h : U16 x) {a b c d : Nat} (ha : a < 16) (hb : b < 16) (hc : c < 16) (hd : d < 16) : U16 (qst x a b c d) := fun i hi => by
  obtain ⟨_, _, _, _, _, q1, q2, q3, q4⟩ := quarter_eq (h a ha) (h b hb) (h c hc) (h d hd)
  unfold qst qset
  split
  · exact q1
  · split
    · exact q2
    · split
      · exact q3
      · split
        · exact q4
        · exact h i hi
theorem y8_list (x : Nat → Int) : listF 16 (y8 x) 0 = listF 16 (dr x) 0 := by kernel_rfl
theorem y8_dr (x : Nat → Int) : ∀ i, i < 16 → y8 x i = dr x i := fun i hi => by
  have h1 : atL (listF 16 (y8 x) 0) i = y8 x i := atL_listF hi
  have h2 : atL (listF 16 (dr x) 0) i = dr x i := atL_listF hi
  rw [← h1, ← h2, y8_list]
theorem y8_U {x : Nat → Int} (h : U16 x) : U16 (Lf x) ∧ U16 (Lf (y1 x)) ∧ U16 (Lf (y2 x)) ∧ U16 (Lf (y3 x)) ∧ U16 (Lf (y4 x)) ∧ U16 (Lf (y5 x)) ∧ U16 (Lf (y6 x)) ∧ U16 (Lf (y7 x)) ∧ U16 (y8 x) := by
  have u0 := U16_Lf h
  have u1 := U16_Lf (U16_qst u0 (a := 0) (b := 4) (c := 8) (d := 12) (by decide) (by decide) (by decide) (by decide))
  have u2 := U16_Lf (U16_qst u1 (a := 1) (b := 5) (c := 9) (d := 13) (by decide) (by decide) (by decide) (by decide))
  have u3 := U16_Lf (U16_qst u2 (a := 2) (b := 6) (c := 10) (d := 14) (by decide) (by decide) (by decide) (by decide))
  have u4 := U16_Lf (U16_qst u3 (a := 3) (b := 7) (c := 11) (d := 15) (by decide) (by decide) (by decide) (by decide))
  have u5 := U16_Lf (U16_qst u4 (a := 0) (b := 5) (c := 10) (d := 15) (by decide) (by decide) (by decide) (by decide))
  have u6 := U16_Lf (U16_qst u5 (a := 1) (b := 6) (c := 11) (d := 12) (by decide) (by decide) (by decide) (by decide))
  have u7 := U16_Lf (U16_qst u6 (a := 2) (b := 7) (c := 8) (d := 13) (by decide) (by decide) (by decide) (by decide))
  exact ⟨u0, u1, u2, u3, u4, u5, u6, u7, U16_qst u7 (by decide) (by decide) (by decide) (by decide)⟩
end Go.Proofs.Ytibfkpgdpldjbaa
