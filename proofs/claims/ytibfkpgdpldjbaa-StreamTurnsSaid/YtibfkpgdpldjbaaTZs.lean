/- Accounts of this seat's functions: lemmas, no statement of their own. No conditions. -/
import Derived.Test.YtibfkpgdpldjbaaTZr
namespace Go.Proofs.Ytibfkpgdpldjbaa
open Go Go.Vx
section
variable (l : List Int) (s s2 : Nat → Int)
theorem tW1_len : (tW1 l s).length = l.length + 70 := by rw [xorF_len, roomL_len]
theorem tA1_len : (tA1 l s).length = l.length := by rw [xorF_len]
theorem tO_len : (tO l).length = l.length := by rw [List.length_set]; rfl
theorem tW2_len : (tW2 l s).length = l.length + 70 := by rw [cpL_len, tW1_len]
theorem tW3_len : (tW3 l s s2).length = l.length + 70 := by rw [xorF_len, tW2_len]
theorem tA2_len : (tA2 l s2).length = l.length := by rw [xorF_len, subI_all, tO_len]
theorem tW1_low {p : Nat} (hp : p < l.length) : (tW1 l s).getD p 0 = uxor (l.getD p 0) (s p) := by
  rw [xorF_get _ _ _ _ (by rw [roomL_len]; omega), if_pos (by omega), Nat.sub_zero, roomL_get l (by omega), if_pos hp]
theorem tW1_high {p : Nat} (h1 : l.length ≤ p) (h2 : p < l.length + 70) : (tW1 l s).getD p 0 = markN p := by
  rw [xorF_get _ _ _ _ (by rw [roomL_len]; omega), if_neg (by omega), roomL_get l h2, if_neg (by omega)]
theorem tW3_low {p : Nat} (hp : p < l.length) : (tW3 l s s2).getD p 0 = uxor ((tO l).getD p 0) (s2 p) := by
  rw [xorF_get _ _ _ _ (by rw [tW2_len]; omega), if_pos (by omega), Nat.sub_zero, cpL_get _ _ _ (by rw [tW1_len]; omega), if_pos (by rw [tO_len]; exact hp)]
theorem tW3_high {p : Nat} (h1 : l.length ≤ p) (h2 : p < l.length + 70) : (tW3 l s s2).getD p 0 = markN p := by
  rw [xorF_get _ _ _ _ (by rw [tW2_len]; omega), if_neg (by omega), cpL_get _ _ _ (by rw [tW1_len]; omega), if_neg (by rw [tO_len]; omega), tW1_high l s h1 h2]
theorem tW1_mark : marked (tW1 l s) 0 (l.length + 70) (l.length : Int) := ⟨l.length, rfl, by omega, fun i h1 h2 => by rw [Nat.zero_add]; exact tW1_high l s h1 h2⟩
theorem tW3_mark : marked (tW3 l s s2) 0 (l.length + 70) (l.length : Int) := ⟨l.length, rfl, by omega, fun i h1 h2 => by rw [Nat.zero_add]; exact tW3_high l s s2 h1 h2⟩
theorem tW1_sub : subI (tW1 l s) 0 l.length = subI (tA1 l s) 0 (tA1 l s).length := by
  rw [subI_all]
  refine ext_getD (by rw [subI_length (by rw [tW1_len]; omega), tA1_len]) fun p hp => ?_
  rw [subI_length (by rw [tW1_len]; omega)] at hp
  rw [subI_get hp, Nat.zero_add, tW1_low l s hp, xorF_get _ _ _ _ hp, if_pos (by omega), Nat.sub_zero]
theorem tW3_sub : subI (tW3 l s s2) 0 l.length = subI (tA2 l s2) 0 (tA2 l s2).length := by
  rw [subI_all]
  refine ext_getD (by rw [subI_length (by rw [tW3_len]; omega), tA2_len]) fun p hp => ?_
  rw [subI_length (by rw [tW3_len]; omega)] at hp
  rw [subI_get hp, Nat.zero_add, tW3_low l s s2 hp]
  show _ = (xorF (subI (tO l) 0 (tO l).length) 0 (tO l).length s2).getD p 0
  rw [subI_all, xorF_get _ _ _ _ (by rw [tO_len]; exact hp), if_pos (by rw [tO_len]; omega), Nat.sub_zero]
end
theorem tP_ok {k : Nat → Int} {c : Int} {n : Nat → Int} {l : List Int} (hk : BN 32 k) (hn : BN 12 n) (hc : Fits .u32 c) (hl : l.length ≤ 131072) : AllC (tP k c n l) := by
  have F1 : Fits .i64 (l.length : Int) := fits_small (by omega)
  have he := evX_len l.length
  have hE : (tE l).length = (evX l.length).length := rfl
  have hu := U_of hc
  have b1 := BN_listF hk
  have b2 := BN_listF hn
  have hm := tW1_mark l (tS k c n)
  have hs := tW1_sub l (tS k c n)
  have z : ([] : List (List Int)).length = 0 := rfl
  simp only [tP, allC_cons, allC_nil, and_true, tW1_len, tA1_len, roomL_len, hE, z]
  rw [tA1_len] at hs
  exact ⟨F1, decide_eq_false (by omega), by omega, by omega, by omega, hc, by omega, ⟨by omega, by omega, by omega⟩, hu, b1, b2, by omega, by omega, by omega, rfl, by omega, by omega, rfl, by omega, by omega, hm, rfl, by omega, by omega, by omega, hs, ⟨by omega, by omega, by omega⟩, rfl⟩
theorem tQ_ok {k : Nat → Int} {c : Int} {n : Nat → Int} {l : List Int} (hk : BN 32 k) (hn : BN 12 n) (hc : Fits .u32 c) (hl : l.length ≤ 131072) (h0 : 0 < l.length) : AllC (tQ k c n l) := by
  have F1 : Fits .i64 (((evX l.length).length : Nat) : Int) := fits_small (by have := evX_len l.length; omega)
  have hE : (tE l).length = (evX l.length).length := rfl
  have hu := U_of hc
  have b1 := BN_listF (BN_listF hk)
  have b2 := BN_listF (BN_listF hn)
  have hm := tW3_mark l (tS k c n) (tS2 k c n)
  have hs := tW3_sub l (tS k c n) (tS2 k c n)
  have hL := cp_loop
  have z : ([] ++ l).length = l.length := rfl
  rw [tA2_len] at hs
  simp only [tQ, allC_cons, allC_nil, and_true, tW1_len, tW2_len, tW3_len, tA2_len, tO_len, hE, z]
  repeat' (with_reducible (first | refine And.intro ?_ ?_ | exact True.intro | assumption | omega | exact decide_eq_true trivial | (simp; done)))
theorem turns_ok (k : Nat → Int) (hk : ∀ (i : Nat) (q : IntKind), (List.replicate 32 IntKind.u8)[i]? = some q → Fits q (k i)) (c : Int) (hc : Fits .u32 c) (n : Nat → Int) (hn : ∀ (i : Nat) (q : IntKind), (List.replicate 12 IntKind.u8)[i]? = some q → Fits q (n i)) (l : List Int) (hl : l.length * Try.prog.bytesOf 5 ≤ 140737488351232) :
    FnOk g12 7 (tA k c n l) [] { val := .sbool true } := by
  have e1 : Try.prog.bytesOf 5 = 1 := by kernel_rfl
  rw [e1] at hl
  have F1 : Fits .i64 (l.length : Int) := fits_small (by omega)
  have p1 := BN_fits hk
  have p2 := BN_fits hn
  by_cases hm : 131072 < l.length
  · exact FnOk.toSb (b := true) (FnOk.pure g12_ok (tu_big k c n l) (by (simp only [allC_cons, allC_nil, and_true]; repeat' (with_reducible (first | refine And.intro ?_ ?_ | exact True.intro | assumption | omega | exact decide_eq_true (by first | assumption | omega) | exact decide_eq_false (by first | assumption | omega) | rfl | (simp; done)))))) rfl
  · have hP := tP_ok p1 p2 hc (show l.length ≤ 131072 by omega)
    by_cases h0 : l.length = 0
    · refine FnOk.pure g12_ok (tu_nil k c n l) ?_
      rw [allC_append]
      exact ⟨hP, by (simp only [allC_cons, allC_nil, and_true]; repeat' (with_reducible (first | refine And.intro ?_ ?_ | exact True.intro | assumption | omega | exact decide_eq_true (by first | assumption | omega) | exact decide_eq_false (by first | assumption | omega) | rfl | (simp; done))))⟩
    · refine FnOk.pure g12_ok (tu_run k c n l) ?_
      rw [allC_append, allC_append]
      exact ⟨⟨hP, by (simp only [allC_cons, allC_nil, and_true]; repeat' (with_reducible (first | refine And.intro ?_ ?_ | exact True.intro | assumption | omega | exact decide_eq_true (by first | assumption | omega) | exact decide_eq_false (by first | assumption | omega) | rfl | (simp; done))))⟩, tQ_ok p1 p2 hc (by omega) (by omega)⟩
end Go.Proofs.Ytibfkpgdpldjbaa
