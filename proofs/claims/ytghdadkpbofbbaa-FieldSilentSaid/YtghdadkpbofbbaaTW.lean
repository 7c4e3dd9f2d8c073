/- Accounts of this seat's functions: lemmas, no statement of their own. No conditions. -/
import Derived.Test.YtghdadkpbofbbaaTV
namespace Go.Proofs.Ytghdadkpbofbbaa
open Go Go.Vx
theorem scE_1 {x e : Nat → Int} (h : x 0 = 1) : scE x e = (puE (xC8 x).toNat (fdecN (listF 32 (dat x) 0)) e) := funext fun j => by unfold scE; rw [h]; rfl
theorem scN_1 {x n : Nat → Int} (h : x 0 = 1) : scN x n = (puN (xC8 x).toNat (dgN (leN 32 (atL (listF 32 (dat x) 0)) 0 % E255 % Q)) n) := funext fun j => by unfold scN; rw [h]; rfl
theorem scL_1 {x : Nat → Int} (h : x 0 = 1) : scL x = [] := by unfold scL; rw [h]; rfl
theorem scE_2 {x e : Nat → Int} (h : x 0 = 2) : scE x e = (puE (xC8 x).toNat (faddN (eL e (xA8 x)) (eL e (xB8 x))) e) := funext fun j => by unfold scE; rw [h]; rfl
theorem scN_2 {x n : Nat → Int} (h : x 0 = 2) : scN x n = (puN (xC8 x).toNat (dgN ((hxL (nL n (xA8 x)) + hxL (nL n (xB8 x))) % Q)) n) := funext fun j => by unfold scN; rw [h]; rfl
theorem scL_2 {x : Nat → Int} (h : x 0 = 2) : scL x = [[3, 1]] := by unfold scL; rw [h]; rfl
theorem scE_3 {x e : Nat → Int} (h : x 0 = 3) : scE x e = (puE (xC8 x).toNat (fsubN (eL e (xA8 x)) (eL e (xB8 x))) e) := funext fun j => by unfold scE; rw [h]; rfl
theorem scN_3 {x n : Nat → Int} (h : x 0 = 3) : scN x n = (puN (xC8 x).toNat (dgN ((hxL (nL n (xA8 x)) - hxL (nL n (xB8 x))) % Q)) n) := funext fun j => by unfold scN; rw [h]; rfl
theorem scL_3 {x : Nat → Int} (h : x 0 = 3) : scL x = [[3, 2]] := by unfold scL; rw [h]; rfl
theorem scE_4 {x e : Nat → Int} (h : x 0 = 4) : scE x e = (puE (xC8 x).toNat (fmulN (eL e (xA8 x)) (eL e (xB8 x))) e) := funext fun j => by unfold scE; rw [h]; rfl
theorem scN_4 {x n : Nat → Int} (h : x 0 = 4) : scN x n = (puN (xC8 x).toNat (dgN (hxL (nL n (xA8 x)) * hxL (nL n (xB8 x)) % Q)) n) := funext fun j => by unfold scN; rw [h]; rfl
theorem scL_4 {x : Nat → Int} (h : x 0 = 4) : scL x = [[3, 3]] := by unfold scL; rw [h]; rfl
theorem scE_5 {x e : Nat → Int} (h : x 0 = 5) : scE x e = (puE (xC8 x).toNat (fmulN (listF 5 (atL (eL e (xA8 x))) 0) (listF 5 (atL (eL e (xA8 x))) 0)) e) := funext fun j => by unfold scE; rw [h]; rfl
theorem scN_5 {x n : Nat → Int} (h : x 0 = 5) : scN x n = (puN (xC8 x).toNat (dgN (hxL (nL n (xA8 x)) * hxL (nL n (xA8 x)) % Q)) n) := funext fun j => by unfold scN; rw [h]; rfl
theorem scL_5 {x : Nat → Int} (h : x 0 = 5) : scL x = [[3, 4]] := by unfold scL; rw [h]; rfl
theorem scE_6 {x e : Nat → Int} (h : x 0 = 6) : scE x e = (puE (xC8 x).toNat (fsclN (eL e (xA8 x)) (x 36)) e) := funext fun j => by unfold scE; rw [h]; rfl
theorem scN_6 {x n : Nat → Int} (h : x 0 = 6) : scN x n = (puN (xC8 x).toNat (dgN (hxL (nL n (xA8 x)) * x 36 % Q)) n) := funext fun j => by unfold scN; rw [h]; rfl
theorem scL_6 {x : Nat → Int} (h : x 0 = 6) : scL x = [[3, 5]] := by unfold scL; rw [h]; rfl
theorem scE_7 {x e : Nat → Int} (h : x 0 = 7) : scE x e = (puE (xC8 x).toNat (finvN (eL e (xA8 x))) e) := funext fun j => by unfold scE; rw [h]; rfl
theorem scN_7 {x n : Nat → Int} (h : x 0 = 7) : scN x n = (puN (xC8 x).toNat (dgN (hxL (nL n (xA8 x)) ^ (Qn - 2) % Q)) n) := funext fun j => by unfold scN; rw [h]; rfl
theorem scL_7 {x : Nat → Int} (h : x 0 = 7) : scL x = [[3, 6]] := by unfold scL; rw [h]; rfl
theorem scE_8 {x e : Nat → Int} (h : x 0 = 8) : scE x e = (sw5 (x 37) (xA8 x).toNat (xB8 x).toNat e) := funext fun j => by unfold scE; rw [h]; rfl
theorem scN_8 {x n : Nat → Int} (h : x 0 = 8) : scN x n = (fun j => if urem (x 37) 2 = 1 then (puN (xB8 x).toNat (pkN n (xA8 x).toNat) (puN (xA8 x).toNat (pkN n (xB8 x).toNat) n)) j else n j) := funext fun j => by unfold scN; rw [h]; rfl
theorem scL_8 {x : Nat → Int} (h : x 0 = 8) : scL x = [[3, 7]] := by unfold scL; rw [h]; rfl
theorem scE_9 {x e : Nat → Int} (h : x 0 = 9) : scE x e = (e) := funext fun j => by unfold scE; rw [h]; rfl
theorem scN_9 {x n : Nat → Int} (h : x 0 = 9) : scN x n = (n) := funext fun j => by unfold scN; rw [h]; rfl
theorem scL_9 {x : Nat → Int} (h : x 0 = 9) : scL x = [] := by unfold scL; rw [h]; rfl
theorem scE_10 {x e : Nat → Int} (h : x 0 = 10) : scE x e = (puE (xC8 x).toNat (fun _ => 0) e) := funext fun j => by unfold scE; rw [h]; rfl
theorem scN_10 {x n : Nat → Int} (h : x 0 = 10) : scN x n = (puN (xC8 x).toNat (fun _ => 0) n) := funext fun j => by unfold scN; rw [h]; rfl
theorem scL_10 {x : Nat → Int} (h : x 0 = 10) : scL x = [] := by unfold scL; rw [h]; rfl
theorem scE_11 {x e : Nat → Int} (h1 : x 0 ≠ 1) (h2 : x 0 ≠ 2) (h3 : x 0 ≠ 3) (h4 : x 0 ≠ 4) (h5 : x 0 ≠ 5) (h6 : x 0 ≠ 6) (h7 : x 0 ≠ 7) (h8 : x 0 ≠ 8) (h9 : x 0 ≠ 9) (h10 : x 0 ≠ 10) : scE x e = e := funext fun j => by unfold scE; rw [if_neg h1, if_neg h2, if_neg h3, if_neg h4, if_neg h5, if_neg h6, if_neg h7, if_neg h8, if_neg h9, if_neg h10]
theorem scN_11 {x n : Nat → Int} (h1 : x 0 ≠ 1) (h2 : x 0 ≠ 2) (h3 : x 0 ≠ 3) (h4 : x 0 ≠ 4) (h5 : x 0 ≠ 5) (h6 : x 0 ≠ 6) (h7 : x 0 ≠ 7) (h8 : x 0 ≠ 8) (h9 : x 0 ≠ 9) (h10 : x 0 ≠ 10) : scN x n = n := funext fun j => by unfold scN; rw [if_neg h1, if_neg h2, if_neg h3, if_neg h4, if_neg h5, if_neg h6, if_neg h7, if_neg h8, if_neg h9, if_neg h10]
theorem scL_11 {x : Nat → Int} (h1 : x 0 ≠ 1) (h2 : x 0 ≠ 2) (h3 : x 0 ≠ 3) (h4 : x 0 ≠ 4) (h5 : x 0 ≠ 5) (h6 : x 0 ≠ 6) (h7 : x 0 ≠ 7) (h8 : x 0 ≠ 8) (h9 : x 0 ≠ 9) (h10 : x 0 ≠ 10) : scL x = [] := by unfold scL; rw [if_neg h1, if_neg h2, if_neg h3, if_neg h4, if_neg h5, if_neg h6, if_neg h7, if_neg h8, if_neg h9, if_neg h10]
/-! ### two Elements change places -/
def SWv (s : Int) (e : Nat → Int) (a b r q : Nat) : Int :=
  if b = q then uxor (if a = b then uxor (e (5 * a + r)) (uand (uneg .u64 (umask s 1)) (uxor (e (5 * a + r)) (e (5 * b + r)))) else e (5 * b + r)) (uand (uneg .u64 (umask s 1)) (uxor (e (5 * a + r)) (e (5 * b + r))))
  else if a = q then uxor (e (5 * a + r)) (uand (uneg .u64 (umask s 1)) (uxor (e (5 * a + r)) (e (5 * b + r)))) else e (5 * q + r)
theorem p1E_at {i r0 : Nat} {v : Int} {e : Nat → Int} {q r : Nat} (hr : r < 5) : p1E i r0 v e (5 * q + r) = if r = r0 then (if i = q then v else e (5 * q + r)) else e (5 * q + r) := by
  have h1 : (5 * q + r) / 5 = q := by omega
  have h2 : (5 * q + r) % 5 = r := by omega
  show (bif Nat.beq ((5 * q + r) % 5) r0 then (if i = (5 * q + r) / 5 then v else e (5 * q + r)) else e (5 * q + r)) = _
  rw [h1, h2]
  by_cases h : r = r0
  · subst h; rw [if_pos rfl, Nat.beq_refl]; rfl
  · rw [if_neg h, show Nat.beq r r0 = false from by cases hb : Nat.beq r r0 with | false => rfl | true => exact absurd (Nat.eq_of_beq_eq_true hb) h]; rfl
theorem sw1_at {s : Int} {a b r0 : Nat} (ha : a < 8) (hb : b < 8) (hr0 : r0 < 5) {e : Nat → Int} {q r : Nat} (hr : r < 5) : sw1 s a b r0 e (5 * q + r) = if r = r0 then SWv s e a b r q else e (5 * q + r) := by
  have hA : ∀ q, swA s a b r0 e (5 * q + r0) = if a = q then uxor (e (5 * a + r0)) (uand (uneg .u64 (umask s 1)) (uxor (e (5 * a + r0)) (e (5 * b + r0)))) else e (5 * q + r0) := fun q => by
    unfold swA swD
    rw [p1E_at hr0, if_pos rfl, pkE_eq ha, pkE_eq hb]
  unfold sw1
  rw [p1E_at hr]
  by_cases h : r = r0
  · subst h
    rw [if_pos rfl, if_pos rfl, pkE_eq hb, hA, hA]
    unfold swD SWv
    rw [pkE_eq ha, pkE_eq hb]
  · rw [if_neg h, if_neg h]
    unfold swA
    rw [p1E_at hr, if_neg h]
theorem SWv_ext {s : Int} {e e' : Nat → Int} {a b r q : Nat} (h : ∀ q, e' (5 * q + r) = e (5 * q + r)) : SWv s e' a b r q = SWv s e a b r q := by
  unfold SWv; rw [h, h, h]
noncomputable def lay (s : Int) (a b : Nat) (e : Nat → Int) : Nat → (Nat → Int)
  | 0 => e
  | k + 1 => sw1 s a b k (lay s a b e k)
theorem lay_at {s : Int} {a b : Nat} (ha : a < 8) (hb : b < 8) (e : Nat → Int) : ∀ k, k ≤ 5 → ∀ q r, r < 5 → lay s a b e k (5 * q + r) = if r < k then SWv s e a b r q else e (5 * q + r)
  | 0, _, q, r, _ => by rw [if_neg (by omega)]; rfl
  | k + 1, hk, q, r, hr => by
    have ih := lay_at (s := s) ha hb e k (by omega)
    show sw1 s a b k (lay s a b e k) (5 * q + r) = _
    rw [sw1_at ha hb (by omega) hr]
    by_cases h : r = k
    · subst h
      rw [if_pos rfl, if_pos (by omega)]
      exact SWv_ext fun q => by rw [ih q r hr, if_neg (by omega)]
    · rw [if_neg h, ih q r hr]
      by_cases h2 : r < k
      · rw [if_pos h2, if_pos (by omega)]
      · rw [if_neg h2, if_neg (by omega)]
theorem sw5_at {s : Int} {a b : Nat} (ha : a < 8) (hb : b < 8) (e : Nat → Int) (q : Nat) {r : Nat} (hr : r < 5) : sw5 s a b e (5 * q + r) = SWv s e a b r q := by
  have := lay_at (s := s) ha hb e 5 (Nat.le_refl _) q r hr
  rw [if_pos hr] at this
  exact this
theorem Inv_swap {e n : Nat → Int} {a b : Nat} {s : Int} (h : Inv e n) (ha : a < 8) (hb : b < 8) (hs : 0 ≤ s) :
    Inv (sw5 s a b e) (fun j => if urem s 2 = 1 then (puN b (pkN n a) (puN a (pkN n b) n)) j else n j) := by
  obtain ⟨N, hN⟩ := h
  obtain ⟨a1, a2, a3⟩ := hN a ha
  obtain ⟨b1, b2, b3⟩ := hN b hb
  have hu := uremE hs
  have P := is_swP hs a1 b1
  have R := is_swQ hs a1 b1
  refine ⟨fun q => if s % 2 = 1 then (if b = q then N a else if a = q then N b else N q) else N q, fun q hq => ?_⟩
  obtain ⟨q1, q2, q3⟩ := hN q hq
  refine ⟨?_, ?_, fun j hj => ?_⟩
  · have e0 : L5 (fun r => sw5 s a b e (5 * q + r)) = L5 (fun r => SWv s e a b r q) := listF_eq0.2 fun r hr => sw5_at ha hb e q hr
    rw [e0]
    by_cases hbq : b = q
    · subst hbq
      by_cases hab : a = b
      · subst hab
        have e1 : (if s % 2 = 1 then (if a = a then N a else if a = a then N a else N a) else N a) = N a := by split <;> simp
        simp only [if_true] at e1 ⊢
        rw [show (if s % 2 = 1 then N a else N a) = N a by split <;> rfl]
        refine Is_congr a1 fun i hi => ?_
        rw [atL_listF hi, atL_listF hi]
        have hnn := (fs_u64 a1.1 i hi).1
        rw [atL_listF hi] at hnn
        have := swS_eq (s := s) (p := fun r => e (5 * a + r)) (i := i) hnn
        show SWv s e a a i a = _
        unfold SWv
        rw [if_pos rfl, if_pos rfl]
        exact this
      · simp only [if_true]
        have e1 : L5 (fun r => SWv s e a b r b) = listF 5 (swQ s (atL (L5 (fun r => e (5 * a + r)))) (atL (L5 (fun r => e (5 * b + r))))) 0 := listF_eq0.2 fun r hr => by
          show SWv s e a b r b = uxor (atL (L5 (fun r => e (5 * b + r))) r) (uand (uneg .u64 (umask s 1)) (uxor (atL (L5 (fun r => e (5 * a + r))) r) (atL (L5 (fun r => e (5 * b + r))) r)))
          rw [atL_listF hr, atL_listF hr]
          unfold SWv
          rw [if_pos rfl, if_neg hab]
        rw [e1]; exact R
    · simp only [if_neg hbq]
      by_cases haq : a = q
      · subst haq
        simp only [if_true]
        have e1 : L5 (fun r => SWv s e a b r a) = listF 5 (swP s (atL (L5 (fun r => e (5 * a + r)))) (atL (L5 (fun r => e (5 * b + r))))) 0 := listF_eq0.2 fun r hr => by
          show SWv s e a b r a = uxor (atL (L5 (fun r => e (5 * a + r))) r) (uand (uneg .u64 (umask s 1)) (uxor (atL (L5 (fun r => e (5 * a + r))) r) (atL (L5 (fun r => e (5 * b + r))) r)))
          rw [atL_listF hr, atL_listF hr]
          unfold SWv
          rw [if_neg hbq, if_pos rfl]
        rw [e1]; exact P
      · simp only [if_neg haq]
        rw [show (if s % 2 = 1 then N q else N q) = N q by split <;> rfl]
        have e1 : L5 (fun r => SWv s e a b r q) = L5 (fun r => e (5 * q + r)) := listF_eq0.2 fun r hr => by
          show SWv s e a b r q = _
          unfold SWv
          rw [if_neg hbq, if_neg haq]
        rw [e1]; exact q1
  · show 0 ≤ (if s % 2 = 1 then (if b = q then N a else if a = q then N b else N q) else N q) ∧ (if s % 2 = 1 then (if b = q then N a else if a = q then N b else N q) else N q) < Q
    split
    · split
      · exact a2
      · split
        · exact b2
        · exact q2
    · exact q2
  · show (if urem s 2 = 1 then (puN b (pkN n a) (puN a (pkN n b) n)) (16 * q + j) else n (16 * q + j)) = dgN (if s % 2 = 1 then (if b = q then N a else if a = q then N b else N q) else N q) j
    rw [hu]
    by_cases h1 : s % 2 = 1
    · rw [if_pos h1, if_pos h1, puN_at hj, puN_at hj, pkN_eq ha, pkN_eq hb]
      by_cases hbq : b = q
      · rw [if_pos hbq, if_pos hbq]; exact a3 j hj
      · rw [if_neg hbq, if_neg hbq]
        by_cases haq : a = q
        · rw [if_pos haq, if_pos haq]; exact b3 j hj
        · rw [if_neg haq, if_neg haq]; exact q3 j hj
    · rw [if_neg h1, if_neg h1]; exact q3 j hj
theorem Inv_step {x e n : Nat → Int} (h : Inv e n) (hd : ∀ i, i < 32 → Byte (x (4 + i))) (hn : 0 ≤ x 36 ∧ x 36 < 4294967296) (hs : 0 ≤ x 37) : Inv (scE x e) (scN x n) := by
  have hA := (r8 (x 1)).2.2
  have hB := (r8 (x 2)).2.2
  have hC := (r8 (x 3)).2.2
  obtain ⟨ma, a1, a2, a3⟩ := Inv_at h (x 1)
  obtain ⟨mb, b1, b2, b3⟩ := Inv_at h (x 2)
  have ha := (hx_of a3 a2).1
  have hb := (hx_of b3 b2).1
  by_cases k1 : x 0 = 1
  · rw [scE_1 k1, scN_1 k1]
    have hd' : ∀ i, i < 32 → Byte (atL (listF 32 (dat x) 0) i) := fun i hi => by rw [atL_listF hi]; exact hd i hi
    exact Inv_put h (is_dec hd')
  by_cases k2 : x 0 = 2
  · rw [scE_2 k2, scN_2 k2, ha, hb]; exact Inv_put h (is_add a1 b1)
  by_cases k3 : x 0 = 3
  · rw [scE_3 k3, scN_3 k3, ha, hb]; exact Inv_put h (is_sub a1 b1)
  by_cases k4 : x 0 = 4
  · rw [scE_4 k4, scN_4 k4, ha, hb]; exact Inv_put h (is_mul a1 b1)
  by_cases k5 : x 0 = 5
  · rw [scE_5 k5, scN_5 k5, ha]; exact Inv_put h (is_mul (is_list a1) (is_list a1))
  by_cases k6 : x 0 = 6
  · rw [scE_6 k6, scN_6 k6, ha]; exact Inv_put h (is_scl a1 hn)
  by_cases k7 : x 0 = 7
  · rw [scE_7 k7, scN_7 k7, ha]
    have := is_inv a1
    rw [invP_pow] at this
    exact Inv_put h this
  by_cases k8 : x 0 = 8
  · rw [scE_8 k8, scN_8 k8]; exact Inv_swap h hA hB hs
  by_cases k9 : x 0 = 9
  · rw [scE_9 k9, scN_9 k9]; exact h
  by_cases k10 : x 0 = 10
  · rw [scE_10 k10, scN_10 k10]
    have := Inv_put (c := (xC8 x).toNat) (v := fun _ => 0) h is_z
    have z : dgN (0 % Q) = fun _ => 0 := funext fun i => by unfold dgN; split <;> simp
    rw [z] at this
    exact this
  rw [scE_11 k1 k2 k3 k4 k5 k6 k7 k8 k9 k10, scN_11 k1 k2 k3 k4 k5 k6 k7 k8 k9 k10]; exact h
theorem scL_len (x : Nat → Int) : (scL x).length ≤ 1 := by
  unfold scL
  repeat' split
  all_goals decide
end Go.Proofs.Ytghdadkpbofbbaa
