/- Accounts of this seat's functions: lemmas, no statement of their own. No conditions. -/
import Derived.Test.YtghdadkpbofbbaaTU
import Derived.Test.YtghdadkpbofbbaaV4
namespace Go.Proofs.Ytghdadkpbofbbaa
open Go Go.Vx
/-! ### what a step does -/
noncomputable def scE (x e : Nat → Int) (j : Nat) : Int := if x 0 = 1 then (puE (xC8 x).toNat (fdecN (listF 32 (dat x) 0)) e) j else if x 0 = 2 then (puE (xC8 x).toNat (faddN (eL e (xA8 x)) (eL e (xB8 x))) e) j else if x 0 = 3 then (puE (xC8 x).toNat (fsubN (eL e (xA8 x)) (eL e (xB8 x))) e) j else if x 0 = 4 then (puE (xC8 x).toNat (fmulN (eL e (xA8 x)) (eL e (xB8 x))) e) j else if x 0 = 5 then (puE (xC8 x).toNat (fmulN (listF 5 (atL (eL e (xA8 x))) 0) (listF 5 (atL (eL e (xA8 x))) 0)) e) j else if x 0 = 6 then (puE (xC8 x).toNat (fsclN (eL e (xA8 x)) (x 36)) e) j else if x 0 = 7 then (puE (xC8 x).toNat (finvN (eL e (xA8 x))) e) j else if x 0 = 8 then (sw5 (x 37) (xA8 x).toNat (xB8 x).toNat e) j else if x 0 = 9 then (e) j else if x 0 = 10 then (puE (xC8 x).toNat (fun _ => 0) e) j else e j
noncomputable def scN (x n : Nat → Int) (j : Nat) : Int := if x 0 = 1 then (puN (xC8 x).toNat (dgN (leN 32 (atL (listF 32 (dat x) 0)) 0 % E255 % Q)) n) j else if x 0 = 2 then (puN (xC8 x).toNat (dgN ((hxL (nL n (xA8 x)) + hxL (nL n (xB8 x))) % Q)) n) j else if x 0 = 3 then (puN (xC8 x).toNat (dgN ((hxL (nL n (xA8 x)) - hxL (nL n (xB8 x))) % Q)) n) j else if x 0 = 4 then (puN (xC8 x).toNat (dgN (hxL (nL n (xA8 x)) * hxL (nL n (xB8 x)) % Q)) n) j else if x 0 = 5 then (puN (xC8 x).toNat (dgN (hxL (nL n (xA8 x)) * hxL (nL n (xA8 x)) % Q)) n) j else if x 0 = 6 then (puN (xC8 x).toNat (dgN (hxL (nL n (xA8 x)) * x 36 % Q)) n) j else if x 0 = 7 then (puN (xC8 x).toNat (dgN (hxL (nL n (xA8 x)) ^ (Qn - 2) % Q)) n) j else if x 0 = 8 then (if urem (x 37) 2 = 1 then (puN (xB8 x).toNat (pkN n (xA8 x).toNat) (puN (xA8 x).toNat (pkN n (xB8 x).toNat) n)) j else n j) else if x 0 = 9 then (n) j else if x 0 = 10 then (puN (xC8 x).toNat (fun _ => 0) n) j else n j
def scL (x : Nat → Int) : List (List Int) := if x 0 = 1 then [] else if x 0 = 2 then [[3, 1]] else if x 0 = 3 then [[3, 2]] else if x 0 = 4 then [[3, 3]] else if x 0 = 5 then [[3, 4]] else if x 0 = 6 then [[3, 5]] else if x 0 = 7 then [[3, 6]] else if x 0 = 8 then [[3, 7]] else if x 0 = 9 then [] else if x 0 = 10 then [] else []
/-- the Elements are the document's numbers -/
def Inv (e n : Nat → Int) : Prop := ∃ N : Nat → Int, ∀ q, q < 8 → Is (L5 (fun r => e (5 * q + r))) (N q) ∧ (0 ≤ N q ∧ N q < Q) ∧ ∀ j, j < 16 → n (16 * q + j) = dgN (N q) j
theorem pkE_eq {e : Nat → Int} {i : Nat} (h : i < 8) (r : Nat) : pkE e i r = e (5 * i + r) := atL_listF (a := fun q => e (5 * q + r)) h
theorem pkN_eq {n : Nat → Int} {i : Nat} (h : i < 8) (r : Nat) : pkN n i r = n (16 * i + r) := atL_listF (a := fun q => n (16 * q + r)) h
theorem L5_pk {e : Nat → Int} {i : Nat} (h : i < 8) : L5 (pkE e i) = L5 (fun r => e (5 * i + r)) := listF_eq0.2 fun r _ => pkE_eq h r
theorem r8 (v : Int) : 0 ≤ v % 8 ∧ v % 8 < 8 ∧ (v % 8).toNat < 8 := ⟨by omega, by omega, by omega⟩
theorem puE_at {i : Nat} {v e : Nat → Int} {q r : Nat} (hr : r < 5) : puE i v e (5 * q + r) = if i = q then v r else e (5 * q + r) := by
  have h1 : (5 * q + r) / 5 = q := by omega
  have h2 : (5 * q + r) % 5 = r := by omega
  show (if i = (5 * q + r) / 5 then v ((5 * q + r) % 5) else e (5 * q + r)) = _
  rw [h1, h2]
theorem puN_at {i : Nat} {v n : Nat → Int} {q r : Nat} (hr : r < 16) : puN i v n (16 * q + r) = if i = q then v r else n (16 * q + r) := by
  have h1 : (16 * q + r) / 16 = q := by omega
  have h2 : (16 * q + r) % 16 = r := by omega
  show (if i = (16 * q + r) / 16 then v ((16 * q + r) % 16) else n (16 * q + r)) = _
  rw [h1, h2]
/-- one number is put -/
theorem Inv_put {e n v : Nat → Int} {c : Nat} {m : Int} (h : Inv e n) (hv : Is (L5 v) m) : Inv (puE c v e) (puN c (dgN (m % Q)) n) := by
  obtain ⟨N, hN⟩ := h
  refine ⟨fun q => if c = q then m % Q else N q, fun q hq => ?_⟩
  obtain ⟨h1, h2, h3⟩ := hN q hq
  by_cases e1 : c = q
  · subst e1
    simp only [if_true]
    refine ⟨?_, modQ _, fun j hj => by rw [puN_at hj, if_pos rfl]⟩
    have e2 : L5 (fun r => puE c v e (5 * c + r)) = L5 v := listF_eq0.2 fun r hr => by rw [puE_at hr, if_pos rfl]
    rw [e2]
    exact ⟨hv.1, by rw [hv.2, Int.emod_emod_of_dvd _ (Int.dvd_refl Q)]⟩
  · simp only [if_neg e1]
    refine ⟨?_, h2, fun j hj => by rw [puN_at hj, if_neg e1]; exact h3 j hj⟩
    have e2 : L5 (fun r => puE c v e (5 * q + r)) = L5 (fun r => e (5 * q + r)) := listF_eq0.2 fun r hr => by rw [puE_at hr, if_neg e1]
    rw [e2]; exact h1
/-- what stands at a place -/
theorem Inv_at {e n : Nat → Int} (h : Inv e n) (v : Int) : ∃ m, Is (eL e (v % 8)) m ∧ (0 ≤ m ∧ m < Q) ∧ nL n (v % 8) = L16 (dgN m) := by
  obtain ⟨N, hN⟩ := h
  obtain ⟨h1, h2, h3⟩ := hN _ (r8 v).2.2
  refine ⟨_, ?_, h2, listF_eq0.2 fun j hj => by rw [pkN_eq (r8 v).2.2]; exact h3 j hj⟩
  show Is (L5 (pkE e (v % 8).toNat)) _
  rw [L5_pk (r8 v).2.2]; exact h1
theorem hx_of {n : Nat → Int} {v m : Int} (h : nL n (v % 8) = L16 (dgN m)) (hm : 0 ≤ m ∧ m < Q) : hxL (nL n (v % 8)) = m ∧ gN8 n (v % 8) := by
  unfold gN8
  rw [h]
  exact ⟨hxL_dgQ hm, DG_dg _⟩
theorem uxor_nn (a b : Int) : 0 ≤ uxor a b := Int.natCast_nonneg _
end Go.Proofs.Ytghdadkpbofbbaa
