/- Accounts of this seat's functions: lemmas, no statement of their own. No conditions. -/
import Derived.Test.YtibfgdbkobgemaaTPh
import Derived.Test.YtibfgdbkobgemaaV4
namespace Go.Proofs.Ytibfgdbkobgemaa
open Go Go.Vx
/-! ### what a step does -/
noncomputable def scE (x e : Nat → Int) (j : Nat) : Int := if x 0 = 1 then (puE (xC8 x).toNat (clampN (loL x)) e) j else if x 0 = 2 then (puE (xC8 x).toNat (blockN (roL x)) e) j else if x 0 = 3 then (puE (xC8 x).toNat (addN (eL e (xA8 x)) (eL e (xB8 x))) e) j else if x 0 = 4 then (puE (xC8 x).toNat (mulN (eL e (xA8 x)) (eL e (xB8 x))) e) j else if x 0 = 5 then (e) j else if x 0 = 6 then (e) j else e j
noncomputable def scN (x n : Nat → Int) (j : Nat) : Int := if x 0 = 1 then (puN (xC8 x).toNat (clD (atL (loL x))) n) j else if x 0 = 2 then (puN (xC8 x).toNat (byteN (leN 17 (atL (roL x)) 0 % P5)) n) j else if x 0 = 3 then (puN (xC8 x).toNat (byteN ((leN 17 (atL (nL n (xA8 x))) 0 + leN 17 (atL (nL n (xB8 x))) 0) % P5)) n) j else if x 0 = 4 then (puN (xC8 x).toNat (byteN (leN 17 (atL (nL n (xA8 x))) 0 * leN 17 (atL (nL n (xB8 x))) 0 % P5)) n) j else if x 0 = 5 then (n) j else if x 0 = 6 then (n) j else n j
def scL (x : Nat → Int) : List (List Int) := if x 0 = 1 then [] else if x 0 = 2 then [] else if x 0 = 3 then [[3, 11]] else if x 0 = 4 then [[3, 12]] else if x 0 = 5 then [] else if x 0 = 6 then [] else []
theorem scE_1 {x e : Nat → Int} (h : x 0 = 1) : scE x e = (puE (xC8 x).toNat (clampN (loL x)) e) := funext fun j => by unfold scE; rw [h]; rfl
theorem scN_1 {x n : Nat → Int} (h : x 0 = 1) : scN x n = (puN (xC8 x).toNat (clD (atL (loL x))) n) := funext fun j => by unfold scN; rw [h]; rfl
theorem scL_1 {x : Nat → Int} (h : x 0 = 1) : scL x = [] := by unfold scL; rw [h]; rfl
theorem scE_2 {x e : Nat → Int} (h : x 0 = 2) : scE x e = (puE (xC8 x).toNat (blockN (roL x)) e) := funext fun j => by unfold scE; rw [h]; rfl
theorem scN_2 {x n : Nat → Int} (h : x 0 = 2) : scN x n = (puN (xC8 x).toNat (byteN (leN 17 (atL (roL x)) 0 % P5)) n) := funext fun j => by unfold scN; rw [h]; rfl
theorem scL_2 {x : Nat → Int} (h : x 0 = 2) : scL x = [] := by unfold scL; rw [h]; rfl
theorem scE_3 {x e : Nat → Int} (h : x 0 = 3) : scE x e = (puE (xC8 x).toNat (addN (eL e (xA8 x)) (eL e (xB8 x))) e) := funext fun j => by unfold scE; rw [h]; rfl
theorem scN_3 {x n : Nat → Int} (h : x 0 = 3) : scN x n = (puN (xC8 x).toNat (byteN ((leN 17 (atL (nL n (xA8 x))) 0 + leN 17 (atL (nL n (xB8 x))) 0) % P5)) n) := funext fun j => by unfold scN; rw [h]; rfl
theorem scL_3 {x : Nat → Int} (h : x 0 = 3) : scL x = [[3, 11]] := by unfold scL; rw [h]; rfl
theorem scE_4 {x e : Nat → Int} (h : x 0 = 4) : scE x e = (puE (xC8 x).toNat (mulN (eL e (xA8 x)) (eL e (xB8 x))) e) := funext fun j => by unfold scE; rw [h]; rfl
theorem scN_4 {x n : Nat → Int} (h : x 0 = 4) : scN x n = (puN (xC8 x).toNat (byteN (leN 17 (atL (nL n (xA8 x))) 0 * leN 17 (atL (nL n (xB8 x))) 0 % P5)) n) := funext fun j => by unfold scN; rw [h]; rfl
theorem scL_4 {x : Nat → Int} (h : x 0 = 4) : scL x = [[3, 12]] := by unfold scL; rw [h]; rfl
theorem scE_5 {x e : Nat → Int} (h : x 0 = 5) : scE x e = (e) := funext fun j => by unfold scE; rw [h]; rfl
theorem scN_5 {x n : Nat → Int} (h : x 0 = 5) : scN x n = (n) := funext fun j => by unfold scN; rw [h]; rfl
theorem scL_5 {x : Nat → Int} (h : x 0 = 5) : scL x = [] := by unfold scL; rw [h]; rfl
theorem scE_6 {x e : Nat → Int} (h : x 0 = 6) : scE x e = (e) := funext fun j => by unfold scE; rw [h]; rfl
theorem scN_6 {x n : Nat → Int} (h : x 0 = 6) : scN x n = (n) := funext fun j => by unfold scN; rw [h]; rfl
theorem scL_6 {x : Nat → Int} (h : x 0 = 6) : scL x = [] := by unfold scL; rw [h]; rfl
theorem scE_7 {x e : Nat → Int} (h1 : x 0 ≠ 1) (h2 : x 0 ≠ 2) (h3 : x 0 ≠ 3) (h4 : x 0 ≠ 4) (h5 : x 0 ≠ 5) (h6 : x 0 ≠ 6) : scE x e = e := funext fun j => by unfold scE; rw [if_neg h1, if_neg h2, if_neg h3, if_neg h4, if_neg h5, if_neg h6]
theorem scN_7 {x n : Nat → Int} (h1 : x 0 ≠ 1) (h2 : x 0 ≠ 2) (h3 : x 0 ≠ 3) (h4 : x 0 ≠ 4) (h5 : x 0 ≠ 5) (h6 : x 0 ≠ 6) : scN x n = n := funext fun j => by unfold scN; rw [if_neg h1, if_neg h2, if_neg h3, if_neg h4, if_neg h5, if_neg h6]
theorem scL_7 {x : Nat → Int} (h1 : x 0 ≠ 1) (h2 : x 0 ≠ 2) (h3 : x 0 ≠ 3) (h4 : x 0 ≠ 4) (h5 : x 0 ≠ 5) (h6 : x 0 ≠ 6) : scL x = [] := by unfold scL; rw [if_neg h1, if_neg h2, if_neg h3, if_neg h4, if_neg h5, if_neg h6]
/-- the program's numbers are the document's -/
def Inv (e n : Nat → Int) : Prop := ∃ N : Nat → Int, ∀ q, q < 8 → Is (L5 (fun r => e (5 * q + r))) (N q) ∧ (0 ≤ N q ∧ N q < P5) ∧ ∀ j, j < 17 → n (17 * q + j) = byteN (N q) j
theorem pkE_eq {e : Nat → Int} {i : Nat} (h : i < 8) (r : Nat) : pkE e i r = e (5 * i + r) := atL_listF (a := fun q => e (5 * q + r)) h
theorem pkN_eq {n : Nat → Int} {i : Nat} (h : i < 8) (r : Nat) : pkN n i r = n (17 * i + r) := atL_listF (a := fun q => n (17 * q + r)) h
theorem L5_pk {e : Nat → Int} {i : Nat} (h : i < 8) : L5 (pkE e i) = L5 (fun r => e (5 * i + r)) := listF_eq0.2 fun r _ => pkE_eq h r
theorem r8 (v : Int) : 0 ≤ v % 8 ∧ v % 8 < 8 ∧ (v % 8).toNat < 8 := ⟨by omega, by omega, by omega⟩
theorem puE_at {i : Nat} {v e : Nat → Int} {q r : Nat} (hr : r < 5) : puE i v e (5 * q + r) = if i = q then v r else e (5 * q + r) := by
  have h1 : (5 * q + r) / 5 = q := by omega
  have h2 : (5 * q + r) % 5 = r := by omega
  show (if i = (5 * q + r) / 5 then v ((5 * q + r) % 5) else e (5 * q + r)) = _
  rw [h1, h2]
theorem puN_at {i : Nat} {v n : Nat → Int} {q r : Nat} (hr : r < 17) : puN i v n (17 * q + r) = if i = q then v r else n (17 * q + r) := by
  have h1 : (17 * q + r) / 17 = q := by omega
  have h2 : (17 * q + r) % 17 = r := by omega
  show (if i = (17 * q + r) / 17 then v ((17 * q + r) % 17) else n (17 * q + r)) = _
  rw [h1, h2]
/-- one number is put -/
theorem Inv_put {e n v u : Nat → Int} {c : Nat} {m : Int} (h : Inv e n) (hv : Is (L5 v) m) (hu : ∀ j, j < 17 → u j = byteN (m % P5) j) : Inv (puE c v e) (puN c u n) := by
  obtain ⟨N, hN⟩ := h
  refine ⟨fun q => if c = q then m % P5 else N q, fun q hq => ?_⟩
  obtain ⟨h1, h2, h3⟩ := hN q hq
  by_cases e1 : c = q
  · subst e1
    simp only [if_true]
    refine ⟨?_, modP _, fun j hj => by rw [puN_at hj, if_pos rfl]; exact hu j hj⟩
    have e2 : L5 (fun r => puE c v e (5 * c + r)) = L5 v := listF_eq0.2 fun r hr => by rw [puE_at hr, if_pos rfl]
    rw [e2]
    exact ⟨hv.1, by rw [hv.2, Int.emod_emod_of_dvd _ (Int.dvd_refl P5)]⟩
  · simp only [if_neg e1]
    refine ⟨?_, h2, fun j hj => by rw [puN_at hj, if_neg e1]; exact h3 j hj⟩
    have e2 : L5 (fun r => puE c v e (5 * q + r)) = L5 (fun r => e (5 * q + r)) := listF_eq0.2 fun r hr => by rw [puE_at hr, if_neg e1]
    rw [e2]; exact h1
/-- what stands at a place -/
theorem Inv_at {e n : Nat → Int} (h : Inv e n) (v : Int) : ∃ m, Is (eL e (v % 8)) m ∧ (0 ≤ m ∧ m < P5) ∧ nL n (v % 8) = listF 17 (byteN m) 0 := by
  obtain ⟨N, hN⟩ := h
  obtain ⟨h1, h2, h3⟩ := hN _ (r8 v).2.2
  refine ⟨_, ?_, h2, listF_eq0.2 fun j hj => by rw [pkN_eq (r8 v).2.2]; exact h3 j hj⟩
  show Is (L5 (pkE e (v % 8).toNat)) _
  rw [L5_pk (r8 v).2.2]; exact h1
theorem leN_at {n : Nat → Int} {v m : Int} (h : nL n (v % 8) = listF 17 (byteN m) 0) (hm : 0 ≤ m ∧ m < P5) : leN 17 (atL (nL n (v % 8))) 0 = m ∧ gN8 n (v % 8) := by
  unfold gN8
  rw [h]
  refine ⟨?_, NG_L.2 (NG_by hm)⟩
  rw [← leN_by hm]
  refine leN_congr 17 0 fun j hj => ?_
  rw [Nat.zero_add, atLF hj, leN_by hm]
theorem clampL_at {f : Nat → Int} (h : ∀ j, j < 16 → Byte (f j)) : ∀ j, j < 17 → atL (clampL f) j = clD f j := by
  have m15 : ∀ j, j < 16 → umask (f j) 15 = f j % 16 := fun j hj => umaskE (f j) 15 (h j hj).1
  have m25 : ∀ j, j < 16 → uand (f j) 252 = f j - f j % 4 := fun j hj => uand252 (h j hj)
  intro j hj
  match j, hj with
  | 0, _ => rfl
  | 1, _ => rfl
  | 2, _ => rfl
  | 3, _ => exact m15 3 (by decide)
  | 4, _ => exact m25 4 (by decide)
  | 5, _ => rfl
  | 6, _ => rfl
  | 7, _ => exact m15 7 (by decide)
  | 8, _ => exact m25 8 (by decide)
  | 9, _ => rfl
  | 10, _ => rfl
  | 11, _ => exact m15 11 (by decide)
  | 12, _ => exact m25 12 (by decide)
  | 13, _ => rfl
  | 14, _ => rfl
  | 15, _ => exact m15 15 (by decide)
  | 16, _ => rfl
  | j + 17, hj => exact absurd hj (by omega)
theorem Inv_step {x e n : Nat → Int} (h : Inv e n) (h1 : ∀ i, i < 16 → Byte (x (4 + i))) (h2 : ∀ i, i < 17 → Byte (x (20 + i))) : Inv (scE x e) (scN x n) := by
  have lo : ∀ i, i < 16 → Byte (atL (loL x) i) := fun i hi => by rw [atL_listF hi]; exact h1 i hi
  have ro : ∀ i, i < 17 → Byte (atL (roL x) i) := fun i hi => by rw [atL_listF hi]; exact h2 i hi
  obtain ⟨ma, a1, a2, a3⟩ := Inv_at h (x 1)
  obtain ⟨mb, b1, b2, b3⟩ := Inv_at h (x 2)
  have ha := (leN_at a3 a2).1
  have hb := (leN_at b3 b2).1
  by_cases k1 : x 0 = 1
  · rw [scE_1 k1, scN_1 k1]
    have hc := clamp_bytes lo
    have hl := clamp_lt lo
    refine Inv_put h (is_block hc) fun j hj => ?_
    rw [Int.emod_eq_of_lt hl.1 hl.2]
    have := byte_leN 17 (f := atL (clampL (atL (loL x)))) 0 (fun i hi => by rw [Nat.zero_add]; exact hc i hi) j hj
    rw [this, Nat.zero_add]
    exact (clampL_at lo j hj).symm
  by_cases k2 : x 0 = 2
  · rw [scE_2 k2, scN_2 k2]; exact Inv_put h (is_block ro) fun _ _ => rfl
  by_cases k3 : x 0 = 3
  · rw [scE_3 k3, scN_3 k3, ha, hb]; exact Inv_put h (is_add a1 b1) fun _ _ => rfl
  by_cases k4 : x 0 = 4
  · rw [scE_4 k4, scN_4 k4, ha, hb]; exact Inv_put h (is_mul a1 b1) fun _ _ => rfl
  by_cases k5 : x 0 = 5
  · rw [scE_5 k5, scN_5 k5]; exact h
  by_cases k6 : x 0 = 6
  · rw [scE_6 k6, scN_6 k6]; exact h
  rw [scE_7 k1 k2 k3 k4 k5 k6, scN_7 k1 k2 k3 k4 k5 k6]; exact h
theorem qB_ok {x e n : Nat → Int} (h : Inv e n) : qB x e n = true := by
  obtain ⟨ma, a1, a2, a3⟩ := Inv_at h (x 1)
  refine decide_eq_true ?_
  have e1 := bytes_eq a1
  rw [a3]
  rw [Int.emod_eq_of_lt a2.1 a2.2] at e1
  rw [show listF 17 (bytesN (eL e (xA8 x))) 0 = _ from e1]
  exact listF_eq0.2 fun j hj => (atL_listF hj).symm
theorem qS_ok {x e n : Nat → Int} (h : Inv e n) (h1 : ∀ i, i < 16 → Byte (x (4 + i))) : qS x e n = true := by
  have lo : ∀ i, i < 16 → Byte (atL (loL x) i) := fun i hi => by rw [atL_listF hi]; exact h1 i hi
  obtain ⟨ma, a1, a2, a3⟩ := Inv_at h (x 1)
  refine decide_eq_true ?_
  rw [sumN_eq lo, a3]
  have : leN 16 (bytesN (eL e (xA8 x))) 0 = leN 16 (atL (listF 17 (byteN ma) 0)) 0 := leN_congr 16 0 fun j hj => by
    rw [Nat.zero_add, atL_listF (show j < 17 by omega), bytesN_at a1 (show j < 17 by omega), Int.emod_eq_of_lt a2.1 a2.2]
  rw [this]
theorem scL_len (x : Nat → Int) : (scL x).length ≤ 1 := by
  unfold scL
  repeat' split
  all_goals decide
/-! ### the account of a step -/
theorem cIof (v : Int) : cI (v % 8) := (r8 v).2.2
theorem cRof (v : Int) : cR (v % 8) := ⟨(r8 v).1, (r8 v).2.1⟩
theorem step_0 {x e n : Nat → Int} {l w : List (List Int)} (h : Inv e n) (h1 : ∀ i, i < 16 → Byte (x (4 + i))) (hl : l.length < 1000000) (hw : w.length < 1099511627776) : FnOk gl 21 [.ptr 0 0, rwV x] [bnV e n (nilR) 1, .rows [.i64, .i64] l] { val := .sbool true, upd := [(0, some (bnV (scE x e) (scN x n) (nilR) 2)), (1, none)], new := [.rows [.i64, .i64] (l ++ scL x)] } := by
  have iA := cIof (x 1)
  have iB := cIof (x 2)
  have iC := cIof (x 3)
  have rA := cRof (x 1)
  have rB := cRof (x 2)
  have rC := cRof (x 3)
  obtain ⟨ma, _, a2, a3⟩ := Inv_at h (x 1)
  obtain ⟨mb, _, b2, b3⟩ := Inv_at h (x 2)
  have dA := (leN_at a3 a2).2
  have dB := (leN_at b3 b2).2
  have hlen : ∀ op : Int, (l ++ [[3, op]]).length * 16 ≤ 2 ^ 47 := fun op => by rw [List.length_append]; simp only [List.length_cons, List.length_nil]; omega
  by_cases k1 : x 0 = 1
  · rw [scE_1 k1, scN_1 k1, scL_1 k1]
    have hr := st1_0 x e n l []
    have hrun : FnOk gl 21 [.ptr 0 0, rwV x] [bnV e n (nilR) 1, .rows [.i64, .i64] l] { val := .bool true, upd := [(0, some (bnV (puE (xC8 x).toNat (clampN (loL x)) e) (puN (xC8 x).toNat (clD (atL (loL x))) n) (nilR) 1))] } := FnOk.run (new := []) gl_ok hr (by simp only [sC1_0, allC_cons, allC_nil, and_true]; exact ⟨decide_eq_true k1, iC, iC, iC, iC, iC, rC, iC, iC, iC, iC, iC, iC, iC, iC, iC, iC, iC, iC, iC, iC, iC, iC, iC, rC⟩) (by simp [upto]) rfl (by simp) (by simp) (fun j hj => by
      match j, hj with
      | 0, _ => rfl
      | 1, _ => rfl
      | j + 2, hj => exact absurd hj (by simp))
    have hsh := FnOk.shift (i := 1) (v' := .bool true) (upd' := [(0, some (bnV (puE (xC8 x).toNat (clampN (loL x)) e) (puN (xC8 x).toNat (clD (atL (loL x))) n) (nilR) 2)), (1, none)]) (bd := .rows [.i64, .i64] l) (C' := []) [0, 3, 1] (by simp) rfl (by decide) (fun j hj hne => by
      match j, hj, hne with
      | 0, _, _ => rfl
      | 1, _, hne => exact absurd rfl hne
      | j + 2, hj, _ => exact absurd hj (by simp)) rfl hrun rfl (by simp) (fun j hj => by
      match j, hj with
      | 0, _ => show _ = _; kernel_rfl
      | 1, _ => show _ = _; kernel_rfl
      | 2, _ => show _ = _; kernel_rfl
      | j + 3, hj => exact absurd hj (by simp))
    rw [List.append_nil]
    exact FnOk.toSb (b := true) hsh rfl
  by_cases k2 : x 0 = 2
  · rw [scE_2 k2, scN_2 k2, scL_2 k2]
    have hr := st2_0 x e n l []
    have hrun : FnOk gl 21 [.ptr 0 0, rwV x] [bnV e n (nilR) 1, .rows [.i64, .i64] l] { val := .bool true, upd := [(0, some (bnV (puE (xC8 x).toNat (blockN (roL x)) e) (puN (xC8 x).toNat (byteN (leN 17 (atL (roL x)) 0 % P5)) n) (nilR) 1))] } := FnOk.run (new := []) gl_ok hr (by simp only [sC2_0, allC_cons, allC_nil, and_true]; exact ⟨decide_eq_false (by omega), decide_eq_true k2, iC, iC, iC, iC, iC, rC, iC, iC, iC, iC, iC, iC, iC, iC, iC, iC, iC, iC, iC, iC, iC, iC, iC, rC⟩) (by simp [upto]) rfl (by simp) (by simp) (fun j hj => by
      match j, hj with
      | 0, _ => rfl
      | 1, _ => rfl
      | j + 2, hj => exact absurd hj (by simp))
    have hsh := FnOk.shift (i := 1) (v' := .bool true) (upd' := [(0, some (bnV (puE (xC8 x).toNat (blockN (roL x)) e) (puN (xC8 x).toNat (byteN (leN 17 (atL (roL x)) 0 % P5)) n) (nilR) 2)), (1, none)]) (bd := .rows [.i64, .i64] l) (C' := []) [0, 3, 1] (by simp) rfl (by decide) (fun j hj hne => by
      match j, hj, hne with
      | 0, _, _ => rfl
      | 1, _, hne => exact absurd rfl hne
      | j + 2, hj, _ => exact absurd hj (by simp)) rfl hrun rfl (by simp) (fun j hj => by
      match j, hj with
      | 0, _ => show _ = _; kernel_rfl
      | 1, _ => show _ = _; kernel_rfl
      | 2, _ => show _ = _; kernel_rfl
      | j + 3, hj => exact absurd hj (by simp))
    rw [List.append_nil]
    exact FnOk.toSb (b := true) hsh rfl
  by_cases k3 : x 0 = 3
  · rw [scE_3 k3, scN_3 k3, scL_3 k3]
    exact FnOk.toSb (b := true) (FnOk.run (out := { val := .bool true, upd := [(0, some (bnV (puE (xC8 x).toNat (addN (eL e (xA8 x)) (eL e (xB8 x))) e) (puN (xC8 x).toNat (byteN ((leN 17 (atL (nL n (xA8 x))) 0 + leN 17 (atL (nL n (xB8 x))) 0) % P5)) n) (nilR) 2)), (1, none)], new := [.rows [.i64, .i64] (l ++ [[3, 11]])] }) (new := [4]) gl_ok (st3_0 x e n l []) (by simp only [sC3_0, allC_cons, allC_nil, and_true]; exact ⟨decide_eq_false (by omega), decide_eq_false (by omega), decide_eq_true k3, iC, iC, iC, iC, iC, rC, iB, iB, iB, iB, iB, rB, iA, iA, iA, iA, iA, rA, iC, iC, iC, iC, iC, iC, iC, iC, iC, iC, iC, iC, iC, iC, iC, iC, iC, rC, dA, dB, iB, iB, iB, iB, iB, iB, iB, iB, iB, iB, iB, iB, iB, iB, iB, iB, iB, rB, iA, iA, iA, iA, iA, iA, iA, iA, iA, iA, iA, iA, iA, iA, iA, iA, iA, rA, hlen _⟩) (by simp [upto]) rfl (by simp) (by simp) (fun j hj => by
      match j, hj with
      | 0, _ => rfl
      | 1, _ => rfl
      | 2, _ => rfl
      | j + 3, hj => exact absurd hj (by simp))) rfl
  by_cases k4 : x 0 = 4
  · rw [scE_4 k4, scN_4 k4, scL_4 k4]
    exact FnOk.toSb (b := true) (FnOk.run (out := { val := .bool true, upd := [(0, some (bnV (puE (xC8 x).toNat (mulN (eL e (xA8 x)) (eL e (xB8 x))) e) (puN (xC8 x).toNat (byteN (leN 17 (atL (nL n (xA8 x))) 0 * leN 17 (atL (nL n (xB8 x))) 0 % P5)) n) (nilR) 2)), (1, none)], new := [.rows [.i64, .i64] (l ++ [[3, 12]])] }) (new := [4]) gl_ok (st4_0 x e n l []) (by simp only [sC4_0, allC_cons, allC_nil, and_true]; exact ⟨decide_eq_false (by omega), decide_eq_false (by omega), decide_eq_false (by omega), decide_eq_true k4, iC, iC, iC, iC, iC, rC, iB, iB, iB, iB, iB, rB, iA, iA, iA, iA, iA, rA, iC, iC, iC, iC, iC, iC, iC, iC, iC, iC, iC, iC, iC, iC, iC, iC, iC, rC, dA, dB, iB, iB, iB, iB, iB, iB, iB, iB, iB, iB, iB, iB, iB, iB, iB, iB, iB, rB, iA, iA, iA, iA, iA, iA, iA, iA, iA, iA, iA, iA, iA, iA, iA, iA, iA, rA, hlen _⟩) (by simp [upto]) rfl (by simp) (by simp) (fun j hj => by
      match j, hj with
      | 0, _ => rfl
      | 1, _ => rfl
      | 2, _ => rfl
      | j + 3, hj => exact absurd hj (by simp))) rfl
  by_cases k5 : x 0 = 5
  · rw [scE_5 k5, scN_5 k5, scL_5 k5]
    have hr := st5_0 x e n l []
    rw [qB_ok h] at hr
    have hrun : FnOk gl 21 [.ptr 0 0, rwV x] [bnV e n (nilR) 1, .rows [.i64, .i64] l] { val := .sbool true, upd := [(0, some (bnV (e) (n) (nilR) 1))] } := FnOk.run (new := []) gl_ok hr (by simp only [sC5_0, allC_cons, allC_nil, and_true]; exact ⟨decide_eq_false (by omega), decide_eq_false (by omega), decide_eq_false (by omega), decide_eq_false (by omega), decide_eq_true k5, dA, iA, iA, iA, iA, iA, iA, iA, iA, iA, iA, iA, iA, iA, iA, iA, iA, iA, rA, iA, iA, iA, iA, iA, rA⟩) (by simp [upto]) rfl (by simp) (by simp) (fun j hj => by
      match j, hj with
      | 0, _ => rfl
      | 1, _ => rfl
      | j + 2, hj => exact absurd hj (by simp))
    have hsh := FnOk.shift (i := 1) (v' := .sbool true) (upd' := [(0, some (bnV (e) (n) (nilR) 2)), (1, none)]) (bd := .rows [.i64, .i64] l) (C' := []) [0, 3, 1] (by simp) rfl (by decide) (fun j hj hne => by
      match j, hj, hne with
      | 0, _, _ => rfl
      | 1, _, hne => exact absurd rfl hne
      | j + 2, hj, _ => exact absurd hj (by simp)) rfl hrun rfl (by simp) (fun j hj => by
      match j, hj with
      | 0, _ => show _ = _; kernel_rfl
      | 1, _ => show _ = _; kernel_rfl
      | 2, _ => show _ = _; kernel_rfl
      | j + 3, hj => exact absurd hj (by simp))
    rw [List.append_nil]
    exact hsh
  by_cases k6 : x 0 = 6
  · rw [scE_6 k6, scN_6 k6, scL_6 k6]
    have hr := st6_0 x e n l []
    rw [qS_ok h h1] at hr
    have hrun : FnOk gl 21 [.ptr 0 0, rwV x] [bnV e n (nilR) 1, .rows [.i64, .i64] l] { val := .sbool true, upd := [(0, some (bnV (e) (n) (nilR) 1))] } := FnOk.run (new := []) gl_ok hr (by simp only [sC6_0, allC_cons, allC_nil, and_true]; exact ⟨decide_eq_false (by omega), decide_eq_false (by omega), decide_eq_false (by omega), decide_eq_false (by omega), decide_eq_false (by omega), decide_eq_true k6, dA, iA, iA, iA, iA, iA, iA, iA, iA, iA, iA, iA, iA, iA, iA, iA, iA, iA, rA, iA, iA, iA, iA, iA, rA⟩) (by simp [upto]) rfl (by simp) (by simp) (fun j hj => by
      match j, hj with
      | 0, _ => rfl
      | 1, _ => rfl
      | j + 2, hj => exact absurd hj (by simp))
    have hsh := FnOk.shift (i := 1) (v' := .sbool true) (upd' := [(0, some (bnV (e) (n) (nilR) 2)), (1, none)]) (bd := .rows [.i64, .i64] l) (C' := []) [0, 3, 1] (by simp) rfl (by decide) (fun j hj hne => by
      match j, hj, hne with
      | 0, _, _ => rfl
      | 1, _, hne => exact absurd rfl hne
      | j + 2, hj, _ => exact absurd hj (by simp)) rfl hrun rfl (by simp) (fun j hj => by
      match j, hj with
      | 0, _ => show _ = _; kernel_rfl
      | 1, _ => show _ = _; kernel_rfl
      | 2, _ => show _ = _; kernel_rfl
      | j + 3, hj => exact absurd hj (by simp))
    rw [List.append_nil]
    exact hsh
  · rw [scE_7 k1 k2 k3 k4 k5 k6, scN_7 k1 k2 k3 k4 k5 k6, scL_7 k1 k2 k3 k4 k5 k6]
    have hr := st7_0 x e n l []
    have hrun : FnOk gl 21 [.ptr 0 0, rwV x] [bnV e n (nilR) 1, .rows [.i64, .i64] l] { val := .bool true, upd := [(0, some (bnV (e) (n) (nilR) 1))] } := FnOk.run (new := []) gl_ok hr (by simp only [sC7_0, allC_cons, allC_nil, and_true]; exact ⟨decide_eq_false k1, decide_eq_false k2, decide_eq_false k3, decide_eq_false k4, decide_eq_false k5, decide_eq_false k6⟩) (by simp [upto]) rfl (by simp) (by simp) (fun j hj => by
      match j, hj with
      | 0, _ => rfl
      | 1, _ => rfl
      | j + 2, hj => exact absurd hj (by simp))
    have hsh := FnOk.shift (i := 1) (v' := .bool true) (upd' := [(0, some (bnV (e) (n) (nilR) 2)), (1, none)]) (bd := .rows [.i64, .i64] l) (C' := []) [0, 3, 1] (by simp) rfl (by decide) (fun j hj hne => by
      match j, hj, hne with
      | 0, _, _ => rfl
      | 1, _, hne => exact absurd rfl hne
      | j + 2, hj, _ => exact absurd hj (by simp)) rfl hrun rfl (by simp) (fun j hj => by
      match j, hj with
      | 0, _ => show _ = _; kernel_rfl
      | 1, _ => show _ = _; kernel_rfl
      | 2, _ => show _ = _; kernel_rfl
      | j + 3, hj => exact absurd hj (by simp))
    rw [List.append_nil]
    exact FnOk.toSb (b := true) hsh rfl
theorem step_1 {x e n : Nat → Int} {l w : List (List Int)} (h : Inv e n) (h1 : ∀ i, i < 16 → Byte (x (4 + i))) (hl : l.length < 1000000) (hw : w.length < 1099511627776) : FnOk gl 21 [.ptr 0 0, rwV x] [bnV e n (.ptr 1 0) 2, .log w, .rows [.i64, .i64] l] { val := .sbool true, upd := [(0, some (bnV (scE x e) (scN x n) (.ptr 1 0) 3)), (1, some (.log (w ++ scL x))), (2, none)], new := [.rows [.i64, .i64] (l ++ scL x)] } := by
  have iA := cIof (x 1)
  have iB := cIof (x 2)
  have iC := cIof (x 3)
  have rA := cRof (x 1)
  have rB := cRof (x 2)
  have rC := cRof (x 3)
  obtain ⟨ma, _, a2, a3⟩ := Inv_at h (x 1)
  obtain ⟨mb, _, b2, b3⟩ := Inv_at h (x 2)
  have dA := (leN_at a3 a2).2
  have dB := (leN_at b3 b2).2
  have hlen : ∀ op : Int, (l ++ [[3, op]]).length * 16 ≤ 2 ^ 47 := fun op => by rw [List.length_append]; simp only [List.length_cons, List.length_nil]; omega
  by_cases k1 : x 0 = 1
  · rw [scE_1 k1, scN_1 k1, scL_1 k1]
    have hr := st1_1 x e n l w
    have hrun : FnOk gl 21 [.ptr 0 0, rwV x] [bnV e n (.ptr 1 0) 2, .log w, .rows [.i64, .i64] l] { val := .bool true, upd := [(0, some (bnV (puE (xC8 x).toNat (clampN (loL x)) e) (puN (xC8 x).toNat (clD (atL (loL x))) n) (.ptr 1 0) 2))] } := FnOk.run (new := []) gl_ok hr (by simp only [sC1_1, allC_cons, allC_nil, and_true]; exact ⟨decide_eq_true k1, iC, iC, iC, iC, iC, rC, iC, iC, iC, iC, iC, iC, iC, iC, iC, iC, iC, iC, iC, iC, iC, iC, iC, rC⟩) (by simp [upto]) rfl (by simp) (by simp) (fun j hj => by
      match j, hj with
      | 0, _ => rfl
      | 1, _ => rfl
      | 2, _ => rfl
      | j + 3, hj => exact absurd hj (by simp))
    have hsh := FnOk.shift (i := 2) (v' := .bool true) (upd' := [(0, some (bnV (puE (xC8 x).toNat (clampN (loL x)) e) (puN (xC8 x).toNat (clD (atL (loL x))) n) (.ptr 1 0) 3)), (1, some (.log w)), (2, none)]) (bd := .rows [.i64, .i64] l) (C' := []) [0, 1, 4, 2] (by simp) rfl (by decide) (fun j hj hne => by
      match j, hj, hne with
      | 0, _, _ => rfl
      | 1, _, _ => rfl
      | 2, _, hne => exact absurd rfl hne
      | j + 3, hj, _ => exact absurd hj (by simp)) rfl hrun rfl (by simp) (fun j hj => by
      match j, hj with
      | 0, _ => show _ = _; kernel_rfl
      | 1, _ => show _ = _; kernel_rfl
      | 2, _ => show _ = _; kernel_rfl
      | 3, _ => show _ = _; kernel_rfl
      | j + 4, hj => exact absurd hj (by simp))
    rw [List.append_nil, List.append_nil]
    exact FnOk.toSb (b := true) hsh rfl
  by_cases k2 : x 0 = 2
  · rw [scE_2 k2, scN_2 k2, scL_2 k2]
    have hr := st2_1 x e n l w
    have hrun : FnOk gl 21 [.ptr 0 0, rwV x] [bnV e n (.ptr 1 0) 2, .log w, .rows [.i64, .i64] l] { val := .bool true, upd := [(0, some (bnV (puE (xC8 x).toNat (blockN (roL x)) e) (puN (xC8 x).toNat (byteN (leN 17 (atL (roL x)) 0 % P5)) n) (.ptr 1 0) 2))] } := FnOk.run (new := []) gl_ok hr (by simp only [sC2_1, allC_cons, allC_nil, and_true]; exact ⟨decide_eq_false (by omega), decide_eq_true k2, iC, iC, iC, iC, iC, rC, iC, iC, iC, iC, iC, iC, iC, iC, iC, iC, iC, iC, iC, iC, iC, iC, iC, rC⟩) (by simp [upto]) rfl (by simp) (by simp) (fun j hj => by
      match j, hj with
      | 0, _ => rfl
      | 1, _ => rfl
      | 2, _ => rfl
      | j + 3, hj => exact absurd hj (by simp))
    have hsh := FnOk.shift (i := 2) (v' := .bool true) (upd' := [(0, some (bnV (puE (xC8 x).toNat (blockN (roL x)) e) (puN (xC8 x).toNat (byteN (leN 17 (atL (roL x)) 0 % P5)) n) (.ptr 1 0) 3)), (1, some (.log w)), (2, none)]) (bd := .rows [.i64, .i64] l) (C' := []) [0, 1, 4, 2] (by simp) rfl (by decide) (fun j hj hne => by
      match j, hj, hne with
      | 0, _, _ => rfl
      | 1, _, _ => rfl
      | 2, _, hne => exact absurd rfl hne
      | j + 3, hj, _ => exact absurd hj (by simp)) rfl hrun rfl (by simp) (fun j hj => by
      match j, hj with
      | 0, _ => show _ = _; kernel_rfl
      | 1, _ => show _ = _; kernel_rfl
      | 2, _ => show _ = _; kernel_rfl
      | 3, _ => show _ = _; kernel_rfl
      | j + 4, hj => exact absurd hj (by simp))
    rw [List.append_nil, List.append_nil]
    exact FnOk.toSb (b := true) hsh rfl
  by_cases k3 : x 0 = 3
  · rw [scE_3 k3, scN_3 k3, scL_3 k3]
    exact FnOk.toSb (b := true) (FnOk.run (out := { val := .bool true, upd := [(0, some (bnV (puE (xC8 x).toNat (addN (eL e (xA8 x)) (eL e (xB8 x))) e) (puN (xC8 x).toNat (byteN ((leN 17 (atL (nL n (xA8 x))) 0 + leN 17 (atL (nL n (xB8 x))) 0) % P5)) n) (.ptr 1 0) 3)), (1, some (.log (w ++ [[3, 11]]))), (2, none)], new := [.rows [.i64, .i64] (l ++ [[3, 11]])] }) (new := [5]) gl_ok (st3_1 x e n l w) (by simp only [sC3_1, allC_cons, allC_nil, and_true]; exact ⟨decide_eq_false (by omega), decide_eq_false (by omega), decide_eq_true k3, iC, iC, iC, iC, iC, rC, hw, iB, iB, iB, iB, iB, rB, iA, iA, iA, iA, iA, rA, iC, iC, iC, iC, iC, iC, iC, iC, iC, iC, iC, iC, iC, iC, iC, iC, iC, rC, dA, dB, iB, iB, iB, iB, iB, iB, iB, iB, iB, iB, iB, iB, iB, iB, iB, iB, iB, rB, iA, iA, iA, iA, iA, iA, iA, iA, iA, iA, iA, iA, iA, iA, iA, iA, iA, rA, hlen _⟩) (by simp [upto]) rfl (by simp) (by simp) (fun j hj => by
      match j, hj with
      | 0, _ => rfl
      | 1, _ => rfl
      | 2, _ => rfl
      | 3, _ => rfl
      | j + 4, hj => exact absurd hj (by simp))) rfl
  by_cases k4 : x 0 = 4
  · rw [scE_4 k4, scN_4 k4, scL_4 k4]
    exact FnOk.toSb (b := true) (FnOk.run (out := { val := .bool true, upd := [(0, some (bnV (puE (xC8 x).toNat (mulN (eL e (xA8 x)) (eL e (xB8 x))) e) (puN (xC8 x).toNat (byteN (leN 17 (atL (nL n (xA8 x))) 0 * leN 17 (atL (nL n (xB8 x))) 0 % P5)) n) (.ptr 1 0) 3)), (1, some (.log (w ++ [[3, 12]]))), (2, none)], new := [.rows [.i64, .i64] (l ++ [[3, 12]])] }) (new := [5]) gl_ok (st4_1 x e n l w) (by simp only [sC4_1, allC_cons, allC_nil, and_true]; exact ⟨decide_eq_false (by omega), decide_eq_false (by omega), decide_eq_false (by omega), decide_eq_true k4, iC, iC, iC, iC, iC, rC, hw, iB, iB, iB, iB, iB, rB, iA, iA, iA, iA, iA, rA, iC, iC, iC, iC, iC, iC, iC, iC, iC, iC, iC, iC, iC, iC, iC, iC, iC, rC, dA, dB, iB, iB, iB, iB, iB, iB, iB, iB, iB, iB, iB, iB, iB, iB, iB, iB, iB, rB, iA, iA, iA, iA, iA, iA, iA, iA, iA, iA, iA, iA, iA, iA, iA, iA, iA, rA, hlen _⟩) (by simp [upto]) rfl (by simp) (by simp) (fun j hj => by
      match j, hj with
      | 0, _ => rfl
      | 1, _ => rfl
      | 2, _ => rfl
      | 3, _ => rfl
      | j + 4, hj => exact absurd hj (by simp))) rfl
  by_cases k5 : x 0 = 5
  · rw [scE_5 k5, scN_5 k5, scL_5 k5]
    have hr := st5_1 x e n l w
    rw [qB_ok h] at hr
    have hrun : FnOk gl 21 [.ptr 0 0, rwV x] [bnV e n (.ptr 1 0) 2, .log w, .rows [.i64, .i64] l] { val := .sbool true, upd := [(0, some (bnV (e) (n) (.ptr 1 0) 2))] } := FnOk.run (new := []) gl_ok hr (by simp only [sC5_1, allC_cons, allC_nil, and_true]; exact ⟨decide_eq_false (by omega), decide_eq_false (by omega), decide_eq_false (by omega), decide_eq_false (by omega), decide_eq_true k5, dA, iA, iA, iA, iA, iA, iA, iA, iA, iA, iA, iA, iA, iA, iA, iA, iA, iA, rA, iA, iA, iA, iA, iA, rA⟩) (by simp [upto]) rfl (by simp) (by simp) (fun j hj => by
      match j, hj with
      | 0, _ => rfl
      | 1, _ => rfl
      | 2, _ => rfl
      | j + 3, hj => exact absurd hj (by simp))
    have hsh := FnOk.shift (i := 2) (v' := .sbool true) (upd' := [(0, some (bnV (e) (n) (.ptr 1 0) 3)), (1, some (.log w)), (2, none)]) (bd := .rows [.i64, .i64] l) (C' := []) [0, 1, 4, 2] (by simp) rfl (by decide) (fun j hj hne => by
      match j, hj, hne with
      | 0, _, _ => rfl
      | 1, _, _ => rfl
      | 2, _, hne => exact absurd rfl hne
      | j + 3, hj, _ => exact absurd hj (by simp)) rfl hrun rfl (by simp) (fun j hj => by
      match j, hj with
      | 0, _ => show _ = _; kernel_rfl
      | 1, _ => show _ = _; kernel_rfl
      | 2, _ => show _ = _; kernel_rfl
      | 3, _ => show _ = _; kernel_rfl
      | j + 4, hj => exact absurd hj (by simp))
    rw [List.append_nil, List.append_nil]
    exact hsh
  by_cases k6 : x 0 = 6
  · rw [scE_6 k6, scN_6 k6, scL_6 k6]
    have hr := st6_1 x e n l w
    rw [qS_ok h h1] at hr
    have hrun : FnOk gl 21 [.ptr 0 0, rwV x] [bnV e n (.ptr 1 0) 2, .log w, .rows [.i64, .i64] l] { val := .sbool true, upd := [(0, some (bnV (e) (n) (.ptr 1 0) 2))] } := FnOk.run (new := []) gl_ok hr (by simp only [sC6_1, allC_cons, allC_nil, and_true]; exact ⟨decide_eq_false (by omega), decide_eq_false (by omega), decide_eq_false (by omega), decide_eq_false (by omega), decide_eq_false (by omega), decide_eq_true k6, dA, iA, iA, iA, iA, iA, iA, iA, iA, iA, iA, iA, iA, iA, iA, iA, iA, iA, rA, iA, iA, iA, iA, iA, rA⟩) (by simp [upto]) rfl (by simp) (by simp) (fun j hj => by
      match j, hj with
      | 0, _ => rfl
      | 1, _ => rfl
      | 2, _ => rfl
      | j + 3, hj => exact absurd hj (by simp))
    have hsh := FnOk.shift (i := 2) (v' := .sbool true) (upd' := [(0, some (bnV (e) (n) (.ptr 1 0) 3)), (1, some (.log w)), (2, none)]) (bd := .rows [.i64, .i64] l) (C' := []) [0, 1, 4, 2] (by simp) rfl (by decide) (fun j hj hne => by
      match j, hj, hne with
      | 0, _, _ => rfl
      | 1, _, _ => rfl
      | 2, _, hne => exact absurd rfl hne
      | j + 3, hj, _ => exact absurd hj (by simp)) rfl hrun rfl (by simp) (fun j hj => by
      match j, hj with
      | 0, _ => show _ = _; kernel_rfl
      | 1, _ => show _ = _; kernel_rfl
      | 2, _ => show _ = _; kernel_rfl
      | 3, _ => show _ = _; kernel_rfl
      | j + 4, hj => exact absurd hj (by simp))
    rw [List.append_nil, List.append_nil]
    exact hsh
  · rw [scE_7 k1 k2 k3 k4 k5 k6, scN_7 k1 k2 k3 k4 k5 k6, scL_7 k1 k2 k3 k4 k5 k6]
    have hr := st7_1 x e n l w
    have hrun : FnOk gl 21 [.ptr 0 0, rwV x] [bnV e n (.ptr 1 0) 2, .log w, .rows [.i64, .i64] l] { val := .bool true, upd := [(0, some (bnV (e) (n) (.ptr 1 0) 2))] } := FnOk.run (new := []) gl_ok hr (by simp only [sC7_1, allC_cons, allC_nil, and_true]; exact ⟨decide_eq_false k1, decide_eq_false k2, decide_eq_false k3, decide_eq_false k4, decide_eq_false k5, decide_eq_false k6⟩) (by simp [upto]) rfl (by simp) (by simp) (fun j hj => by
      match j, hj with
      | 0, _ => rfl
      | 1, _ => rfl
      | 2, _ => rfl
      | j + 3, hj => exact absurd hj (by simp))
    have hsh := FnOk.shift (i := 2) (v' := .bool true) (upd' := [(0, some (bnV (e) (n) (.ptr 1 0) 3)), (1, some (.log w)), (2, none)]) (bd := .rows [.i64, .i64] l) (C' := []) [0, 1, 4, 2] (by simp) rfl (by decide) (fun j hj hne => by
      match j, hj, hne with
      | 0, _, _ => rfl
      | 1, _, _ => rfl
      | 2, _, hne => exact absurd rfl hne
      | j + 3, hj, _ => exact absurd hj (by simp)) rfl hrun rfl (by simp) (fun j hj => by
      match j, hj with
      | 0, _ => show _ = _; kernel_rfl
      | 1, _ => show _ = _; kernel_rfl
      | 2, _ => show _ = _; kernel_rfl
      | 3, _ => show _ = _; kernel_rfl
      | j + 4, hj => exact absurd hj (by simp))
    rw [List.append_nil, List.append_nil]
    exact FnOk.toSb (b := true) hsh rfl
end Go.Proofs.Ytibfgdbkobgemaa
