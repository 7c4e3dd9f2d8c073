/- Accounts of this seat's functions: lemmas, no statement of their own. No conditions. -/
import Derived.Test.YtghdadkpbofbbaaTW
namespace Go.Proofs.Ytghdadkpbofbbaa
open Go Go.Vx
/-! ### the account of a step -/
theorem cIof (v : Int) : cI (v % 8) := (r8 v).2.2
theorem cRof (v : Int) : cR (v % 8) := ⟨(r8 v).1, (r8 v).2.1⟩
theorem step_0 {x e n : Nat → Int} {l w : List (List Int)} (h : Inv e n) (hn : 0 ≤ x 36 ∧ x 36 < 4294967296) (hl : l.length < 1000000) (hw : w.length < 1099511627776) : FnOk gRm 10 [.ptr 0 0, .raw (.pointer none), rwV x] [bkV e n 1, .rows [.i64, .i64] l] { val := .tuple [], upd := [(0, some (bkV (scE x e) (scN x n) 2)), (1, none)], new := [.rows [.i64, .i64] (l ++ scL x)] } := by
  have iA := cIof (x 1)
  have iB := cIof (x 2)
  have iC := cIof (x 3)
  have rA := cRof (x 1)
  have rB := cRof (x 2)
  have rC := cRof (x 3)
  obtain ⟨ma, _, a2, a3⟩ := Inv_at h (x 1)
  obtain ⟨mb, _, b2, b3⟩ := Inv_at h (x 2)
  have dA := (hx_of a3 a2).2
  obtain ⟨hb, dB⟩ := hx_of b3 b2
  have hle : hxL (nL n (xB8 x)) ≤ Q := by rw [hb]; omega
  have hlen : ∀ op : Int, (l ++ [[3, op]]).length * 16 ≤ 2 ^ 47 := fun op => by rw [List.length_append]; simp only [List.length_cons, List.length_nil]; omega
  by_cases k1 : x 0 = 1
  · rw [scE_1 k1, scN_1 k1, scL_1 k1]
    have hrun : FnOk gRm 10 [.ptr 0 0, .raw (.pointer none), rwV x] [bkV e n 1, .rows [.i64, .i64] l] { val := .tuple [], upd := [(0, some (bkV (puE (xC8 x).toNat (fdecN (listF 32 (dat x) 0)) e) (puN (xC8 x).toNat (dgN (leN 32 (atL (listF 32 (dat x) 0)) 0 % E255 % Q)) n) 1))] } := FnOk.run (new := []) gRm_ok (st1_0 x e n l []) (by simp only [sC1_0, allC_cons, allC_nil, and_true]; exact ⟨decide_eq_true k1, iC, iC, iC, iC, iC, rC, iC, iC, iC, iC, iC, iC, iC, iC, iC, iC, iC, iC, iC, iC, iC, iC, rC⟩) (by simp [upto]) rfl (by simp) (by simp) (fun j hj => by
      match j, hj with
      | 0, _ => rfl
      | 1, _ => rfl
      | j + 2, hj => exact absurd hj (by simp))
    have hsh := FnOk.shift (i := 1) (v' := .tuple []) (upd' := [(0, some (bkV (puE (xC8 x).toNat (fdecN (listF 32 (dat x) 0)) e) (puN (xC8 x).toNat (dgN (leN 32 (atL (listF 32 (dat x) 0)) 0 % E255 % Q)) n) 2)), (1, none)]) (bd := .rows [.i64, .i64] l) (C' := []) [0, 3, 1] (by simp) rfl (by decide) (fun j hj hne => by
      match j, hj, hne with
      | 0, _, _ => rfl
      | 1, _, hne => exact absurd rfl hne
      | j + 2, hj, _ => exact absurd hj (by simp)) rfl hrun rfl (by simp) (fun j hj => by
      match j, hj with
      | 0, _ => show _ = _; kernel_rfl
      | 1, _ => show _ = _; kernel_rfl
      | 2, _ => show _ = _; kernel_rfl
      | j + 3, hj => exact absurd hj (by simp))
    rw [List.append_nil]
    exact hsh
  by_cases k2 : x 0 = 2
  · rw [scE_2 k2, scN_2 k2, scL_2 k2]
    exact FnOk.run (out := { val := .tuple [], upd := [(0, some (bkV (puE (xC8 x).toNat (faddN (eL e (xA8 x)) (eL e (xB8 x))) e) (puN (xC8 x).toNat (dgN ((hxL (nL n (xA8 x)) + hxL (nL n (xB8 x))) % Q)) n) 2)), (1, none)], new := [.rows [.i64, .i64] (l ++ [[3, 1]])] }) (new := [4]) gRm_ok (st2_0 x e n l []) (by simp only [sC2_0, allC_cons, allC_nil, and_true]; exact ⟨decide_eq_false (by omega), decide_eq_true k2, iC, iC, iC, iC, iC, rC, iB, iB, iB, iB, iB, rB, iA, iA, iA, iA, iA, rA, iC, iC, iC, iC, iC, iC, iC, iC, iC, iC, iC, iC, iC, iC, iC, iC, rC, dA, dB, iB, iB, iB, iB, iB, iB, iB, iB, iB, iB, iB, iB, iB, iB, iB, iB, rB, iA, iA, iA, iA, iA, iA, iA, iA, iA, iA, iA, iA, iA, iA, iA, iA, rA, hlen _⟩) (by simp [upto]) rfl (by simp) (by simp) (fun j hj => by
      match j, hj with
      | 0, _ => rfl
      | 1, _ => rfl
      | 2, _ => rfl
      | j + 3, hj => exact absurd hj (by simp))
  by_cases k3 : x 0 = 3
  · rw [scE_3 k3, scN_3 k3, scL_3 k3]
    exact FnOk.run (out := { val := .tuple [], upd := [(0, some (bkV (puE (xC8 x).toNat (fsubN (eL e (xA8 x)) (eL e (xB8 x))) e) (puN (xC8 x).toNat (dgN ((hxL (nL n (xA8 x)) - hxL (nL n (xB8 x))) % Q)) n) 2)), (1, none)], new := [.rows [.i64, .i64] (l ++ [[3, 2]])] }) (new := [4]) gRm_ok (st3_0 x e n l []) (by simp only [sC3_0, allC_cons, allC_nil, and_true]; exact ⟨decide_eq_false (by omega), decide_eq_false (by omega), decide_eq_true k3, iC, iC, iC, iC, iC, rC, iB, iB, iB, iB, iB, rB, iA, iA, iA, iA, iA, rA, iC, iC, iC, iC, iC, iC, iC, iC, iC, iC, iC, iC, iC, iC, iC, iC, rC, dA, dB, hle, iB, iB, iB, iB, iB, iB, iB, iB, iB, iB, iB, iB, iB, iB, iB, iB, rB, iA, iA, iA, iA, iA, iA, iA, iA, iA, iA, iA, iA, iA, iA, iA, iA, rA, hlen _⟩) (by simp [upto]) rfl (by simp) (by simp) (fun j hj => by
      match j, hj with
      | 0, _ => rfl
      | 1, _ => rfl
      | 2, _ => rfl
      | j + 3, hj => exact absurd hj (by simp))
  by_cases k4 : x 0 = 4
  · rw [scE_4 k4, scN_4 k4, scL_4 k4]
    exact FnOk.run (out := { val := .tuple [], upd := [(0, some (bkV (puE (xC8 x).toNat (fmulN (eL e (xA8 x)) (eL e (xB8 x))) e) (puN (xC8 x).toNat (dgN (hxL (nL n (xA8 x)) * hxL (nL n (xB8 x)) % Q)) n) 2)), (1, none)], new := [.rows [.i64, .i64] (l ++ [[3, 3]])] }) (new := [4]) gRm_ok (st4_0 x e n l []) (by simp only [sC4_0, allC_cons, allC_nil, and_true]; exact ⟨decide_eq_false (by omega), decide_eq_false (by omega), decide_eq_false (by omega), decide_eq_true k4, iC, iC, iC, iC, iC, rC, iB, iB, iB, iB, iB, rB, iA, iA, iA, iA, iA, rA, iC, iC, iC, iC, iC, iC, iC, iC, iC, iC, iC, iC, iC, iC, iC, iC, rC, dA, dB, iB, iB, iB, iB, iB, iB, iB, iB, iB, iB, iB, iB, iB, iB, iB, iB, rB, iA, iA, iA, iA, iA, iA, iA, iA, iA, iA, iA, iA, iA, iA, iA, iA, rA, hlen _⟩) (by simp [upto]) rfl (by simp) (by simp) (fun j hj => by
      match j, hj with
      | 0, _ => rfl
      | 1, _ => rfl
      | 2, _ => rfl
      | j + 3, hj => exact absurd hj (by simp))
  by_cases k5 : x 0 = 5
  · rw [scE_5 k5, scN_5 k5, scL_5 k5]
    exact FnOk.run (out := { val := .tuple [], upd := [(0, some (bkV (puE (xC8 x).toNat (fmulN (listF 5 (atL (eL e (xA8 x))) 0) (listF 5 (atL (eL e (xA8 x))) 0)) e) (puN (xC8 x).toNat (dgN (hxL (nL n (xA8 x)) * hxL (nL n (xA8 x)) % Q)) n) 2)), (1, none)], new := [.rows [.i64, .i64] (l ++ [[3, 4]])] }) (new := [4]) gRm_ok (st5_0 x e n l []) (by simp only [sC5_0, allC_cons, allC_nil, and_true]; exact ⟨decide_eq_false (by omega), decide_eq_false (by omega), decide_eq_false (by omega), decide_eq_false (by omega), decide_eq_true k5, iC, iC, iC, iC, iC, rC, iA, iA, iA, iA, iA, rA, iC, iC, iC, iC, iC, iC, iC, iC, iC, iC, iC, iC, iC, iC, iC, iC, rC, dA, dA, iA, iA, iA, iA, iA, iA, iA, iA, iA, iA, iA, iA, iA, iA, iA, iA, rA, iA, iA, iA, iA, iA, iA, iA, iA, iA, iA, iA, iA, iA, iA, iA, iA, rA, hlen _⟩) (by simp [upto]) rfl (by simp) (by simp) (fun j hj => by
      match j, hj with
      | 0, _ => rfl
      | 1, _ => rfl
      | 2, _ => rfl
      | j + 3, hj => exact absurd hj (by simp))
  by_cases k6 : x 0 = 6
  · rw [scE_6 k6, scN_6 k6, scL_6 k6]
    exact FnOk.run (out := { val := .tuple [], upd := [(0, some (bkV (puE (xC8 x).toNat (fsclN (eL e (xA8 x)) (x 36)) e) (puN (xC8 x).toNat (dgN (hxL (nL n (xA8 x)) * x 36 % Q)) n) 2)), (1, none)], new := [.rows [.i64, .i64] (l ++ [[3, 5]])] }) (new := [4]) gRm_ok (st6_0 x e n l []) (by simp only [sC6_0, allC_cons, allC_nil, and_true]; exact ⟨decide_eq_false (by omega), decide_eq_false (by omega), decide_eq_false (by omega), decide_eq_false (by omega), decide_eq_false (by omega), decide_eq_true k6, iC, iC, iC, iC, iC, rC, iA, iA, iA, iA, iA, rA, iC, iC, iC, iC, iC, iC, iC, iC, iC, iC, iC, iC, iC, iC, iC, iC, rC, dA, hn, iA, iA, iA, iA, iA, iA, iA, iA, iA, iA, iA, iA, iA, iA, iA, iA, rA, hlen _⟩) (by simp [upto]) rfl (by simp) (by simp) (fun j hj => by
      match j, hj with
      | 0, _ => rfl
      | 1, _ => rfl
      | 2, _ => rfl
      | j + 3, hj => exact absurd hj (by simp))
  by_cases k7 : x 0 = 7
  · rw [scE_7 k7, scN_7 k7, scL_7 k7]
    exact FnOk.run (out := { val := .tuple [], upd := [(0, some (bkV (puE (xC8 x).toNat (finvN (eL e (xA8 x))) e) (puN (xC8 x).toNat (dgN (hxL (nL n (xA8 x)) ^ (Qn - 2) % Q)) n) 2)), (1, none)], new := [.rows [.i64, .i64] (l ++ [[3, 6]])] }) (new := [4]) gRm_ok (st7_0 x e n l []) (by simp only [sC7_0, allC_cons, allC_nil, and_true]; exact ⟨decide_eq_false (by omega), decide_eq_false (by omega), decide_eq_false (by omega), decide_eq_false (by omega), decide_eq_false (by omega), decide_eq_false (by omega), decide_eq_true k7, iC, iC, iC, iC, iC, rC, iA, iA, iA, iA, iA, rA, iC, iC, iC, iC, iC, iC, iC, iC, iC, iC, iC, iC, iC, iC, iC, iC, rC, dA, iA, iA, iA, iA, iA, iA, iA, iA, iA, iA, iA, iA, iA, iA, iA, iA, rA, hlen _⟩) (by simp [upto]) rfl (by simp) (by simp) (fun j hj => by
      match j, hj with
      | 0, _ => rfl
      | 1, _ => rfl
      | 2, _ => rfl
      | j + 3, hj => exact absurd hj (by simp))
  by_cases k8 : x 0 = 8
  · rw [scE_8 k8, scN_8 k8, scL_8 k8]
    by_cases hs : urem (x 37) 2 = 1
    · have hs1 : decide (urem (x 37) 2 = 1) = true := decide_eq_true hs
      have en : (fun j => if urem (x 37) 2 = 1 then (puN (xB8 x).toNat (pkN n (xA8 x).toNat) (puN (xA8 x).toNat (pkN n (xB8 x).toNat) n)) j else n j) = (puN (xB8 x).toNat (pkN n (xA8 x).toNat) (puN (xA8 x).toNat (pkN n (xB8 x).toNat) n)) := funext fun j => if_pos hs
      rw [en]
      exact FnOk.run (out := { val := .tuple [], upd := [(0, some (bkV (sw5 (x 37) (xA8 x).toNat (xB8 x).toNat e) (puN (xB8 x).toNat (pkN n (xA8 x).toNat) (puN (xA8 x).toNat (pkN n (xB8 x).toNat) n)) 2)), (1, none)], new := [.rows [.i64, .i64] (l ++ [[3, 7]])] }) (new := [4]) gRm_ok (st81_0 x e n l []) (by simp only [sC81_0, allC_cons, allC_nil, and_true]; exact ⟨decide_eq_false (by omega), decide_eq_false (by omega), decide_eq_false (by omega), decide_eq_false (by omega), decide_eq_false (by omega), decide_eq_false (by omega), decide_eq_false (by omega), decide_eq_true k8, iB, iA, iA, iA, iB, iB, iB, iA, iA, iA, iB, iB, iB, iA, iA, iA, iB, iB, iB, iA, iA, iA, iB, iB, iB, iA, iA, iA, iB, iB, rB, rA, hs1, iB, iB, iB, iB, iB, iB, iB, iB, iB, iB, iB, iB, iB, iB, iB, iB, rB, iA, iA, iA, iA, iA, iA, iA, iA, iA, iA, iA, iA, iA, iA, iA, iA, rA, iA, iA, iA, iA, iA, iA, iA, iA, iA, iA, iA, iA, iA, iA, iA, iA, rA, iB, iB, iB, iB, iB, iB, iB, iB, iB, iB, iB, iB, iB, iB, iB, iB, rB, hlen _⟩) (by simp [upto]) rfl (by simp) (by simp) (fun j hj => by
        match j, hj with
        | 0, _ => rfl
        | 1, _ => rfl
        | 2, _ => rfl
        | j + 3, hj => exact absurd hj (by simp))
    · have hs0 : decide (urem (x 37) 2 = 1) = false := decide_eq_false hs
      have en : (fun j => if urem (x 37) 2 = 1 then (puN (xB8 x).toNat (pkN n (xA8 x).toNat) (puN (xA8 x).toNat (pkN n (xB8 x).toNat) n)) j else n j) = n := funext fun j => if_neg hs
      rw [en]
      exact FnOk.run (out := { val := .tuple [], upd := [(0, some (bkV (sw5 (x 37) (xA8 x).toNat (xB8 x).toNat e) (n) 2)), (1, none)], new := [.rows [.i64, .i64] (l ++ [[3, 7]])] }) (new := [4]) gRm_ok (st80_0 x e n l []) (by simp only [sC80_0, allC_cons, allC_nil, and_true]; exact ⟨decide_eq_false (by omega), decide_eq_false (by omega), decide_eq_false (by omega), decide_eq_false (by omega), decide_eq_false (by omega), decide_eq_false (by omega), decide_eq_false (by omega), decide_eq_true k8, iB, iA, iA, iA, iB, iB, iB, iA, iA, iA, iB, iB, iB, iA, iA, iA, iB, iB, iB, iA, iA, iA, iB, iB, iB, iA, iA, iA, iB, iB, rB, rA, hs0, hlen _⟩) (by simp [upto]) rfl (by simp) (by simp) (fun j hj => by
        match j, hj with
        | 0, _ => rfl
        | 1, _ => rfl
        | 2, _ => rfl
        | j + 3, hj => exact absurd hj (by simp))
  by_cases k9 : x 0 = 9
  · rw [scE_9 k9, scN_9 k9, scL_9 k9]
    have hrun : FnOk gRm 10 [.ptr 0 0, .raw (.pointer none), rwV x] [bkV e n 1, .rows [.i64, .i64] l] { val := .tuple [], upd := [(0, some (bkV (e) (n) 1))] } := FnOk.run (new := []) gRm_ok (st9_0 x e n l []) (by simp only [sC9_0, allC_cons, allC_nil, and_true]; exact ⟨decide_eq_false (by omega), decide_eq_false (by omega), decide_eq_false (by omega), decide_eq_false (by omega), decide_eq_false (by omega), decide_eq_false (by omega), decide_eq_false (by omega), decide_eq_false (by omega), decide_eq_true k9, rB, rA⟩) (by simp [upto]) rfl (by simp) (by simp) (fun j hj => by
      match j, hj with
      | 0, _ => rfl
      | 1, _ => rfl
      | j + 2, hj => exact absurd hj (by simp))
    have hsh := FnOk.shift (i := 1) (v' := .tuple []) (upd' := [(0, some (bkV (e) (n) 2)), (1, none)]) (bd := .rows [.i64, .i64] l) (C' := []) [0, 3, 1] (by simp) rfl (by decide) (fun j hj hne => by
      match j, hj, hne with
      | 0, _, _ => rfl
      | 1, _, hne => exact absurd rfl hne
      | j + 2, hj, _ => exact absurd hj (by simp)) rfl hrun rfl (by simp) (fun j hj => by
      match j, hj with
      | 0, _ => show _ = _; kernel_rfl
      | 1, _ => show _ = _; kernel_rfl
      | 2, _ => show _ = _; kernel_rfl
      | j + 3, hj => exact absurd hj (by simp))
    rw [List.append_nil]
    exact hsh
  by_cases k10 : x 0 = 10
  · rw [scE_10 k10, scN_10 k10, scL_10 k10]
    have hrun : FnOk gRm 10 [.ptr 0 0, .raw (.pointer none), rwV x] [bkV e n 1, .rows [.i64, .i64] l] { val := .tuple [], upd := [(0, some (bkV (puE (xC8 x).toNat (fun _ => 0) e) (puN (xC8 x).toNat (fun _ => 0) n) 1))] } := FnOk.run (new := []) gRm_ok (st10_0 x e n l []) (by simp only [sC10_0, allC_cons, allC_nil, and_true]; exact ⟨decide_eq_false (by omega), decide_eq_false (by omega), decide_eq_false (by omega), decide_eq_false (by omega), decide_eq_false (by omega), decide_eq_false (by omega), decide_eq_false (by omega), decide_eq_false (by omega), decide_eq_false (by omega), decide_eq_true k10, iC, iC, iC, iC, iC, rC, iC, iC, iC, iC, iC, iC, iC, iC, iC, iC, iC, iC, iC, iC, iC, iC, rC⟩) (by simp [upto]) rfl (by simp) (by simp) (fun j hj => by
      match j, hj with
      | 0, _ => rfl
      | 1, _ => rfl
      | j + 2, hj => exact absurd hj (by simp))
    have hsh := FnOk.shift (i := 1) (v' := .tuple []) (upd' := [(0, some (bkV (puE (xC8 x).toNat (fun _ => 0) e) (puN (xC8 x).toNat (fun _ => 0) n) 2)), (1, none)]) (bd := .rows [.i64, .i64] l) (C' := []) [0, 3, 1] (by simp) rfl (by decide) (fun j hj hne => by
      match j, hj, hne with
      | 0, _, _ => rfl
      | 1, _, hne => exact absurd rfl hne
      | j + 2, hj, _ => exact absurd hj (by simp)) rfl hrun rfl (by simp) (fun j hj => by
      match j, hj with
      | 0, _ => show _ = _; kernel_rfl
      | 1, _ => show _ = _; kernel_rfl
      | 2, _ => show _ = _; kernel_rfl
      | j + 3, hj => exact absurd hj (by simp))
    rw [List.append_nil]
    exact hsh
  · rw [scE_11 k1 k2 k3 k4 k5 k6 k7 k8 k9 k10, scN_11 k1 k2 k3 k4 k5 k6 k7 k8 k9 k10, scL_11 k1 k2 k3 k4 k5 k6 k7 k8 k9 k10]
    have hrun : FnOk gRm 10 [.ptr 0 0, .raw (.pointer none), rwV x] [bkV e n 1, .rows [.i64, .i64] l] { val := .tuple [], upd := [(0, some (bkV (e) (n) 1))] } := FnOk.run (new := []) gRm_ok (st11_0 x e n l []) (by simp only [sC11_0, allC_cons, allC_nil, and_true]; exact ⟨decide_eq_false k1, decide_eq_false k2, decide_eq_false k3, decide_eq_false k4, decide_eq_false k5, decide_eq_false k6, decide_eq_false k7, decide_eq_false k8, decide_eq_false k9, decide_eq_false k10⟩) (by simp [upto]) rfl (by simp) (by simp) (fun j hj => by
      match j, hj with
      | 0, _ => rfl
      | 1, _ => rfl
      | j + 2, hj => exact absurd hj (by simp))
    have hsh := FnOk.shift (i := 1) (v' := .tuple []) (upd' := [(0, some (bkV (e) (n) 2)), (1, none)]) (bd := .rows [.i64, .i64] l) (C' := []) [0, 3, 1] (by simp) rfl (by decide) (fun j hj hne => by
      match j, hj, hne with
      | 0, _, _ => rfl
      | 1, _, hne => exact absurd rfl hne
      | j + 2, hj, _ => exact absurd hj (by simp)) rfl hrun rfl (by simp) (fun j hj => by
      match j, hj with
      | 0, _ => show _ = _; kernel_rfl
      | 1, _ => show _ = _; kernel_rfl
      | 2, _ => show _ = _; kernel_rfl
      | j + 3, hj => exact absurd hj (by simp))
    rw [List.append_nil]
    exact hsh
theorem step_1 {x e n : Nat → Int} {l w : List (List Int)} (h : Inv e n) (hn : 0 ≤ x 36 ∧ x 36 < 4294967296) (hl : l.length < 1000000) (hw : w.length < 1099511627776) : FnOk gRm 10 [.ptr 0 0, .ptr 1 0, rwV x] [bkV e n 2, .log w, .rows [.i64, .i64] l] { val := .tuple [], upd := [(0, some (bkV (scE x e) (scN x n) 3)), (1, some (.log (w ++ scL x))), (2, none)], new := [.rows [.i64, .i64] (l ++ scL x)] } := by
  have iA := cIof (x 1)
  have iB := cIof (x 2)
  have iC := cIof (x 3)
  have rA := cRof (x 1)
  have rB := cRof (x 2)
  have rC := cRof (x 3)
  obtain ⟨ma, _, a2, a3⟩ := Inv_at h (x 1)
  obtain ⟨mb, _, b2, b3⟩ := Inv_at h (x 2)
  have dA := (hx_of a3 a2).2
  obtain ⟨hb, dB⟩ := hx_of b3 b2
  have hle : hxL (nL n (xB8 x)) ≤ Q := by rw [hb]; omega
  have hlen : ∀ op : Int, (l ++ [[3, op]]).length * 16 ≤ 2 ^ 47 := fun op => by rw [List.length_append]; simp only [List.length_cons, List.length_nil]; omega
  by_cases k1 : x 0 = 1
  · rw [scE_1 k1, scN_1 k1, scL_1 k1]
    have hrun : FnOk gRm 10 [.ptr 0 0, .ptr 1 0, rwV x] [bkV e n 2, .log w, .rows [.i64, .i64] l] { val := .tuple [], upd := [(0, some (bkV (puE (xC8 x).toNat (fdecN (listF 32 (dat x) 0)) e) (puN (xC8 x).toNat (dgN (leN 32 (atL (listF 32 (dat x) 0)) 0 % E255 % Q)) n) 2))] } := FnOk.run (new := []) gRm_ok (st1_1 x e n l w) (by simp only [sC1_1, allC_cons, allC_nil, and_true]; exact ⟨decide_eq_true k1, iC, iC, iC, iC, iC, rC, iC, iC, iC, iC, iC, iC, iC, iC, iC, iC, iC, iC, iC, iC, iC, iC, rC⟩) (by simp [upto]) rfl (by simp) (by simp) (fun j hj => by
      match j, hj with
      | 0, _ => rfl
      | 1, _ => rfl
      | 2, _ => rfl
      | j + 3, hj => exact absurd hj (by simp))
    have hsh := FnOk.shift (i := 2) (v' := .tuple []) (upd' := [(0, some (bkV (puE (xC8 x).toNat (fdecN (listF 32 (dat x) 0)) e) (puN (xC8 x).toNat (dgN (leN 32 (atL (listF 32 (dat x) 0)) 0 % E255 % Q)) n) 3)), (1, some (.log w)), (2, none)]) (bd := .rows [.i64, .i64] l) (C' := []) [0, 1, 4, 2] (by simp) rfl (by decide) (fun j hj hne => by
      match j, hj, hne with
      | 0, _, _ => rfl
      | 1, _, _ => rfl
      | 2, _, hne => exact absurd rfl hne
      | j + 3, hj, _ => exact absurd hj (by simp)) rfl hrun rfl (by simp) (fun j hj => by
      match j, hj with
      | 0, _ => show _ = _; kernel_rfl
      | 1, _ => show _ = _; kernel_rfl
      | 2, _ => show _ = _; kernel_rfl
      | 3, _ => show _ = _; kernel_rfl
      | j + 4, hj => exact absurd hj (by simp))
    rw [List.append_nil, List.append_nil]
    exact hsh
  by_cases k2 : x 0 = 2
  · rw [scE_2 k2, scN_2 k2, scL_2 k2]
    exact FnOk.run (out := { val := .tuple [], upd := [(0, some (bkV (puE (xC8 x).toNat (faddN (eL e (xA8 x)) (eL e (xB8 x))) e) (puN (xC8 x).toNat (dgN ((hxL (nL n (xA8 x)) + hxL (nL n (xB8 x))) % Q)) n) 3)), (1, some (.log (w ++ [[3, 1]]))), (2, none)], new := [.rows [.i64, .i64] (l ++ [[3, 1]])] }) (new := [5]) gRm_ok (st2_1 x e n l w) (by simp only [sC2_1, allC_cons, allC_nil, and_true]; exact ⟨decide_eq_false (by omega), decide_eq_true k2, iC, iC, iC, iC, iC, rC, hw, iB, iB, iB, iB, iB, rB, iA, iA, iA, iA, iA, rA, iC, iC, iC, iC, iC, iC, iC, iC, iC, iC, iC, iC, iC, iC, iC, iC, rC, dA, dB, iB, iB, iB, iB, iB, iB, iB, iB, iB, iB, iB, iB, iB, iB, iB, iB, rB, iA, iA, iA, iA, iA, iA, iA, iA, iA, iA, iA, iA, iA, iA, iA, iA, rA, hlen _⟩) (by simp [upto]) rfl (by simp) (by simp) (fun j hj => by
      match j, hj with
      | 0, _ => rfl
      | 1, _ => rfl
      | 2, _ => rfl
      | 3, _ => rfl
      | j + 4, hj => exact absurd hj (by simp))
  by_cases k3 : x 0 = 3
  · rw [scE_3 k3, scN_3 k3, scL_3 k3]
    exact FnOk.run (out := { val := .tuple [], upd := [(0, some (bkV (puE (xC8 x).toNat (fsubN (eL e (xA8 x)) (eL e (xB8 x))) e) (puN (xC8 x).toNat (dgN ((hxL (nL n (xA8 x)) - hxL (nL n (xB8 x))) % Q)) n) 3)), (1, some (.log (w ++ [[3, 2]]))), (2, none)], new := [.rows [.i64, .i64] (l ++ [[3, 2]])] }) (new := [5]) gRm_ok (st3_1 x e n l w) (by simp only [sC3_1, allC_cons, allC_nil, and_true]; exact ⟨decide_eq_false (by omega), decide_eq_false (by omega), decide_eq_true k3, iC, iC, iC, iC, iC, rC, hw, iB, iB, iB, iB, iB, rB, iA, iA, iA, iA, iA, rA, iC, iC, iC, iC, iC, iC, iC, iC, iC, iC, iC, iC, iC, iC, iC, iC, rC, dA, dB, hle, iB, iB, iB, iB, iB, iB, iB, iB, iB, iB, iB, iB, iB, iB, iB, iB, rB, iA, iA, iA, iA, iA, iA, iA, iA, iA, iA, iA, iA, iA, iA, iA, iA, rA, hlen _⟩) (by simp [upto]) rfl (by simp) (by simp) (fun j hj => by
      match j, hj with
      | 0, _ => rfl
      | 1, _ => rfl
      | 2, _ => rfl
      | 3, _ => rfl
      | j + 4, hj => exact absurd hj (by simp))
  by_cases k4 : x 0 = 4
  · rw [scE_4 k4, scN_4 k4, scL_4 k4]
    exact FnOk.run (out := { val := .tuple [], upd := [(0, some (bkV (puE (xC8 x).toNat (fmulN (eL e (xA8 x)) (eL e (xB8 x))) e) (puN (xC8 x).toNat (dgN (hxL (nL n (xA8 x)) * hxL (nL n (xB8 x)) % Q)) n) 3)), (1, some (.log (w ++ [[3, 3]]))), (2, none)], new := [.rows [.i64, .i64] (l ++ [[3, 3]])] }) (new := [5]) gRm_ok (st4_1 x e n l w) (by simp only [sC4_1, allC_cons, allC_nil, and_true]; exact ⟨decide_eq_false (by omega), decide_eq_false (by omega), decide_eq_false (by omega), decide_eq_true k4, iC, iC, iC, iC, iC, rC, hw, iB, iB, iB, iB, iB, rB, iA, iA, iA, iA, iA, rA, iC, iC, iC, iC, iC, iC, iC, iC, iC, iC, iC, iC, iC, iC, iC, iC, rC, dA, dB, iB, iB, iB, iB, iB, iB, iB, iB, iB, iB, iB, iB, iB, iB, iB, iB, rB, iA, iA, iA, iA, iA, iA, iA, iA, iA, iA, iA, iA, iA, iA, iA, iA, rA, hlen _⟩) (by simp [upto]) rfl (by simp) (by simp) (fun j hj => by
      match j, hj with
      | 0, _ => rfl
      | 1, _ => rfl
      | 2, _ => rfl
      | 3, _ => rfl
      | j + 4, hj => exact absurd hj (by simp))
  by_cases k5 : x 0 = 5
  · rw [scE_5 k5, scN_5 k5, scL_5 k5]
    exact FnOk.run (out := { val := .tuple [], upd := [(0, some (bkV (puE (xC8 x).toNat (fmulN (listF 5 (atL (eL e (xA8 x))) 0) (listF 5 (atL (eL e (xA8 x))) 0)) e) (puN (xC8 x).toNat (dgN (hxL (nL n (xA8 x)) * hxL (nL n (xA8 x)) % Q)) n) 3)), (1, some (.log (w ++ [[3, 4]]))), (2, none)], new := [.rows [.i64, .i64] (l ++ [[3, 4]])] }) (new := [5]) gRm_ok (st5_1 x e n l w) (by simp only [sC5_1, allC_cons, allC_nil, and_true]; exact ⟨decide_eq_false (by omega), decide_eq_false (by omega), decide_eq_false (by omega), decide_eq_false (by omega), decide_eq_true k5, iC, iC, iC, iC, iC, rC, hw, iA, iA, iA, iA, iA, rA, iC, iC, iC, iC, iC, iC, iC, iC, iC, iC, iC, iC, iC, iC, iC, iC, rC, dA, dA, iA, iA, iA, iA, iA, iA, iA, iA, iA, iA, iA, iA, iA, iA, iA, iA, rA, iA, iA, iA, iA, iA, iA, iA, iA, iA, iA, iA, iA, iA, iA, iA, iA, rA, hlen _⟩) (by simp [upto]) rfl (by simp) (by simp) (fun j hj => by
      match j, hj with
      | 0, _ => rfl
      | 1, _ => rfl
      | 2, _ => rfl
      | 3, _ => rfl
      | j + 4, hj => exact absurd hj (by simp))
  by_cases k6 : x 0 = 6
  · rw [scE_6 k6, scN_6 k6, scL_6 k6]
    exact FnOk.run (out := { val := .tuple [], upd := [(0, some (bkV (puE (xC8 x).toNat (fsclN (eL e (xA8 x)) (x 36)) e) (puN (xC8 x).toNat (dgN (hxL (nL n (xA8 x)) * x 36 % Q)) n) 3)), (1, some (.log (w ++ [[3, 5]]))), (2, none)], new := [.rows [.i64, .i64] (l ++ [[3, 5]])] }) (new := [5]) gRm_ok (st6_1 x e n l w) (by simp only [sC6_1, allC_cons, allC_nil, and_true]; exact ⟨decide_eq_false (by omega), decide_eq_false (by omega), decide_eq_false (by omega), decide_eq_false (by omega), decide_eq_false (by omega), decide_eq_true k6, iC, iC, iC, iC, iC, rC, hw, iA, iA, iA, iA, iA, rA, iC, iC, iC, iC, iC, iC, iC, iC, iC, iC, iC, iC, iC, iC, iC, iC, rC, dA, hn, iA, iA, iA, iA, iA, iA, iA, iA, iA, iA, iA, iA, iA, iA, iA, iA, rA, hlen _⟩) (by simp [upto]) rfl (by simp) (by simp) (fun j hj => by
      match j, hj with
      | 0, _ => rfl
      | 1, _ => rfl
      | 2, _ => rfl
      | 3, _ => rfl
      | j + 4, hj => exact absurd hj (by simp))
  by_cases k7 : x 0 = 7
  · rw [scE_7 k7, scN_7 k7, scL_7 k7]
    exact FnOk.run (out := { val := .tuple [], upd := [(0, some (bkV (puE (xC8 x).toNat (finvN (eL e (xA8 x))) e) (puN (xC8 x).toNat (dgN (hxL (nL n (xA8 x)) ^ (Qn - 2) % Q)) n) 3)), (1, some (.log (w ++ [[3, 6]]))), (2, none)], new := [.rows [.i64, .i64] (l ++ [[3, 6]])] }) (new := [5]) gRm_ok (st7_1 x e n l w) (by simp only [sC7_1, allC_cons, allC_nil, and_true]; exact ⟨decide_eq_false (by omega), decide_eq_false (by omega), decide_eq_false (by omega), decide_eq_false (by omega), decide_eq_false (by omega), decide_eq_false (by omega), decide_eq_true k7, iC, iC, iC, iC, iC, rC, hw, iA, iA, iA, iA, iA, rA, iC, iC, iC, iC, iC, iC, iC, iC, iC, iC, iC, iC, iC, iC, iC, iC, rC, dA, iA, iA, iA, iA, iA, iA, iA, iA, iA, iA, iA, iA, iA, iA, iA, iA, rA, hlen _⟩) (by simp [upto]) rfl (by simp) (by simp) (fun j hj => by
      match j, hj with
      | 0, _ => rfl
      | 1, _ => rfl
      | 2, _ => rfl
      | 3, _ => rfl
      | j + 4, hj => exact absurd hj (by simp))
  by_cases k8 : x 0 = 8
  · rw [scE_8 k8, scN_8 k8, scL_8 k8]
    by_cases hs : urem (x 37) 2 = 1
    · have hs1 : decide (urem (x 37) 2 = 1) = true := decide_eq_true hs
      have en : (fun j => if urem (x 37) 2 = 1 then (puN (xB8 x).toNat (pkN n (xA8 x).toNat) (puN (xA8 x).toNat (pkN n (xB8 x).toNat) n)) j else n j) = (puN (xB8 x).toNat (pkN n (xA8 x).toNat) (puN (xA8 x).toNat (pkN n (xB8 x).toNat) n)) := funext fun j => if_pos hs
      rw [en]
      exact FnOk.run (out := { val := .tuple [], upd := [(0, some (bkV (sw5 (x 37) (xA8 x).toNat (xB8 x).toNat e) (puN (xB8 x).toNat (pkN n (xA8 x).toNat) (puN (xA8 x).toNat (pkN n (xB8 x).toNat) n)) 3)), (1, some (.log (w ++ [[3, 7]]))), (2, none)], new := [.rows [.i64, .i64] (l ++ [[3, 7]])] }) (new := [5]) gRm_ok (st81_1 x e n l w) (by simp only [sC81_1, allC_cons, allC_nil, and_true]; exact ⟨decide_eq_false (by omega), decide_eq_false (by omega), decide_eq_false (by omega), decide_eq_false (by omega), decide_eq_false (by omega), decide_eq_false (by omega), decide_eq_false (by omega), decide_eq_true k8, hw, iB, iA, iA, iA, iB, iB, iB, iA, iA, iA, iB, iB, iB, iA, iA, iA, iB, iB, iB, iA, iA, iA, iB, iB, iB, iA, iA, iA, iB, iB, rB, rA, hs1, iB, iB, iB, iB, iB, iB, iB, iB, iB, iB, iB, iB, iB, iB, iB, iB, rB, iA, iA, iA, iA, iA, iA, iA, iA, iA, iA, iA, iA, iA, iA, iA, iA, rA, iA, iA, iA, iA, iA, iA, iA, iA, iA, iA, iA, iA, iA, iA, iA, iA, rA, iB, iB, iB, iB, iB, iB, iB, iB, iB, iB, iB, iB, iB, iB, iB, iB, rB, hlen _⟩) (by simp [upto]) rfl (by simp) (by simp) (fun j hj => by
        match j, hj with
        | 0, _ => rfl
        | 1, _ => rfl
        | 2, _ => rfl
        | 3, _ => rfl
        | j + 4, hj => exact absurd hj (by simp))
    · have hs0 : decide (urem (x 37) 2 = 1) = false := decide_eq_false hs
      have en : (fun j => if urem (x 37) 2 = 1 then (puN (xB8 x).toNat (pkN n (xA8 x).toNat) (puN (xA8 x).toNat (pkN n (xB8 x).toNat) n)) j else n j) = n := funext fun j => if_neg hs
      rw [en]
      exact FnOk.run (out := { val := .tuple [], upd := [(0, some (bkV (sw5 (x 37) (xA8 x).toNat (xB8 x).toNat e) (n) 3)), (1, some (.log (w ++ [[3, 7]]))), (2, none)], new := [.rows [.i64, .i64] (l ++ [[3, 7]])] }) (new := [5]) gRm_ok (st80_1 x e n l w) (by simp only [sC80_1, allC_cons, allC_nil, and_true]; exact ⟨decide_eq_false (by omega), decide_eq_false (by omega), decide_eq_false (by omega), decide_eq_false (by omega), decide_eq_false (by omega), decide_eq_false (by omega), decide_eq_false (by omega), decide_eq_true k8, hw, iB, iA, iA, iA, iB, iB, iB, iA, iA, iA, iB, iB, iB, iA, iA, iA, iB, iB, iB, iA, iA, iA, iB, iB, iB, iA, iA, iA, iB, iB, rB, rA, hs0, hlen _⟩) (by simp [upto]) rfl (by simp) (by simp) (fun j hj => by
        match j, hj with
        | 0, _ => rfl
        | 1, _ => rfl
        | 2, _ => rfl
        | 3, _ => rfl
        | j + 4, hj => exact absurd hj (by simp))
  by_cases k9 : x 0 = 9
  · rw [scE_9 k9, scN_9 k9, scL_9 k9]
    have hrun : FnOk gRm 10 [.ptr 0 0, .ptr 1 0, rwV x] [bkV e n 2, .log w, .rows [.i64, .i64] l] { val := .tuple [], upd := [(0, some (bkV (e) (n) 2))] } := FnOk.run (new := []) gRm_ok (st9_1 x e n l w) (by simp only [sC9_1, allC_cons, allC_nil, and_true]; exact ⟨decide_eq_false (by omega), decide_eq_false (by omega), decide_eq_false (by omega), decide_eq_false (by omega), decide_eq_false (by omega), decide_eq_false (by omega), decide_eq_false (by omega), decide_eq_false (by omega), decide_eq_true k9, rB, rA⟩) (by simp [upto]) rfl (by simp) (by simp) (fun j hj => by
      match j, hj with
      | 0, _ => rfl
      | 1, _ => rfl
      | 2, _ => rfl
      | j + 3, hj => exact absurd hj (by simp))
    have hsh := FnOk.shift (i := 2) (v' := .tuple []) (upd' := [(0, some (bkV (e) (n) 3)), (1, some (.log w)), (2, none)]) (bd := .rows [.i64, .i64] l) (C' := []) [0, 1, 4, 2] (by simp) rfl (by decide) (fun j hj hne => by
      match j, hj, hne with
      | 0, _, _ => rfl
      | 1, _, _ => rfl
      | 2, _, hne => exact absurd rfl hne
      | j + 3, hj, _ => exact absurd hj (by simp)) rfl hrun rfl (by simp) (fun j hj => by
      match j, hj with
      | 0, _ => show _ = _; kernel_rfl
      | 1, _ => show _ = _; kernel_rfl
      | 2, _ => show _ = _; kernel_rfl
      | 3, _ => show _ = _; kernel_rfl
      | j + 4, hj => exact absurd hj (by simp))
    rw [List.append_nil, List.append_nil]
    exact hsh
  by_cases k10 : x 0 = 10
  · rw [scE_10 k10, scN_10 k10, scL_10 k10]
    have hrun : FnOk gRm 10 [.ptr 0 0, .ptr 1 0, rwV x] [bkV e n 2, .log w, .rows [.i64, .i64] l] { val := .tuple [], upd := [(0, some (bkV (puE (xC8 x).toNat (fun _ => 0) e) (puN (xC8 x).toNat (fun _ => 0) n) 2))] } := FnOk.run (new := []) gRm_ok (st10_1 x e n l w) (by simp only [sC10_1, allC_cons, allC_nil, and_true]; exact ⟨decide_eq_false (by omega), decide_eq_false (by omega), decide_eq_false (by omega), decide_eq_false (by omega), decide_eq_false (by omega), decide_eq_false (by omega), decide_eq_false (by omega), decide_eq_false (by omega), decide_eq_false (by omega), decide_eq_true k10, iC, iC, iC, iC, iC, rC, iC, iC, iC, iC, iC, iC, iC, iC, iC, iC, iC, iC, iC, iC, iC, iC, rC⟩) (by simp [upto]) rfl (by simp) (by simp) (fun j hj => by
      match j, hj with
      | 0, _ => rfl
      | 1, _ => rfl
      | 2, _ => rfl
      | j + 3, hj => exact absurd hj (by simp))
    have hsh := FnOk.shift (i := 2) (v' := .tuple []) (upd' := [(0, some (bkV (puE (xC8 x).toNat (fun _ => 0) e) (puN (xC8 x).toNat (fun _ => 0) n) 3)), (1, some (.log w)), (2, none)]) (bd := .rows [.i64, .i64] l) (C' := []) [0, 1, 4, 2] (by simp) rfl (by decide) (fun j hj hne => by
      match j, hj, hne with
      | 0, _, _ => rfl
      | 1, _, _ => rfl
      | 2, _, hne => exact absurd rfl hne
      | j + 3, hj, _ => exact absurd hj (by simp)) rfl hrun rfl (by simp) (fun j hj => by
      match j, hj with
      | 0, _ => show _ = _; kernel_rfl
      | 1, _ => show _ = _; kernel_rfl
      | 2, _ => show _ = _; kernel_rfl
      | 3, _ => show _ = _; kernel_rfl
      | j + 4, hj => exact absurd hj (by simp))
    rw [List.append_nil, List.append_nil]
    exact hsh
  · rw [scE_11 k1 k2 k3 k4 k5 k6 k7 k8 k9 k10, scN_11 k1 k2 k3 k4 k5 k6 k7 k8 k9 k10, scL_11 k1 k2 k3 k4 k5 k6 k7 k8 k9 k10]
    have hrun : FnOk gRm 10 [.ptr 0 0, .ptr 1 0, rwV x] [bkV e n 2, .log w, .rows [.i64, .i64] l] { val := .tuple [], upd := [(0, some (bkV (e) (n) 2))] } := FnOk.run (new := []) gRm_ok (st11_1 x e n l w) (by simp only [sC11_1, allC_cons, allC_nil, and_true]; exact ⟨decide_eq_false k1, decide_eq_false k2, decide_eq_false k3, decide_eq_false k4, decide_eq_false k5, decide_eq_false k6, decide_eq_false k7, decide_eq_false k8, decide_eq_false k9, decide_eq_false k10⟩) (by simp [upto]) rfl (by simp) (by simp) (fun j hj => by
      match j, hj with
      | 0, _ => rfl
      | 1, _ => rfl
      | 2, _ => rfl
      | j + 3, hj => exact absurd hj (by simp))
    have hsh := FnOk.shift (i := 2) (v' := .tuple []) (upd' := [(0, some (bkV (e) (n) 3)), (1, some (.log w)), (2, none)]) (bd := .rows [.i64, .i64] l) (C' := []) [0, 1, 4, 2] (by simp) rfl (by decide) (fun j hj hne => by
      match j, hj, hne with
      | 0, _, _ => rfl
      | 1, _, _ => rfl
      | 2, _, hne => exact absurd rfl hne
      | j + 3, hj, _ => exact absurd hj (by simp)) rfl hrun rfl (by simp) (fun j hj => by
      match j, hj with
      | 0, _ => show _ = _; kernel_rfl
      | 1, _ => show _ = _; kernel_rfl
      | 2, _ => show _ = _; kernel_rfl
      | 3, _ => show _ = _; kernel_rfl
      | j + 4, hj => exact absurd hj (by simp))
    rw [List.append_nil, List.append_nil]
    exact hsh
end Go.Proofs.Ytghdadkpbofbbaa
