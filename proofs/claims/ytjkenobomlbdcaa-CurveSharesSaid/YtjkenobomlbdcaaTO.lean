/- Accounts of this seat's functions: lemmas, no statement of their own. No conditions. -/
import Derived.Test.YtjkenobomlbdcaaTN
namespace Go.Proofs.Ytjkenobomlbdcaa
open Go Go.Vx
/-! ### CurveClamps -/
abbrev rcL (f : Nat → Int) : List Int := [usub .u8 (f 0) (urem (f 0) 8), f 1, f 2, f 3, f 4, f 5, f 6, f 7, f 8, f 9, f 10, f 11, f 12, f 13, f 14, f 15, f 16, f 17, f 18, f 19, f 20, f 21, f 22, f 23, f 24, f 25, f 26, f 27, f 28, f 29, f 30, uadd .u8 (urem (f 31) 64) 64]
def rcN (la : List Int) (i : Nat) : Int := (rcL (atL la)).getD i 0
theorem rc_run (la : List Int) : runF gN 400 [] 12 [.agg (svF (List.replicate 32 .u8) (atL la) 0)] [] [] = some (.agg (svF (List.replicate 32 .u8) (rcN la) 0), [], []) := by kernel_rfl
theorem acc_rc : Acc gN 12 (arrF 32 .u8 32 .u8 rcN) := arr_ok gN_ok fun la => ⟨_, rc_run la⟩
noncomputable abbrev gO : Ctx := gN.add [(12, arrF 32 .u8 32 .u8 rcN)]
theorem gO_ok : CtxU gO := gN_ok.add mixed noGo (by
  intro x hx
  simp only [List.mem_cons, List.not_mem_nil, or_false] at hx
  rcases hx with rfl
  exact acc_rc)
abbrev kC (k : Nat → Int) : Nat → Int := clN (listF 32 k 0)
abbrev kTl (k : Nat → Int) : List Int := [uxor (k 0) 5, k 1, k 2, k 3, k 4, k 5, k 6, k 7, k 8, k 9, k 10, k 11, k 12, k 13, k 14, k 15, k 16, k 17, k 18, k 19, k 20, k 21, k 22, k 23, k 24, k 25, k 26, k 27, k 28, k 29, k 30, uxor (k 31) 192]
abbrev shQ (a b : List Int) : List Int := listF 32 (shF (atL a) (atL b)) 0
abbrev cpC (k u : Nat → Int) : List Prop := [decide (kC k 31 < 64) = false, (!decide (urem (kC k 0) 8 = 0)) = false, (!decide (listF 32 (clN (listF 32 (kC k) 0)) 0 = listF 32 (kC k) 0)) = false, (!decide (listF 32 (kC k) 0 = listF 32 (rcN (listF 32 k 0)) 0)) = false, decide (127 < kC k 31) = false, (!decide (kC k 1 = k 1)) = false, (!decide (kC k 2 = k 2)) = false, (!decide (kC k 3 = k 3)) = false, (!decide (kC k 4 = k 4)) = false, (!decide (kC k 5 = k 5)) = false, (!decide (kC k 6 = k 6)) = false, (!decide (kC k 7 = k 7)) = false, (!decide (kC k 8 = k 8)) = false, (!decide (kC k 9 = k 9)) = false, (!decide (kC k 10 = k 10)) = false, (!decide (kC k 11 = k 11)) = false, (!decide (kC k 12 = k 12)) = false, (!decide (kC k 13 = k 13)) = false, (!decide (kC k 14 = k 14)) = false, (!decide (kC k 15 = k 15)) = false, (!decide (kC k 16 = k 16)) = false, (!decide (kC k 17 = k 17)) = false, (!decide (kC k 18 = k 18)) = false, (!decide (kC k 19 = k 19)) = false, (!decide (kC k 20 = k 20)) = false, (!decide (kC k 21 = k 21)) = false, (!decide (kC k 22 = k 22)) = false, (!decide (kC k 23 = k 23)) = false, (!decide (kC k 24 = k 24)) = false, (!decide (kC k 25 = k 25)) = false, (!decide (kC k 26 = k 26)) = false, (!decide (kC k 27 = k 27)) = false, (!decide (kC k 28 = k 28)) = false, (!decide (kC k 29 = k 29)) = false, (!decide (kC k 30 = k 30)) = false, decide (shQ (kTl k) (listF 32 u 0) = shQ (listF 32 k 0) (listF 32 u 0)) = true, decide (shQ (listF 32 k 0) (listF 32 u 0) = shQ (listF 32 (kC k) 0) (listF 32 u 0)) = true]
abbrev cpC' (k u : Nat → Int) : List Prop := [decide (kC k 31 < 64) = false, (!decide (urem (kC k 0) 8 = 0)) = false, (!decide (listF 32 (clN (listF 32 (kC k) 0)) 0 = listF 32 (kC k) 0)) = false, (!decide (listF 32 (kC k) 0 = listF 32 (rcN (listF 32 k 0)) 0)) = false, decide (127 < kC k 31) = false]
  ++ (List.range 30).map (fun i => (!decide (kC k (i + 1) = k (i + 1))) = false)
  ++ [decide (shQ (kTl k) (listF 32 u 0) = shQ (listF 32 k 0) (listF 32 u 0)) = true, decide (shQ (listF 32 k 0) (listF 32 u 0) = shQ (listF 32 (kC k) 0) (listF 32 u 0)) = true]
theorem cp_run (k u : Nat → Int) : runF gO 3000 ([.br false, .br false, .br false, .br false, .br false] ++ List.replicate 30 (.br false) ++ [.br true, .br true]) 3 [.agg (b32 k), .agg (b32 u)] [] [] = some (.sbool true, [], cpC k u) :=
  run_parts (by kernel_rfl) (by kernel_rfl) (by kernel_rfl)
theorem cl_0 : ∀ m, m < 256 → (m &&& 248) = m - m % 8 ∧ ((m &&& 248) % 8 = 0) ∧ ((m &&& 248) &&& 248) = (m &&& 248) ∧ ((m ^^^ 5) &&& 248) = (m &&& 248) ∧ m &&& 248 = (m + (256 - m % 8)) % 256 := by decide +kernel
theorem cl_31 : ∀ m, m < 256 → ((m % 128) ||| 64) = m % 64 + 64 ∧ ((((m % 128) ||| 64) % 128) ||| 64) = ((m % 128) ||| 64) ∧ (((m ^^^ 192) % 128) ||| 64) = ((m % 128) ||| 64) := by decide +kernel
theorem clN_0 (l : List Int) : clN l 0 = uand (atL l 0) 248 := rfl
theorem clN_31 (l : List Int) : clN l 31 = uor (umask (atL l 31) 127) 64 := rfl
theorem clN_i (l : List Int) : ∀ i, i < 30 → clN l (i + 1) = atL l (i + 1) := fun i hi =>
  match i, hi with
  | 0, _ => rfl | 1, _ => rfl | 2, _ => rfl | 3, _ => rfl | 4, _ => rfl | 5, _ => rfl | 6, _ => rfl | 7, _ => rfl | 8, _ => rfl | 9, _ => rfl | 10, _ => rfl | 11, _ => rfl | 12, _ => rfl | 13, _ => rfl | 14, _ => rfl | 15, _ => rfl | 16, _ => rfl | 17, _ => rfl | 18, _ => rfl | 19, _ => rfl | 20, _ => rfl | 21, _ => rfl | 22, _ => rfl | 23, _ => rfl | 24, _ => rfl | 25, _ => rfl | 26, _ => rfl | 27, _ => rfl | 28, _ => rfl | 29, _ => rfl
  | i + 30, h => absurd h (by omega)
theorem rcN_i (l : List Int) : ∀ i, i < 30 → rcN l (i + 1) = atL l (i + 1) := fun i hi =>
  match i, hi with
  | 0, _ => rfl | 1, _ => rfl | 2, _ => rfl | 3, _ => rfl | 4, _ => rfl | 5, _ => rfl | 6, _ => rfl | 7, _ => rfl | 8, _ => rfl | 9, _ => rfl | 10, _ => rfl | 11, _ => rfl | 12, _ => rfl | 13, _ => rfl | 14, _ => rfl | 15, _ => rfl | 16, _ => rfl | 17, _ => rfl | 18, _ => rfl | 19, _ => rfl | 20, _ => rfl | 21, _ => rfl | 22, _ => rfl | 23, _ => rfl | 24, _ => rfl | 25, _ => rfl | 26, _ => rfl | 27, _ => rfl | 28, _ => rfl | 29, _ => rfl
  | i + 30, h => absurd h (by omega)
theorem kT_i (k : Nat → Int) : ∀ i, i < 30 → atL (kTl k) (i + 1) = k (i + 1) := fun i hi =>
  match i, hi with
  | 0, _ => rfl | 1, _ => rfl | 2, _ => rfl | 3, _ => rfl | 4, _ => rfl | 5, _ => rfl | 6, _ => rfl | 7, _ => rfl | 8, _ => rfl | 9, _ => rfl | 10, _ => rfl | 11, _ => rfl | 12, _ => rfl | 13, _ => rfl | 14, _ => rfl | 15, _ => rfl | 16, _ => rfl | 17, _ => rfl | 18, _ => rfl | 19, _ => rfl | 20, _ => rfl | 21, _ => rfl | 22, _ => rfl | 23, _ => rfl | 24, _ => rfl | 25, _ => rfl | 26, _ => rfl | 27, _ => rfl | 28, _ => rfl | 29, _ => rfl
  | i + 30, h => absurd h (by omega)
theorem by32 {f g : Nat → Int} (h0 : f 0 = g 0) (h1 : ∀ i, i < 30 → f (i + 1) = g (i + 1)) (h31 : f 31 = g 31) : ∀ i, i < 32 → f i = g i := fun i hi => by
  by_cases e : i = 0
  · subst e; exact h0
  · by_cases e2 : i = 31
    · subst e2; exact h31
    · obtain ⟨j, rfl⟩ : ∃ j, i = j + 1 := ⟨i - 1, by omega⟩
      exact h1 j (by omega)
/-- the clamped key says all -/
theorem shF_k {k k' u : Nat → Int} (h : ∀ i, i < 32 → shK k i = shK k' i) : shF k u = shF k' u := by
  have e : listF 32 (shK k) 0 = listF 32 (shK k') 0 := listF_eq0.2 h
  unfold shF shEnd
  rw [e]
theorem clamps_ok (k : Nat → Int) (hk : ∀ (i : Nat) (q : IntKind), (List.replicate 32 IntKind.u8)[i]? = some q → Fits q (k i)) (u : Nat → Int) : FnOk gO 3 [.agg (b32 k), .agg (b32 u)] [] { val := .sbool true } := by
  have hb := dec_byte hk
  have h0 := hb 0 (by decide)
  have h31 := hb 31 (by decide)
  rw [atL_listF (by decide)] at h0 h31
  obtain ⟨a, ha⟩ := Int.eq_ofNat_of_zero_le h0.1
  obtain ⟨b, hb2⟩ := Int.eq_ofNat_of_zero_le h31.1
  obtain ⟨p1, p2, p3, p4, p5⟩ := cl_0 a (by have := h0.2; omega)
  obtain ⟨q1, q2, q3⟩ := cl_31 b (by have := h31.2; omega)
  have at0 : ∀ f : Nat → Int, atL (listF 32 f 0) 0 = f 0 := fun f => atL_listF (by decide)
  have at31 : ∀ f : Nat → Int, atL (listF 32 f 0) 31 = f 31 := fun f => atL_listF (by decide)
  have ati : ∀ (f : Nat → Int) (i : Nat), i < 30 → atL (listF 32 f 0) (i + 1) = f (i + 1) := fun f i hi => atL_listF (by omega)
  have c0 : kC k 0 = ((a &&& 248 : Nat) : Int) := by unfold kC; rw [clN_0, at0, ha]; rfl
  have c31 : kC k 31 = (((b % 128) ||| 64 : Nat) : Int) := by unfold kC; rw [clN_31, at31, hb2]; rfl
  have ci : ∀ i, i < 30 → kC k (i + 1) = k (i + 1) := fun i hi => by unfold kC; rw [clN_i _ i hi, ati k i hi]
  have eR : listF 32 (kC k) 0 = listF 32 (rcN (listF 32 k 0)) 0 := listF_eq0.2 (by32 (by
      rw [c0]
      show _ = usub .u8 (atL (listF 32 k 0) 0) (urem (atL (listF 32 k 0) 0) 8)
      rw [at0, ha, p5]; rfl) (fun i hi => by rw [ci i hi, rcN_i _ i hi, ati k i hi]) (by
      rw [c31]
      show _ = uadd .u8 (urem (atL (listF 32 k 0) 31) 64) 64
      rw [at31, hb2, q1]
      show ((b % 64 + 64 : Nat) : Int) = (((b % 64 + 64) % 256 : Nat) : Int)
      omega))
  have eC : ∀ i, i < 32 → clN (listF 32 (kC k) 0) i = kC k i := by32 (by
      rw [clN_0, at0, c0]
      show ((((a &&& 248) &&& 248 : Nat)) : Int) = _
      rw [p3]) (fun i hi => by rw [clN_i _ i hi, ati _ i hi]) (by
      rw [clN_31, at31, c31]
      show (((((b % 128) ||| 64) % 128) ||| 64 : Nat) : Int) = _
      rw [q2])
  refine FnOk.pure gO_ok (cp_run k u) ?_
  have s1 : shQ (listF 32 k 0) (listF 32 u 0) = shQ (listF 32 (kC k) 0) (listF 32 u 0) := by
    unfold shQ
    rw [shF_k (k := atL (listF 32 k 0)) (k' := atL (listF 32 (kC k) 0)) fun i hi => ?_]
    show clN (listF 32 (atL (listF 32 k 0)) 0) i = clN (listF 32 (atL (listF 32 (kC k) 0)) 0) i
    rw [listF_eq0.2 (fun j hj => atL_listF (a := k) hj), listF_eq0.2 (fun j hj => atL_listF (a := kC k) hj), eC i hi]
  have s2 : shQ (kTl k) (listF 32 u 0) = shQ (listF 32 k 0) (listF 32 u 0) := by
    unfold shQ
    rw [shF_k (k := atL (kTl k)) (k' := atL (listF 32 k 0)) fun i hi => ?_]
    show clN (listF 32 (atL (kTl k)) 0) i = clN (listF 32 (atL (listF 32 k 0)) 0) i
    rw [listF_eq0.2 (fun j hj => atL_listF (a := k) hj)]
    refine by32 (f := clN (listF 32 (atL (kTl k)) 0)) (g := clN (listF 32 k 0)) ?_ ?_ ?_ i hi
    · rw [clN_0, clN_0, at0, at0]
      show uand (uxor (k 0) 5) 248 = uand (k 0) 248
      rw [ha]
      show (((a ^^^ 5) &&& 248 : Nat) : Int) = ((a &&& 248 : Nat) : Int)
      rw [p4]
    · intro i hi
      rw [clN_i _ i hi, clN_i _ i hi, ati _ i hi, ati _ i hi, kT_i k i hi]
    · rw [clN_31, clN_31, at31, at31]
      show uor (umask (uxor (k 31) 192) 127) 64 = uor (umask (k 31) 127) 64
      rw [hb2]
      show ((((b ^^^ 192) % 128) ||| 64 : Nat) : Int) = (((b % 128) ||| 64 : Nat) : Int)
      rw [q3]
  have hr : urem ((a &&& 248 : Nat) : Int) 8 = (((a &&& 248) % 8 : Nat) : Int) := rfl
  show AllC (cpC' k u)
  rw [allC_append, allC_append]
  refine ⟨⟨?_, ?_⟩, ?_⟩
  · simp only [allC_cons, allC_nil, and_true]
    refine ⟨decide_eq_false (by rw [c31, q1]; omega), ?_, ?_, ?_, decide_eq_false (by rw [c31, q1]; omega)⟩
    · rw [c0, hr, p2]; rfl
    · rw [decide_eq_true (listF_eq0.2 eC)]; rfl
    · rw [decide_eq_true eR]; rfl
  · intro c hc
    obtain ⟨i, hi, rfl⟩ := List.mem_map.1 hc
    rw [decide_eq_true (ci i (List.mem_range.1 hi))]; rfl
  · simp only [allC_cons, allC_nil, and_true]
    exact ⟨decide_eq_true s2, decide_eq_true s1⟩
end Go.Proofs.Ytjkenobomlbdcaa
