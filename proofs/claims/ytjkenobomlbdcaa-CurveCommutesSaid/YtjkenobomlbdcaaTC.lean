/- Accounts of this seat's functions: lemmas, no statement of their own. No conditions. -/
import Derived.Test.YtjkenobomlbdcaaV4
import Derived.Test.YtjkenobomlbdcaaTB
namespace Go.Proofs.Ytjkenobomlbdcaa
open Go Go.Vx
/-! ### numbers of 128 digits -/
theorem mul64_run (x y : Int) : runF g1 200 [] 69 [.int .u64 x, .int .u64 y] [] [] = some (.tuple [.int .u64 (mul64H x y), .int .u64 (umul .u64 x y)], [], []) := by kernel_rfl
def mul64F : SumF := fun args B => match args, B with
  | [.int .u64 x, .int .u64 y], [] => some { val := .tuple [.int .u64 (mhi x y), .int .u64 (mlo x y)] }
  | _, _ => none
theorem u64_of {x : Int} (h : Fits .u64 x) : 0 ≤ x ∧ x < 18446744073709551616 := ⟨h.1, Int.lt_of_le_of_lt h.2 (by decide)⟩
theorem acc_mul64 : Acc g1 69 mul64F := by
  intro args B out h _
  unfold mul64F at h
  split at h
  · simp only [Option.some.injEq] at h; subst h
    refine FnOk.facts fun ⟨h0, h1, _⟩ => ?_
    have e := mul64_eq (u64_of h0) (u64_of h1)
    rw [← e.1, ← e.2]
    exact FnOk.pure g1_ok (mul64_run _ _) (by simp [AllC])
  · simp at h
theorem acc_add64 : Acc g1 70 add64F :=
  add64_ok (g := g1) (get_ok (f := 70) (by kernel_rfl)) (by kernel_rfl) (by kernel_rfl) (by kernel_rfl) (by kernel_rfl)
noncomputable abbrev gA : Ctx := g1.add [(69, mul64F), (70, add64F)]
theorem gA_ok : CtxU gA := g1_ok.add mixed noGo (by
  intro x hx
  simp only [List.mem_cons, List.not_mem_nil, or_false] at hx
  rcases hx with rfl | rfl
  · exact acc_mul64
  · exact acc_add64)
theorem plus_run (h l x y : Int) : runF gA 200 [] 61 [.agg [.int .u64 h, .int .u64 l], .int .u64 x, .int .u64 y] [] [] = some (.agg [.int .u64 (plusH h l x y), .int .u64 (plusL l x y)], [], [(0 : Int).toNat ≤ 1, (adcC l (mlo x y) 0).toNat ≤ 1]) := by kernel_rfl
def plusF : SumF := fun args B => match args, B with
  | [.agg cs, .int .u64 x, .int .u64 y], [] => match numsAs [.u64, .u64] cs with
    | some [h, l] => some { val := .agg [.int .u64 (hiW (jW h l + x * y)), .int .u64 (loW (jW h l + x * y))] }
    | _ => none
  | _, _ => none
theorem two_u64 {h l : Int} (f : factsL (svF [.u64, .u64] (atL [h, l]) 0)) : (0 ≤ h ∧ h < 18446744073709551616) ∧ (0 ≤ l ∧ l < 18446744073709551616) :=
  ⟨u64_of (facts_svF f 0 .u64 rfl), u64_of (facts_svF f 1 .u64 rfl)⟩
theorem acc_plus : Acc gA 61 plusF := by
  intro args B out hh _
  unfold plusF at hh
  split at hh
  · rename_i cs x y
    split at hh
    · rename_i h l hc
      simp only [Option.some.injEq] at hh; subst hh
      refine FnOk.imp (args' := [.agg (svF [.u64, .u64] (atL [h, l]) 0), .int .u64 x, .int .u64 y]) ?_ ⟨nums_imp hc, DenImp.refl _, DenImp.refl _, trivial⟩
      refine FnOk.facts fun ⟨f0, f1, f2, _⟩ => ?_
      obtain ⟨b0, b1⟩ := two_u64 f0
      obtain ⟨e1, e2, e3⟩ := plus_eq b0 b1 (u64_of f1) (u64_of f2)
      rw [← e1, ← e2]
      exact FnOk.pure gA_ok (plus_run h l x y) (by simp only [allC_cons, allC_nil, and_true]; exact ⟨by decide, e3⟩)
    · simp at hh
  · simp at hh
noncomputable abbrev gB : Ctx := gA.add [(61, plusF)]
theorem gB_ok : CtxU gB := gA_ok.add mixed noGo (by
  intro x hx
  simp only [List.mem_cons, List.not_mem_nil, or_false] at hx
  rcases hx with rfl
  exact acc_plus)
theorem nine_run (a b c e : Int) : runF gB 200 [] 63 [.agg [.int .u64 a, .int .u64 b], .agg [.int .u64 c, .int .u64 e]] [] [] = some (.agg [.int .u64 (uadd .u64 (hiW (jW a b + e * 19)) (umul .u64 c 19)), .int .u64 (loW (jW a b + e * 19))], [], []) := by kernel_rfl
def nineF : SumF := fun args B => match args, B with
  | [.agg cs, .agg ds], [] => match numsAs [.u64, .u64] cs, numsAs [.u64, .u64] ds with
    | some [a, b], some [c, e] => some { val := .agg [.int .u64 (hiW (jW a b + 19 * jW c e)), .int .u64 (loW (jW a b + 19 * jW c e))] }
    | _, _ => none
  | _, _ => none
theorem acc_nine : Acc gB 63 nineF := by
  intro args B out hh _
  unfold nineF at hh
  split at hh
  · rename_i cs ds
    split at hh
    · rename_i a b c e hc hd
      simp only [Option.some.injEq] at hh; subst hh
      refine FnOk.imp (args' := [.agg (svF [.u64, .u64] (atL [a, b]) 0), .agg (svF [.u64, .u64] (atL [c, e]) 0)]) ?_ ⟨nums_imp hc, nums_imp hd, trivial⟩
      refine FnOk.facts fun ⟨f0, f1, _⟩ => ?_
      obtain ⟨b0, b1⟩ := two_u64 f0
      obtain ⟨b2, b3⟩ := two_u64 f1
      obtain ⟨e1, e2⟩ := nine_eq b0 b1 b2 b3
      rw [← e1, ← e2]
      exact FnOk.pure gB_ok (nine_run a b c e) (by simp [AllC])
    · simp at hh
  · simp at hh
theorem car_run (la : List Int) : runF gB 400 [] 51 [.agg (svF (List.replicate 5 .u64) (atL la) 0)] [] [] = some (.agg (svF (List.replicate 5 .u64) (fcarN la) 0), [], []) := by kernel_rfl
theorem acc_car : Acc gB 51 (arrF 5 .u64 5 .u64 fcarN) := arr_ok gB_ok fun la => ⟨_, car_run la⟩
theorem word_run (la : List Int) : runF gB 400 [] 43 [.agg (svF (List.replicate 8 .u8) (atL la) 0)] [] [] = some (.int .u64 (word8 (atL la) 0), [], []) := by kernel_rfl
def wordF : SumF := fun args B => match args, B with
  | [.agg xs], [] => match numsAs (List.replicate 8 .u8) xs with
    | some la => some { val := .int .u64 (word8 (atL la) 0) }
    | none => none
  | _, _ => none
theorem acc_word : Acc gB 43 wordF := by
  intro args B out h _
  unfold wordF at h
  split at h
  · split at h
    · rename_i la ha
      simp only [Option.some.injEq] at h; subst h
      exact FnOk.imp (FnOk.pure gB_ok (word_run la) (by simp [AllC])) ⟨nums_imp ha, trivial⟩
    · simp at h
  · simp at h
noncomputable abbrev gC : Ctx := gB.add [(63, nineF), (51, arrF 5 .u64 5 .u64 fcarN), (43, wordF)]
theorem gC_ok : CtxU gC := gB_ok.add mixed noGo (by
  intro x hx
  simp only [List.mem_cons, List.not_mem_nil, or_false] at hx
  rcases hx with rfl | rfl | rfl
  · exact acc_nine
  · exact acc_car
  · exact acc_word)
theorem fold_run (la : List Int) : runF gC 400 [] 62 [.agg (svF (List.replicate 10 .u64) (atL la) 0)] [] [] = some (.agg (svF (List.replicate 5 .u64) (foldN la) 0), [], []) := by kernel_rfl
theorem acc_fold : Acc gC 62 (arrF 10 .u64 5 .u64 foldN) := arr_ok gC_ok fun la => ⟨_, fold_run la⟩
def fdecN (la : List Int) (i : Nat) : Int := (fdecL (atL la)).getD i 0
theorem dec_run (la : List Int) : runF gC 400 [] 25 [.agg (svF (List.replicate 32 .u8) (atL la) 0)] [] [] = some (.agg (svF (List.replicate 5 .u64) (fdecN la) 0), [], []) := by kernel_rfl
theorem acc_dec : Acc gC 25 (arrF 32 .u8 5 .u64 fdecN) := arr_ok gC_ok fun la => ⟨_, dec_run la⟩
theorem enc_run (la : List Int) : runF gC 800 [] 30 [.agg (svF (List.replicate 5 .u64) (atL la) 0)] [] [] = some (.agg (svF (List.replicate 32 .u8) (fencN la) 0), [], []) := by kernel_rfl
theorem acc_enc : Acc gC 30 (arrF 5 .u64 32 .u8 fencN) := arr_ok gC_ok fun la => ⟨_, enc_run la⟩
noncomputable abbrev gD : Ctx := gC.add [(62, arrF 10 .u64 5 .u64 foldN), (25, arrF 32 .u8 5 .u64 fdecN), (30, arrF 5 .u64 32 .u8 fencN)]
theorem gD_ok : CtxU gD := gC_ok.add mixed noGo (by
  intro x hx
  simp only [List.mem_cons, List.not_mem_nil, or_false] at hx
  rcases hx with rfl | rfl | rfl
  · exact acc_fold
  · exact acc_dec
  · exact acc_enc)
theorem times_run (la lb : List Int) : runF gD 800 [] 50 [.agg (svF (List.replicate 5 .u64) (atL la) 0), .agg (svF (List.replicate 5 .u64) (atL lb) 0)] [] [] = some (.agg (svF (List.replicate 5 .u64) (fmulN la lb) 0), [], []) := by kernel_rfl
def timesF : SumF := fun args B => match args, B with
  | [.agg xs, .agg ys], [] => match numsAs (List.replicate 5 .u64) xs, numsAs (List.replicate 5 .u64) ys with
    | some la, some lb => some { val := .agg (svF (List.replicate 5 .u64) (fmulN la lb) 0) }
    | _, _ => none
  | _, _ => none
theorem acc_times : Acc gD 50 timesF := by
  intro args B out h _
  unfold timesF at h
  split at h
  · split at h
    · rename_i la lb ha hb
      simp only [Option.some.injEq] at h; subst h
      exact FnOk.imp (FnOk.pure gD_ok (times_run la lb) (by simp [AllC])) ⟨nums_imp ha, nums_imp hb, trivial⟩
    · simp at h
  · simp at h
noncomputable abbrev gE : Ctx := gD.add [(50, timesF)]
theorem gE_ok : CtxU gE := gD_ok.add mixed noGo (by
  intro x hx
  simp only [List.mem_cons, List.not_mem_nil, or_false] at hx
  rcases hx with rfl
  exact acc_times)
end Go.Proofs.Ytjkenobomlbdcaa
