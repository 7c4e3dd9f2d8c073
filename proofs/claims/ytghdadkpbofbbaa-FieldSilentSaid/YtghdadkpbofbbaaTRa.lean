/- Accounts of this seat's functions: lemmas, no statement of their own. No conditions. -/
import Derived.Test.YtghdadkpbofbbaaV4
import Derived.Test.YtghdadkpbofbbaaTJ
namespace Go.Proofs.Ytghdadkpbofbbaa
open Go Go.Vx
theorem pr_run0 (i : Int) : runF gH 200 [.br true] 46 [.int .i64 i] [] [] = some (.lit .i64 65517, [], [decide (i = 0) = true]) := by kernel_rfl
theorem pr_run1 (i : Int) : runF gH 200 [.br false, .br true] 46 [.int .i64 i] [] [] = some (.lit .i64 32767, [], [decide (i = 0) = false, decide (i = 15) = true]) := by kernel_rfl
theorem pr_run2 (i : Int) : runF gH 200 [.br false, .br false] 46 [.int .i64 i] [] [] = some (.lit .i64 65535, [], [decide (i = 0) = false, decide (i = 15) = false]) := by kernel_rfl
def prI (i : Int) : Int := if i = 0 then 65517 else if i = 15 then 32767 else 65535
def prF : SumF := fun args B => match args, B with
  | [.int .i64 i], [] => some { val := .int .i64 (prI i) }
  | _, _ => none
theorem acc_pr : Acc gH 46 prF := by
  intro args B out h _
  unfold prF at h
  split at h
  · rename_i i
    simp only [Option.some.injEq] at h; subst h
    unfold prI
    by_cases h0 : i = 0
    · rw [if_pos h0]
      exact FnOk.val (FnOk.pure gH_ok (pr_run0 i) (by (simp only [allC_cons, allC_nil, and_true]; repeat' (with_reducible (first | refine And.intro ?_ ?_ | exact True.intro | assumption | omega | exact decide_eq_true (by first | assumption | omega) | exact decide_eq_false (by first | assumption | omega) | rfl | (simp; done)))))) fun _ _ _ _ d => denV_norm d
    · rw [if_neg h0]
      by_cases h1 : i = 15
      · rw [if_pos h1]
        exact FnOk.val (FnOk.pure gH_ok (pr_run1 i) (by (simp only [allC_cons, allC_nil, and_true]; repeat' (with_reducible (first | refine And.intro ?_ ?_ | exact True.intro | assumption | omega | exact decide_eq_true (by first | assumption | omega) | exact decide_eq_false (by first | assumption | omega) | rfl | (simp; done)))))) fun _ _ _ _ d => denV_norm d
      · rw [if_neg h1]
        exact FnOk.val (FnOk.pure gH_ok (pr_run2 i) (by (simp only [allC_cons, allC_nil, and_true]; repeat' (with_reducible (first | refine And.intro ?_ ?_ | exact True.intro | assumption | omega | exact decide_eq_true (by first | assumption | omega) | exact decide_eq_false (by first | assumption | omega) | rfl | (simp; done)))))) fun _ _ _ _ d => denV_norm d
  · simp at h
noncomputable abbrev gRp : Ctx := gH.add [(46, prF)]
theorem gRp_ok : CtxU gRp := gH_ok.add mixed noGo (by
  intro x hx
  simp only [List.mem_cons, List.not_mem_nil, or_false] at hx
  rcases hx with rfl
  exact acc_pr)
/-! ### the document's digits -/
noncomputable abbrev i16 (x : Nat → Int) : List SV := svF (List.replicate 16 .i64) x 0
abbrev L16 (x : Nat → Int) : List Int := listF 16 x 0
def c3D (t : Nat → Int) (i : Nat) : Int := if i = 15 then (t 15 + hcr t 15) % 32768 else (t i + hcr t i) % 65536
abbrev c3C (t : Nat → Int) : List Prop := [Fits .i64 (t 0 + hcr t 0), Fits .i64 (t 1 + hcr t 1), Fits .i64 (t 2 + hcr t 2), Fits .i64 (t 3 + hcr t 3), Fits .i64 (t 4 + hcr t 4), Fits .i64 (t 5 + hcr t 5), Fits .i64 (t 6 + hcr t 6), Fits .i64 (t 7 + hcr t 7), Fits .i64 (t 8 + hcr t 8), Fits .i64 (t 9 + hcr t 9), Fits .i64 (t 10 + hcr t 10), Fits .i64 (t 11 + hcr t 11), Fits .i64 (t 12 + hcr t 12), Fits .i64 (t 13 + hcr t 13), Fits .i64 (t 14 + hcr t 14), Fits .i64 (t 15 + hcr t 15)]
theorem c3_run (t : Nat → Int) : runF gRp 600 [] 49 [.agg (i16 t)] [] [] = some (.tuple [.agg (i16 (c3D t)), .int .i64 ((t 15 + hcr t 15) / 32768)], [], c3C t) :=
  run_parts (by kernel_rfl) (by kernel_rfl) (by kernel_rfl)
/-- digits that are not too great -/
def D0 (t : Nat → Int) : Prop := ∀ i, i < 16 → -1152921504606846976 < t i ∧ t i < 1152921504606846976
abbrev hxL (l : List Int) : Int := hx 16 (atL l) 0
theorem c3C_ok {t : Nat → Int} (h : D0 t) : AllC (c3C t) := by
  have H : ∀ i, i < 16 → Fits .i64 (t i + hcr t i) := fun i hi => by
    have h1 := h i hi
    have h2 := hcr_lt (B := 1152921504606846976) (by decide) h i (by omega)
    exact fits_of (by omega) (by omega)
  have h0 := H 0 (by decide)
  have h1 := H 1 (by decide)
  have h2 := H 2 (by decide)
  have h3 := H 3 (by decide)
  have h4 := H 4 (by decide)
  have h5 := H 5 (by decide)
  have h6 := H 6 (by decide)
  have h7 := H 7 (by decide)
  have h8 := H 8 (by decide)
  have h9 := H 9 (by decide)
  have h10 := H 10 (by decide)
  have h11 := H 11 (by decide)
  have h12 := H 12 (by decide)
  have h13 := H 13 (by decide)
  have h14 := H 14 (by decide)
  have h15 := H 15 (by decide)
  simp only [c3C, allC_cons, allC_nil, and_true]
  exact ⟨h0, h1, h2, h3, h4, h5, h6, h7, h8, h9, h10, h11, h12, h13, h14, h15⟩
theorem c3D_eq {t : Nat → Int} (h : D0 t) : ∀ i, i < 16 → c3D t i = dgN (hx 16 t 0) i := fun i hi => by
  unfold c3D dgN
  by_cases e : i = 15
  · rw [if_pos e, if_pos e, ← hx_last]
  · rw [if_neg e, if_neg e, ← hx_digit hi]
theorem i16_congr {x y : Nat → Int} (h : ∀ i, i < 16 → x i = y i) : i16 x = i16 y := by
  have H : ∀ (ks : List IntKind) (o : Nat), (∀ j, o ≤ j → j < o + ks.length → x j = y j) → svF ks x o = svF ks y o := by
    intro ks
    induction ks with
    | nil => intros; rfl
    | cons k ks ih =>
      intro o hh
      show _ :: _ = _ :: _
      rw [hh o (Nat.le_refl _) (by simp), ih (o + 1) fun j h1 h2 => hh j (by omega) (by simp only [List.length_cons]; omega)]
  exact H _ 0 fun j _ h2 => h j (by simpa using h2)
theorem c3_top {t : Nat → Int} (h : D0 t) : (t 15 + hcr t 15) / 32768 = hx 16 t 0 / E255 := by
  rw [hx_last, p15]
  simp only [E255]
  omega
noncomputable def c3F : SumF := fun args B => match args, B with
  | [.agg xs], [] => match numsAs (List.replicate 16 .i64) xs with
    | some l => some { val := .tuple [.agg (i16 (dgN (hxL l))), .int .i64 (hxL l / E255)], C := [D0 (atL l)] }
    | none => none
  | _, _ => none
theorem acc_c3 : Acc gRp 49 c3F := by
  intro args B out h hC
  unfold c3F at h
  split at h
  · split at h
    · rename_i l hl
      simp only [Option.some.injEq] at h; subst h
      have hd : D0 (atL l) := hC _ (by simp)
      have hr := c3_run (atL l)
      rw [i16_congr (c3D_eq hd), c3_top hd] at hr
      exact FnOk.imp (FnOk.pure gRp_ok hr (c3C_ok hd)) ⟨nums_imp hl, trivial⟩
    · simp at h
  · simp at h
end Go.Proofs.Ytghdadkpbofbbaa
