/- Accounts of this seat's functions: lemmas, no statement of their own. No conditions. -/
import Derived.Test.YtghdadkpbofbbaaV4
import Derived.Test.YtghdadkpbofbbaaTRd
namespace Go.Proofs.Ytghdadkpbofbbaa
open Go Go.Vx
/-! ### sums -/
def smT (n : Int) (i : Nat) : Int := if i = 0 then n.tmod 65536 else if i = 1 then n.tdiv 65536 else 0
theorem sm_run (n : Int) : runF gRc 900 [] 47 [.int .i64 n] [] [] = some (.agg (i16 (dgN (hxL (L16 (smT n)) % Q))), [], [D1 (atL (L16 (smT n)))]) :=
  run_parts (by kernel_rfl) (by kernel_rfl) (by kernel_rfl)
theorem smT_ok {n : Int} (h : 0 ≤ n ∧ n < 4294967296) : hx 16 (smT n) 0 = n ∧ D1 (smT n) := by
  have e0 : smT n 0 = n % 65536 := Int.tmod_eq_emod_of_nonneg h.1
  have e1 : smT n 1 = n / 65536 := Int.tdiv_eq_ediv_of_nonneg h.1
  have ez : ∀ i, 2 ≤ i → smT n i = 0 := fun i hi => by unfold smT; rw [if_neg (by omega), if_neg (by omega)]
  refine ⟨?_, D1_nn fun i hi => ?_⟩
  · show smT n 0 + 65536 * (smT n 1 + 65536 * hx 14 (smT n) 2) = n
    rw [hx_null 14 2 (fun j _ => ez _ (by omega)), e0, e1]; omega
  · by_cases h0 : i = 0
    · subst h0; rw [e0]; omega
    · by_cases h1 : i = 1
      · subst h1; rw [e1]; omega
      · rw [ez i (by omega)]; decide
noncomputable def smF : SumF := fun args B => match args, B with
  | [.int .i64 n], [] => some { val := .agg (i16 (dgN (n % Q))), C := [0 ≤ n ∧ n < 4294967296] }
  | _, _ => none
theorem acc_sm : Acc gRc 47 smF := by
  intro args B out h hC
  unfold smF at h
  split at h
  · simp only [Option.some.injEq] at h; subst h
    rename_i n
    have hn : 0 ≤ n ∧ n < 4294967296 := hC _ (by simp)
    obtain ⟨e, D⟩ := smT_ok hn
    have hr := sm_run n
    rw [hxL_L16, e] at hr
    exact FnOk.pure gRc_ok hr (by simp only [allC_cons, allC_nil, and_true]; exact D1_L16 D)
  · simp at h
abbrev adT (a b : Nat → Int) (i : Nat) : Int := a i + b i
theorem ad_run (a b : Nat → Int) : runF gRc 900 [] 30 [.agg (i16 a), .agg (i16 b)] [] [] = some (.agg (i16 (dgN (hxL (L16 (adT a b)) % Q))), [], [Fits .i64 (a 0 + b 0), Fits .i64 (a 1 + b 1), Fits .i64 (a 2 + b 2), Fits .i64 (a 3 + b 3), Fits .i64 (a 4 + b 4), Fits .i64 (a 5 + b 5), Fits .i64 (a 6 + b 6), Fits .i64 (a 7 + b 7), Fits .i64 (a 8 + b 8), Fits .i64 (a 9 + b 9), Fits .i64 (a 10 + b 10), Fits .i64 (a 11 + b 11), Fits .i64 (a 12 + b 12), Fits .i64 (a 13 + b 13), Fits .i64 (a 14 + b 14), Fits .i64 (a 15 + b 15), D1 (atL (L16 (adT a b)))]) :=
  run_parts (by kernel_rfl) (by kernel_rfl) (by kernel_rfl)
abbrev sbT (a b : Nat → Int) (i : Nat) : Int := a i + prI (i : Int) - b i
theorem sb_run (a b : Nat → Int) : runF gRc 900 [] 32 [.agg (i16 a), .agg (i16 b)] [] [] = some (.agg (i16 (dgN (hxL (L16 (sbT a b)) % Q))), [], [Fits .i64 (a 0 + prI 0 - b 0), Fits .i64 (a 0 + prI 0), Fits .i64 (a 1 + prI 1 - b 1), Fits .i64 (a 1 + prI 1), Fits .i64 (a 2 + prI 2 - b 2), Fits .i64 (a 2 + prI 2), Fits .i64 (a 3 + prI 3 - b 3), Fits .i64 (a 3 + prI 3), Fits .i64 (a 4 + prI 4 - b 4), Fits .i64 (a 4 + prI 4), Fits .i64 (a 5 + prI 5 - b 5), Fits .i64 (a 5 + prI 5), Fits .i64 (a 6 + prI 6 - b 6), Fits .i64 (a 6 + prI 6), Fits .i64 (a 7 + prI 7 - b 7), Fits .i64 (a 7 + prI 7), Fits .i64 (a 8 + prI 8 - b 8), Fits .i64 (a 8 + prI 8), Fits .i64 (a 9 + prI 9 - b 9), Fits .i64 (a 9 + prI 9), Fits .i64 (a 10 + prI 10 - b 10), Fits .i64 (a 10 + prI 10), Fits .i64 (a 11 + prI 11 - b 11), Fits .i64 (a 11 + prI 11), Fits .i64 (a 12 + prI 12 - b 12), Fits .i64 (a 12 + prI 12), Fits .i64 (a 13 + prI 13 - b 13), Fits .i64 (a 13 + prI 13), Fits .i64 (a 14 + prI 14 - b 14), Fits .i64 (a 14 + prI 14), Fits .i64 (a 15 + prI 15 - b 15), Fits .i64 (a 15 + prI 15), D1 (atL (L16 (sbT a b)))]) :=
  run_parts (by kernel_rfl) (by kernel_rfl) (by kernel_rfl)
theorem prI_b {a : Nat → Int} (h : DG a) {b : Nat → Int} (g : DG b) {i : Nat} (hi : i < 16) : 0 ≤ a i ∧ a i < 65536 ∧ 0 ≤ b i ∧ b i < 65536 ∧ b i ≤ prI (i : Int) + 18 ∧ 0 ≤ prI (i : Int) ∧ prI (i : Int) < 65536 := by
  have := h.1 i hi
  have := g.1 i hi
  have := g.2
  unfold prI
  split
  · omega
  · split
    · have e : i = 15 := by omega
      subst e; omega
    · omega
theorem hx_pr : hx 16 (fun i => prI (i : Int)) 0 = Q := by kernel_rfl
noncomputable def adF : SumF := fun args B => match args, B with
  | [.agg xs, .agg ys], [] => match numsAs (List.replicate 16 .i64) xs, numsAs (List.replicate 16 .i64) ys with
    | some l, some m => some { val := .agg (i16 (dgN ((hxL l + hxL m) % Q))), C := [DG (atL l), DG (atL m)] }
    | _, _ => none
  | _, _ => none
theorem acc_ad : Acc gRc 30 adF := by
  intro args B out h hC
  unfold adF at h
  split at h
  · split at h
    · rename_i l m hl hm
      simp only [Option.some.injEq] at h; subst h
      have D1' : DG (atL l) := hC _ (by simp)
      have D2' : DG (atL m) := hC _ (by simp)
      refine FnOk.imp (args' := [.agg (i16 (atL l)), .agg (i16 (atL m))]) ?_ ⟨nums_imp hl, nums_imp hm, trivial⟩
      have hr := ad_run (atL l) (atL m)
      have e : hx 16 (adT (atL l) (atL m)) 0 = hxL l + hxL m := hx_plus 16 _ _ 0
      rw [hxL_L16, e] at hr
      have H : ∀ i, i < 16 → Fits .i64 (atL l i + atL m i) := fun i hi => by
        have := prI_b D1' D2' hi
        exact fits_of (by omega) (by omega)
      refine FnOk.pure gRc_ok hr ?_
      simp only [allC_cons, allC_nil, and_true]
      exact ⟨H 0 (by decide), H 1 (by decide), H 2 (by decide), H 3 (by decide), H 4 (by decide), H 5 (by decide), H 6 (by decide), H 7 (by decide), H 8 (by decide), H 9 (by decide), H 10 (by decide), H 11 (by decide), H 12 (by decide), H 13 (by decide), H 14 (by decide), H 15 (by decide), D1_L16 (D1_nn fun i hi => by have := prI_b D1' D2' hi; simp only [adT]; omega)⟩
    · simp at h
  · simp at h
noncomputable def sbF : SumF := fun args B => match args, B with
  | [.agg xs, .agg ys], [] => match numsAs (List.replicate 16 .i64) xs, numsAs (List.replicate 16 .i64) ys with
    | some l, some m => some { val := .agg (i16 (dgN ((hxL l - hxL m) % Q))), C := [DG (atL l), DG (atL m), hxL m ≤ Q] }
    | _, _ => none
  | _, _ => none
theorem acc_sb : Acc gRc 32 sbF := by
  intro args B out h hC
  unfold sbF at h
  split at h
  · split at h
    · rename_i l m hl hm
      simp only [Option.some.injEq] at h; subst h
      have D1' : DG (atL l) := hC _ (by simp)
      have D2' : DG (atL m) := hC _ (by simp)
      have D3' : hxL m ≤ Q := hC _ (by simp)
      refine FnOk.imp (args' := [.agg (i16 (atL l)), .agg (i16 (atL m))]) ?_ ⟨nums_imp hl, nums_imp hm, trivial⟩
      have hr := sb_run (atL l) (atL m)
      have e : hx 16 (sbT (atL l) (atL m)) 0 = hxL l + Q - hxL m := by
        have h1 := hx_minus 16 (fun i => atL l i + prI (i : Int)) (atL m) 0
        have h2 := hx_plus 16 (atL l) (fun i => prI (i : Int)) 0
        rw [hx_pr] at h2
        rw [h2] at h1
        exact h1
      have e2 : (hxL l + Q - hxL m) % Q = (hxL l - hxL m) % Q := by
        rw [show hxL l + Q - hxL m = (hxL l - hxL m) + Q by omega, Int.add_emod_right]
      rw [hxL_L16, e, e2] at hr
      have H : ∀ i, i < 16 → Fits .i64 (atL l i + prI (i : Int) - atL m i) ∧ Fits .i64 (atL l i + prI (i : Int)) := fun i hi => by
        have := prI_b D1' D2' hi
        exact ⟨fits_of (by omega) (by omega), fits_of (by omega) (by omega)⟩
      refine FnOk.pure gRc_ok hr ?_
      simp only [allC_cons, allC_nil, and_true]
      exact ⟨(H 0 (by decide)).1, (H 0 (by decide)).2, (H 1 (by decide)).1, (H 1 (by decide)).2, (H 2 (by decide)).1, (H 2 (by decide)).2, (H 3 (by decide)).1, (H 3 (by decide)).2, (H 4 (by decide)).1, (H 4 (by decide)).2, (H 5 (by decide)).1, (H 5 (by decide)).2, (H 6 (by decide)).1, (H 6 (by decide)).2, (H 7 (by decide)).1, (H 7 (by decide)).2, (H 8 (by decide)).1, (H 8 (by decide)).2, (H 9 (by decide)).1, (H 9 (by decide)).2, (H 10 (by decide)).1, (H 10 (by decide)).2, (H 11 (by decide)).1, (H 11 (by decide)).2, (H 12 (by decide)).1, (H 12 (by decide)).2, (H 13 (by decide)).1, (H 13 (by decide)).2, (H 14 (by decide)).1, (H 14 (by decide)).2, (H 15 (by decide)).1, (H 15 (by decide)).2, D1_L16 ⟨fun i hi => by have := prI_b D1' D2' hi; simp only [sbT]; omega, by rw [e]; have := hx_nonneg 16 (f := atL l) 0 (fun j hj => by rw [Nat.zero_add]; exact (D1'.1 j hj).1); unfold hxL at *; omega⟩⟩
    · simp at h
  · simp at h
noncomputable abbrev gRd : Ctx := gRc.add [(47, smF), (30, adF), (32, sbF)]
theorem gRd_ok : CtxU gRd := gRc_ok.add mixed noGo (by
  intro x hx
  simp only [List.mem_cons, List.not_mem_nil, or_false] at hx
  rcases hx with rfl | rfl | rfl
  · exact acc_sm
  · exact acc_ad
  · exact acc_sb)
end Go.Proofs.Ytghdadkpbofbbaa
