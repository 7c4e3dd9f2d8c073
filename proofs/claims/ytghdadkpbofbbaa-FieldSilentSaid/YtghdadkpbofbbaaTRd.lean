/- Accounts of this seat's functions: lemmas, no statement of their own. No conditions. -/
import Derived.Test.YtghdadkpbofbbaaTRc
namespace Go.Proofs.Ytghdadkpbofbbaa
open Go Go.Vx
/-! ### bytes -/
abbrev deG (b : Nat → Int) (i : Nat) : Int := b (2 * i) + 256 * b (2 * i + 1)
def deT (b : Nat → Int) (i : Nat) : Int := if i = 15 then (b 30 + 256 * b 31).tmod 32768 else b (2 * i) + 256 * b (2 * i + 1)
abbrev deC (b : Nat → Int) : List Prop := [Fits .i64 (b 0 + 256 * b 1), Fits .i64 (256 * b 1), Fits .i64 (b 2 + 256 * b 3), Fits .i64 (256 * b 3), Fits .i64 (b 4 + 256 * b 5), Fits .i64 (256 * b 5), Fits .i64 (b 6 + 256 * b 7), Fits .i64 (256 * b 7), Fits .i64 (b 8 + 256 * b 9), Fits .i64 (256 * b 9), Fits .i64 (b 10 + 256 * b 11), Fits .i64 (256 * b 11), Fits .i64 (b 12 + 256 * b 13), Fits .i64 (256 * b 13), Fits .i64 (b 14 + 256 * b 15), Fits .i64 (256 * b 15), Fits .i64 (b 16 + 256 * b 17), Fits .i64 (256 * b 17), Fits .i64 (b 18 + 256 * b 19), Fits .i64 (256 * b 19), Fits .i64 (b 20 + 256 * b 21), Fits .i64 (256 * b 21), Fits .i64 (b 22 + 256 * b 23), Fits .i64 (256 * b 23), Fits .i64 (b 24 + 256 * b 25), Fits .i64 (256 * b 25), Fits .i64 (b 26 + 256 * b 27), Fits .i64 (256 * b 27), Fits .i64 (b 28 + 256 * b 29), Fits .i64 (256 * b 29), Fits .i64 (b 30 + 256 * b 31), Fits .i64 (256 * b 31)]
theorem de_run (l : List Int) : runF gRb 900 [] 14 [.agg (svF (List.replicate 32 .u8) (atL l) 0)] [] [] = some (.agg (i16 (dgN (hxL (L16 (deT (atL l))) % Q))), [], deC (atL l) ++ [D1 (atL (L16 (deT (atL l))))]) :=
  run_parts (by kernel_rfl) (by kernel_rfl) (by kernel_rfl)
def enB (a : Nat → Int) (j : Nat) : Int := if j % 2 = 0 then scut .u8 ((a (j / 2)).tmod 256) else scut .u8 ((a (j / 2)).tdiv 256)
theorem en_run (l : List Int) : runF gRb 900 [] 13 [.agg (i16 (atL l))] [] [] = some (.agg (svF (List.replicate 32 .u8) (enB (atL l)) 0), [], []) :=
  run_parts (by kernel_rfl) (by kernel_rfl) (by kernel_rfl)
theorem le_hx (f : Nat → Int) : ∀ (n i : Nat), leN (2 * n) f (2 * i) = hx n (deG f) i
  | 0, _ => rfl
  | n + 1, i => by
    have ih := le_hx f n (i + 1)
    show f (2 * i) + 256 * (f (2 * i + 1) + 256 * leN (2 * n) f (2 * (i + 1))) = deG f i + 65536 * hx n (deG f) (i + 1)
    rw [ih]; simp only [deG]; omega
theorem hx_deT {b : Nat → Int} (h : ∀ i, i < 32 → Byte (b i)) : hx 16 (deT b) 0 = leN 32 b 0 % E255 ∧ D1 (deT b) ∧ AllC (deC b) := by
  have hb : ∀ i, i < 32 → 0 ≤ b i ∧ b i < 256 := h
  have hm : ∀ i, i < 16 → 0 ≤ deG b i ∧ deG b i < 65536 := fun i hi => by
    have h1 := hb (2 * i) (by omega)
    have h2 := hb (2 * i + 1) (by omega)
    simp only [deG]; omega
  have e15 : deT b 15 = deG b 15 % 32768 := by
    show (b 30 + 256 * b 31).tmod 32768 = (b 30 + 256 * b 31) % 32768
    have h1 := hb 30 (by decide)
    have h2 := hb 31 (by decide)
    exact Int.tmod_eq_emod_of_nonneg (by omega)
  have en : ∀ i, i < 15 → deT b i = deG b i := fun i hi => by unfold deT; rw [if_neg (by omega)]
  refine ⟨?_, D1_nn fun i hi => ?_, ?_⟩
  · have e1 := hx_split 15 1 (deT b) 0
    have e2 := hx_split 15 1 (deG b) 0
    have e3 : hx 15 (deT b) 0 = hx 15 (deG b) 0 := hx_congr 15 0 fun j hj => by rw [Nat.zero_add]; exact en j hj
    have e4 : leN 32 b 0 = hx 16 (deG b) 0 := le_hx b 16 0
    have b1 := hx_lt 15 (f := deG b) 0 (fun j hj => by rw [Nat.zero_add]; exact hm j (by omega))
    have b2 := hm 15 (by decide)
    have s1 : hx 1 (deT b) (0 + 15) = deT b 15 := by simp [hx]
    have s2 : hx 1 (deG b) (0 + 15) = deG b 15 := by simp [hx]
    rw [s1, e15, e3, p15] at e1
    rw [s2, p15] at e2
    rw [p15] at b1
    rw [e4, show hx 16 (deT b) 0 = hx (15 + 1) (deT b) 0 from rfl, show hx 16 (deG b) 0 = hx (15 + 1) (deG b) 0 from rfl, e1, e2]
    generalize hx 15 (deG b) 0 = A at *
    generalize deG b 15 = x at *
    clear e1 e2 e3 e4 s1 s2 e15 en hm hb h
    simp only [E255]
    omega
  · by_cases e : i = 15
    · subst e; rw [e15]; omega
    · rw [en i (by omega)]; have := hm i hi; omega
  · have H : ∀ i, i < 16 → Fits .i64 (b (2 * i) + 256 * b (2 * i + 1)) ∧ Fits .i64 (256 * b (2 * i + 1)) := fun i hi => by
      have h1 := hb (2 * i) (by omega)
      have h2 := hb (2 * i + 1) (by omega)
      exact ⟨fits_of (by omega) (by omega), fits_of (by omega) (by omega)⟩
    simp only [deC, allC_cons, allC_nil, and_true]
    exact ⟨(H 0 (by decide)).1, (H 0 (by decide)).2, (H 1 (by decide)).1, (H 1 (by decide)).2, (H 2 (by decide)).1, (H 2 (by decide)).2, (H 3 (by decide)).1, (H 3 (by decide)).2, (H 4 (by decide)).1, (H 4 (by decide)).2, (H 5 (by decide)).1, (H 5 (by decide)).2, (H 6 (by decide)).1, (H 6 (by decide)).2, (H 7 (by decide)).1, (H 7 (by decide)).2, (H 8 (by decide)).1, (H 8 (by decide)).2, (H 9 (by decide)).1, (H 9 (by decide)).2, (H 10 (by decide)).1, (H 10 (by decide)).2, (H 11 (by decide)).1, (H 11 (by decide)).2, (H 12 (by decide)).1, (H 12 (by decide)).2, (H 13 (by decide)).1, (H 13 (by decide)).2, (H 14 (by decide)).1, (H 14 (by decide)).2, (H 15 (by decide)).1, (H 15 (by decide)).2⟩
theorem D1_L16 {f : Nat → Int} (h : D1 f) : D1 (atL (L16 f)) := ⟨fun i hi => by rw [atL_listF hi]; exact h.1 i hi, by have := hxL_L16 f; unfold hxL at this; rw [this]; exact h.2⟩
theorem facts8 {n : Nat} {a : Nat → Int} (h : factsL (svF (List.replicate n .u8) a 0)) : ∀ j, j < n → Byte (a j) := fun j hj => by
  have := facts_svF h j .u8 (by rw [List.getElem?_replicate, if_pos hj])
  rw [Nat.zero_add] at this
  exact ⟨this.1, Int.lt_of_le_of_lt this.2 (by decide)⟩
noncomputable def decF3 : SumF := fun args B => match args, B with
  | [.agg xs], [] => match numsAs (List.replicate 32 .u8) xs with
    | some l => some { val := .agg (i16 (dgN (leN 32 (atL l) 0 % E255 % Q))) }
    | none => none
  | _, _ => none
theorem acc_de : Acc gRb 14 decF3 := by
  intro args B out h hC
  unfold decF3 at h
  split at h
  · split at h
    · rename_i l hl
      simp only [Option.some.injEq] at h; subst h
      refine FnOk.imp (args' := [.agg (svF (List.replicate 32 .u8) (atL l) 0)]) ?_ ⟨nums_imp hl, trivial⟩
      refine FnOk.facts fun ⟨f, _⟩ => ?_
      obtain ⟨e1, e2, e3⟩ := hx_deT (facts8 f)
      have hr := de_run l
      rw [hxL_L16, e1] at hr
      exact FnOk.pure gRb_ok hr (by rw [allC_append]; exact ⟨e3, by simp only [allC_cons, allC_nil, and_true]; exact D1_L16 e2⟩)
    · simp at h
  · simp at h
theorem enB_eq {a : Nat → Int} (h : DG a) : ∀ j, j < 32 → enB a j = byteN (hx 16 a 0) j := fun j hj => by
  have hi : j / 2 < 16 := by omega
  have ha := h.1 (j / 2) hi
  have e1 := hx_split (j / 2) (16 - j / 2) a 0
  rw [show j / 2 + (16 - j / 2) = 16 by omega, Nat.zero_add] at e1
  have e2 : hx (16 - j / 2) a (j / 2) = a (j / 2) + 65536 * hx (15 - j / 2) a (j / 2 + 1) := by
    rw [show 16 - j / 2 = (15 - j / 2) + 1 by omega]; rfl
  have b1 := hx_lt (j / 2) (f := a) 0 (fun i hi' => by rw [Nat.zero_add]; exact h.1 i (by omega))
  have hN : hx 16 a 0 / ((65536 ^ (j / 2) : Nat) : Int) = a (j / 2) + 65536 * hx (15 - j / 2) a (j / 2 + 1) := by
    rw [e1, e2, Int.add_mul_ediv_left _ _ (by omega), Int.ediv_eq_zero_of_lt b1.1 b1.2, Int.zero_add]
  have e4 : (65536 ^ (j / 2) : Nat) = 256 ^ (2 * (j / 2)) := by rw [Nat.pow_mul]
  unfold enB byteN scut
  by_cases hp : j % 2 = 0
  · rw [if_pos hp, show j = 2 * (j / 2) by omega, ← e4, show 2 * (j / 2) / 2 = j / 2 by omega, hN, Int.tmod_eq_emod_of_nonneg ha.1]
    show _ % 256 = _
    omega
  · have e5 : (256 ^ j : Nat) = 65536 ^ (j / 2) * 256 := by rw [e4, ← Nat.pow_succ]; congr 1; omega
    rw [if_neg hp, e5, Int.natCast_mul, ← Int.ediv_ediv_of_nonneg (Int.natCast_nonneg _), hN, Int.tdiv_eq_ediv_of_nonneg ha.1]
    show _ % 256 = _ / 256 % 256
    omega
noncomputable def encF3 : SumF := fun args B => match args, B with
  | [.agg xs], [] => match numsAs (List.replicate 16 .i64) xs with
    | some l => some { val := .agg (svF (List.replicate 32 .u8) (byteN (hxL l)) 0), C := [DG (atL l)] }
    | none => none
  | _, _ => none
theorem s32_congr {x y : Nat → Int} (h : ∀ i, i < 32 → x i = y i) : svF (List.replicate 32 IntKind.u8) x 0 = svF (List.replicate 32 IntKind.u8) y 0 := by
  have H : ∀ (ks : List IntKind) (o : Nat), (∀ j, o ≤ j → j < o + ks.length → x j = y j) → svF ks x o = svF ks y o := by
    intro ks
    induction ks with
    | nil => intros; rfl
    | cons k ks ih =>
      intro o hh
      show _ :: _ = _ :: _
      rw [hh o (Nat.le_refl _) (by simp), ih (o + 1) fun j h1 h2 => hh j (by omega) (by simp only [List.length_cons]; omega)]
  exact H _ 0 fun j _ h2 => h j (by simpa using h2)
theorem acc_en : Acc gRb 13 encF3 := by
  intro args B out h hC
  unfold encF3 at h
  split at h
  · split at h
    · rename_i l hl
      simp only [Option.some.injEq] at h; subst h
      have hd : DG (atL l) := hC _ (by simp)
      refine FnOk.imp (args' := [.agg (i16 (atL l))]) ?_ ⟨nums_imp hl, trivial⟩
      have hr := en_run l
      rw [s32_congr (enB_eq hd)] at hr
      exact FnOk.pure gRb_ok hr (by simp [AllC])
    · simp at h
  · simp at h
noncomputable abbrev gRc : Ctx := gRb.add [(14, decF3), (13, encF3)]
theorem gRc_ok : CtxU gRc := gRb_ok.add mixed noGo (by
  intro x hx
  simp only [List.mem_cons, List.not_mem_nil, or_false] at hx
  rcases hx with rfl | rfl
  · exact acc_de
  · exact acc_en)
end Go.Proofs.Ytghdadkpbofbbaa
