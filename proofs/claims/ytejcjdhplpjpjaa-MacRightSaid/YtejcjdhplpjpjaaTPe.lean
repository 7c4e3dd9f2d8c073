/- Accounts of this seat's functions: lemmas, no statement of their own. No conditions. -/
import Derived.Test.YtejcjdhplpjpjaaTPd
namespace Go.Proofs.Ytejcjdhplpjpjaa
open Go Go.Vx
/-! ### the document's Block, Add, Mul, Clamp, Bytes, Sum -/
abbrev mk17 (m : Int) : Prop := (0 : Int) ≤ m ∧ m = m ∧ m.toNat * 8 ≤ 2 ^ 47
abbrev ltC (L : List Int) (n : Nat) : List Prop := [n = L.length, 17 ≤ L.length, L.length ≤ 33, ∀ j, j < L.length → 0 ≤ atL L j ∧ atL L j ≤ 1152921504606846976, valL L < E130 * E130, valL L < ((256 ^ L.length : Nat) : Int)]
theorem ltC_ok {L : List Int} {n : Nat} (hn : L.length = n) (h1 : 17 ≤ n) (h2 : n ≤ 33) (h3 : ∀ j, j < n → 0 ≤ atL L j ∧ atL L j ≤ 1152921504606846976) (h4 : valL L < E130 * E130) (h5 : valL L < ((256 ^ n : Nat) : Int)) : AllC (ltC L n) := by
  subst hn
  simp only [ltC, allC_cons, allC_nil, and_true]
  exact ⟨trivial, h1, h2, h3, h4, h5⟩
def NG (a : Nat → Int) : Prop := (∀ j, j < 17 → Byte (a j)) ∧ leN 17 a 0 < P5
theorem NG_nn {a : Nat → Int} (h : NG a) : 0 ≤ leN 17 a 0 := (leN_nonneg 17 0 fun j hj => by rw [Nat.zero_add]; exact h.1 j hj).1
theorem modP (N : Int) : 0 ≤ N % P5 ∧ N % P5 < P5 := ⟨Int.emod_nonneg _ (by decide), Int.emod_lt_of_pos _ (by decide)⟩
theorem leN_by {N : Int} (h : 0 ≤ N ∧ N < P5) : leN 17 (byteN N) 0 = N := by
  rw [← valL_listF]; exact val_bytes h.1 (Int.lt_trans h.2 (by decide))
theorem NG_by {N : Int} (h : 0 ≤ N ∧ N < P5) : NG (byteN N) := ⟨fun j _ => ⟨Int.emod_nonneg _ (by decide), Int.emod_lt_of_pos _ (by decide)⟩, by rw [leN_by h]; exact h.2⟩
theorem NG_L {a : Nat → Int} : NG (atL (listF 17 a 0)) ↔ NG a := by
  have h : ∀ j, j < 17 → atL (listF 17 a 0) j = a j := fun j hj => atLF hj
  have e : leN 17 (atL (listF 17 a 0)) 0 = leN 17 a 0 := leN_congr 17 0 fun j hj => by rw [Nat.zero_add]; exact h j hj
  unfold NG
  rw [e]
  constructor
  · rintro ⟨h1, h2⟩; exact ⟨fun j hj => by rw [← h j hj]; exact h1 j hj, h2⟩
  · rintro ⟨h1, h2⟩; exact ⟨fun j hj => by rw [h j hj]; exact h1 j hj, h2⟩
theorem mk_ok : mk17 17 := by decide
theorem mk_ok33 : mk17 33 := by decide
/-! Block -/
theorem bl_run (b : Nat → Int) : runF gj 600 [] 44 [.agg (svF (List.replicate 17 .u8) b 0)] [] [] =
    some (num4 (valL (listF 17 b 0) % P5), [], mk17 17 :: ((List.range 17).flatMap (fun j => [j < 17]) ++ ltC (listF 17 b 0) 17)) :=
  run_parts (by kernel_rfl) (by kernel_rfl) (by kernel_rfl)
noncomputable def blF : SumF := fun args B => match args, B with
  | [.agg xs], [] => match numsAs (List.replicate 17 .u8) xs with
    | some l => some { val := num4 (leN 17 (atL l) 0 % P5) }
    | none => none
  | _, _ => none
theorem all_lt (n : Nat) : AllC ((List.range n).flatMap (fun j => [j < n])) := fun c hc => by
  obtain ⟨j, hj, hc⟩ := List.mem_flatMap.1 hc
  have hj := List.mem_range.1 hj
  simp only [List.mem_cons, List.not_mem_nil, or_false] at hc
  rw [hc]; exact hj
theorem factB {a : Nat → Int} {n : Nat} (h : factsL (svF (List.replicate n .u8) a 0)) : ∀ j, j < n → Byte (a j) := fun j hj => by
  have := facts_svF h j .u8 (by rw [List.getElem?_replicate, if_pos hj])
  rw [Nat.zero_add] at this
  exact ⟨this.1, Int.lt_of_le_of_lt this.2 (by decide)⟩
theorem bl_acc : Acc gj 44 blF := by
  intro args B out h hC
  unfold blF at h
  split at h
  · split at h
    · rename_i l hl
      simp only [Option.some.injEq] at h; subst h
      refine FnOk.imp (args' := [.agg (svF (List.replicate 17 .u8) (atL l) 0)]) ?_ ⟨nums_imp hl, trivial⟩
      refine FnOk.facts fun ⟨f, _⟩ => ?_
      have hb := factB f
      have hr := bl_run (atL l)
      have hv : 0 ≤ leN 17 (atL l) 0 ∧ leN 17 (atL l) 0 < ((256 ^ 17 : Nat) : Int) := leN_nonneg 17 0 fun j hj => by rw [Nat.zero_add]; exact hb j hj
      rw [valL_listF] at hr
      refine FnOk.pure gj_ok hr ?_
      rw [allC_cons, allC_append]
      refine ⟨mk_ok, all_lt 17, ltC_ok (listF_length _ _ _) (by decide) (by decide) (fun j hj => ?_) ?_ ?_⟩
      · rw [atLF hj]; have := hb j hj; unfold Byte at this; omega
      · rw [valL_listF]; exact Int.lt_trans hv.2 (by decide)
      · rw [valL_listF]; exact hv.2
    · simp at h
  · simp at h
/-! Add -/
theorem ad_run (a b : Nat → Int) : runF gj 600 [] 43 [.agg (svF (List.replicate 17 .i64) a 0), .agg (svF (List.replicate 17 .i64) b 0)] [] [] =
    some (num4 (valL (listF 17 (fun j => a j + b j) 0) % P5), [], mk17 17 :: ((List.range 17).flatMap (fun j => [j < 17, Fits .i64 (a j + b j)]) ++ ltC (listF 17 (fun j => a j + b j) 0) 17)) :=
  run_parts (by kernel_rfl) (by kernel_rfl) (by kernel_rfl)
noncomputable def adF4 : SumF := fun args B => match args, B with
  | [.agg xs, .agg ys], [] => match numsAs (List.replicate 17 .i64) xs, numsAs (List.replicate 17 .i64) ys with
    | some l, some m => some { val := num4 ((leN 17 (atL l) 0 + leN 17 (atL m) 0) % P5), C := [NG (atL l), NG (atL m)] }
    | _, _ => none
  | _, _ => none
theorem ad_acc : Acc gj 43 adF4 := by
  intro args B out h hC
  unfold adF4 at h
  split at h
  · split at h
    · rename_i l m hl hm
      simp only [Option.some.injEq] at h; subst h
      have n1 : NG (atL l) := hC _ (by simp)
      have n2 : NG (atL m) := hC _ (by simp)
      refine FnOk.imp (args' := [.agg (svF (List.replicate 17 .i64) (atL l) 0), .agg (svF (List.replicate 17 .i64) (atL m) 0)]) ?_ ⟨nums_imp hl, nums_imp hm, trivial⟩
      have hr := ad_run (atL l) (atL m)
      have hv : leN 17 (fun j => atL l j + atL m j) 0 < 2 * P5 := by
        rw [leN_plus]; have := n1.2; have := n2.2; omega
      rw [valL_listF] at hr
      have e := leN_plus 17 (atL l) (atL m) 0
      refine FnOk.val (FnOk.pure gj_ok hr ?_) (fun _ _ _ _ h => by rw [e] at h; exact h)
      rw [allC_cons, allC_append]
      refine ⟨mk_ok, fun c hc => ?_, ltC_ok (listF_length _ _ _) (by decide) (by decide) (fun j hj => ?_) ?_ ?_⟩
      · obtain ⟨j, hj, hc⟩ := List.mem_flatMap.1 hc
        have hj := List.mem_range.1 hj
        have h1 := n1.1 j hj
        have h2 := n2.1 j hj
        unfold Byte at h1 h2
        simp only [List.mem_cons, List.not_mem_nil, or_false] at hc
        rcases hc with rfl | rfl
        · exact hj
        · exact fits_of (by omega) (by omega)
      · rw [atLF hj]
        have h1 := n1.1 j hj
        have h2 := n2.1 j hj
        unfold Byte at h1 h2
        omega
      · rw [valL_listF]; exact Int.lt_trans hv (by decide)
      · rw [valL_listF]; exact Int.lt_trans hv (by decide)
    · simp at h
  · simp at h
/-! Mul -/
abbrev mvL (a b : Nat → Int) : List Int := listF 33 (mvC a b 17) 0
def mvS (a b : Nat → Int) : List Prop := (List.range 17).flatMap fun i => (List.range 17).flatMap fun k => [i + k < 33, Fits .i64 (mvC a b i (i + k) + a i * b k), Fits .i64 (a i * b k), i + k < 33]
set_option maxRecDepth 20000 in
theorem mv_run (a b : Nat → Int) : runF gj 3000 [] 42 [.agg (svF (List.replicate 17 .i64) a 0), .agg (svF (List.replicate 17 .i64) b 0)] [] [] =
    some (num4 (valL (mvL a b) % P5), [], mk17 33 :: (mvS a b ++ ltC (mvL a b) 33)) :=
  run_parts (by kernel_rfl) (by kernel_rfl) (by kernel_rfl)
noncomputable def mvF : SumF := fun args B => match args, B with
  | [.agg xs, .agg ys], [] => match numsAs (List.replicate 17 .i64) xs, numsAs (List.replicate 17 .i64) ys with
    | some l, some m => some { val := num4 (leN 17 (atL l) 0 * leN 17 (atL m) 0 % P5), C := [NG (atL l), NG (atL m)] }
    | _, _ => none
  | _, _ => none
theorem mv_acc : Acc gj 42 mvF := by
  intro args B out h hC
  unfold mvF at h
  split at h
  · split at h
    · rename_i l m hl hm
      simp only [Option.some.injEq] at h; subst h
      have n1 : NG (atL l) := hC _ (by simp)
      have n2 : NG (atL m) := hC _ (by simp)
      refine FnOk.imp (args' := [.agg (svF (List.replicate 17 .i64) (atL l) 0), .agg (svF (List.replicate 17 .i64) (atL m) 0)]) ?_ ⟨nums_imp hl, nums_imp hm, trivial⟩
      have hr := mv_run (atL l) (atL m)
      have b0 := mv_bound n1.1 n2.1
      have z1 := NG_nn n1
      have z2 := NG_nn n2
      have hv : leN 33 (mvC (atL l) (atL m) 17) 0 < E130 * E130 := by
        rw [leN_prod]
        refine Int.lt_of_le_of_lt (Int.mul_le_mul (c := P5) (d := P5) (Int.le_of_lt n1.2) (Int.le_of_lt n2.2) z2 (by decide)) (by decide)
      rw [valL_listF] at hr
      have e := leN_prod (atL l) (atL m)
      refine FnOk.val (FnOk.pure gj_ok hr ?_) (fun _ _ _ _ h => by rw [e] at h; exact h)
      rw [allC_cons, allC_append]
      refine ⟨mk_ok33, fun c hc => ?_, ltC_ok (listF_length _ _ _) (by decide) (by decide) (fun j hj => ?_) ?_ ?_⟩
      · unfold mvS at hc
        obtain ⟨i, hi, hc⟩ := List.mem_flatMap.1 hc
        obtain ⟨k, hk, hc⟩ := List.mem_flatMap.1 hc
        have hi := List.mem_range.1 hi
        have hk := List.mem_range.1 hk
        have h1 := b0 i (by omega) (i + k)
        have h2 := mvR_bound n1.1 n2.1 hi (i + k)
        rw [mv_in (by omega) (by omega), show i + k - i = k by omega] at h2
        simp only [List.mem_cons, List.not_mem_nil, or_false] at hc
        rcases hc with rfl | rfl | rfl | rfl
        · omega
        · exact fits_of (by omega) (by omega)
        · exact fits_of (by omega) (by omega)
        · omega
      · rw [atLF hj]
        have := b0 17 (by omega) j
        omega
      · rw [valL_listF]; exact hv
      · rw [valL_listF]; exact Int.lt_trans hv (by decide)
    · simp at h
  · simp at h
/-! Clamp -/
def cpD (f : Nat → Int) (j : Nat) : Int := bif Nat.beq j 16 then 0 else bif Nat.beq (j % 4) 3 then (f j).tmod 16 else bif (Nat.beq (j % 4) 0).and (Nat.blt 0 j) then f j - (f j).tmod 4 else f j
theorem cp_run (f : Nat → Int) : runF gj 900 [] 41 [.agg (svF (List.replicate 16 .u8) f 0)] [] [] =
    some (.agg (svF (List.replicate 16 .i64) (cpD f) 0 ++ [.lit .i64 0]), [], [Fits .i64 (f 4 - (f 4).tmod 4), Fits .i64 (f 8 - (f 8).tmod 4), Fits .i64 (f 12 - (f 12).tmod 4)]) :=
  run_parts (by kernel_rfl) (by kernel_rfl) (by kernel_rfl)
noncomputable def cpF : SumF := fun args B => match args, B with
  | [.agg xs], [] => match numsAs (List.replicate 16 .u8) xs with
    | some l => some { val := .agg (svF (List.replicate 17 .i64) (clD (atL l)) 0) }
    | none => none
  | _, _ => none
theorem svF_cg (ks : List IntKind) : ∀ {a b : Nat → Int} (i : Nat), (∀ j, j < ks.length → a (i + j) = b (i + j)) → svF ks a i = svF ks b i := by
  intro a b i h
  exact svF_cong h
theorem cpD_eq {f : Nat → Int} (h : ∀ j, j < 16 → Byte (f j)) : ∀ j, j < 17 → cpD f j = clD f j := fun j hj => by
  unfold cpD clD
  by_cases e : j = 16
  · subst e; rfl
  · have hb := h j (by omega)
    rw [show Nat.beq j 16 = false from by cases q : Nat.beq j 16 with | false => rfl | true => exact absurd (Nat.eq_of_beq_eq_true q) e, if_neg e, Int.tmod_eq_emod_of_nonneg hb.1, Int.tmod_eq_emod_of_nonneg hb.1]
    have : ∀ k : Fin 16, (bif Nat.beq (k.val % 4) 3 then (1 : Nat) else bif (Nat.beq (k.val % 4) 0).and (Nat.blt 0 k.val) then 2 else 3) = (if k.val % 4 = 3 then 1 else if k.val % 4 = 0 ∧ 0 < k.val then 2 else 3) := by decide
    have t := this ⟨j, by omega⟩
    simp only at t
    cases q1 : Nat.beq (j % 4) 3 <;> cases q2 : (Nat.beq (j % 4) 0).and (Nat.blt 0 j) <;> rw [q1, q2] at t <;> split at t <;> simp_all
theorem cp_acc : Acc gj 41 cpF := by
  intro args B out h hC
  unfold cpF at h
  split at h
  · split at h
    · rename_i l hl
      simp only [Option.some.injEq] at h; subst h
      refine FnOk.imp (args' := [.agg (svF (List.replicate 16 .u8) (atL l) 0)]) ?_ ⟨nums_imp hl, trivial⟩
      refine FnOk.facts fun ⟨f, _⟩ => ?_
      have hb := factB f
      have hr := cp_run (atL l)
      have e : svF (List.replicate 17 .i64) (clD (atL l)) 0 = normL (svF (List.replicate 16 .i64) (cpD (atL l)) 0 ++ [.lit .i64 0]) := by
        have : svF (List.replicate 17 .i64) (clD (atL l)) 0 = svF (List.replicate 17 .i64) (cpD (atL l)) 0 := svF_cg _ 0 fun j hj => by rw [Nat.zero_add]; exact (cpD_eq hb j (by simpa using hj)).symm
        rw [this]; rfl
      have F : ∀ j, j < 16 → Fits .i64 (atL l j - (atL l j).tmod 4) := fun j hj => by
        have h1 := hb j hj
        rw [Int.tmod_eq_emod_of_nonneg h1.1]
        unfold Byte at h1
        exact fits_of (by omega) (by omega)
      refine FnOk.val (FnOk.pure gj_ok hr (by simp only [allC_cons, allC_nil, and_true]; exact ⟨F 4 (by decide), F 8 (by decide), F 12 (by decide)⟩)) (fun _ _ _ _ h => ?_)
      have h2 := denV_norm h
      simp only [normC] at h2
      rw [← e] at h2
      exact h2
    · simp at h
  · simp at h
end Go.Proofs.Ytejcjdhplpjpjaa
