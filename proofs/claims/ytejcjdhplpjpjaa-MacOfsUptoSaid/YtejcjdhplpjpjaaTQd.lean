/- Accounts of this seat's functions: lemmas, no statement of their own. No conditions. -/
import Derived.Test.YtejcjdhplpjpjaaTPd
namespace Go.Proofs.Ytejcjdhplpjpjaa
open Go Go.Vx
/-! ### the document's Block, Add, Mul, Clamp, Bytes, Sum -/
abbrev mk17 (m : Int) : Prop := (0 : Int) ≤ m ∧ m = m ∧ m.toNat * 8 ≤ 2 ^ 47
abbrev ltC (L : List Int) (n : Nat) : List Prop := [n = L.length, 17 ≤ L.length, L.length ≤ 33, ∀ j, j < L.length → 0 ≤ atL L j ∧ atL L j ≤ 1152921504606846976, valL L < E130 * E130, valL L < ((256 ^ L.length : Nat) : Int)]
theorem ltC_ok {L : List Int} {n : Nat} (hn : L.length = n) (h1 : 17 ≤ n) (h2 : n ≤ 33) (h3 : ∀ j, j < n → 0 ≤ atL L j ∧ atL L j ≤ 1152921504606846976) (h4 : valL L < E130 * E130) (h5 : valL L < ((256 ^ n : Nat) : Int)) : AllC (ltC L n) := by
  subst hn
  simp only [ltC, allC_cons, allC_nil, and_true]
  exact ⟨trivial, h1, h2, h3, h4, h5⟩
def NG (a : Nat → Int) : Prop := (∀ j, j < 17 → Byte (a j)) ∧ leN 17 a 0 < P5
theorem NG_nn {a : Nat → Int} (h : NG a) : 0 ≤ leN 17 a 0 := (leN_nonneg 17 0 fun j hj => by rw [Nat.zero_add]; exact h.1 j hj).1
theorem modP (N : Int) : 0 ≤ N % P5 ∧ N % P5 < P5 := ⟨Int.emod_nonneg _ (by decide), Int.emod_lt_of_pos _ (by decide)⟩
theorem leN_by {N : Int} (h : 0 ≤ N ∧ N < P5) : leN 17 (byteN N) 0 = N := by
  rw [← valL_listF]; exact val_bytes h.1 (Int.lt_trans h.2 (by decide))
theorem NG_by {N : Int} (h : 0 ≤ N ∧ N < P5) : NG (byteN N) := ⟨fun j _ => ⟨Int.emod_nonneg _ (by decide), Int.emod_lt_of_pos _ (by decide)⟩, by rw [leN_by h]; exact h.2⟩
theorem NG_L {a : Nat → Int} : NG (atL (listF 17 a 0)) ↔ NG a := by
  have h : ∀ j, j < 17 → atL (listF 17 a 0) j = a j := fun j hj => atLF hj
  have e : leN 17 (atL (listF 17 a 0)) 0 = leN 17 a 0 := leN_congr 17 0 fun j hj => by rw [Nat.zero_add]; exact h j hj
  unfold NG
  rw [e]
  constructor
  · rintro ⟨h1, h2⟩; exact ⟨fun j hj => by rw [← h j hj]; exact h1 j hj, h2⟩
  · rintro ⟨h1, h2⟩; exact ⟨fun j hj => by rw [h j hj]; exact h1 j hj, h2⟩
theorem mk_ok : mk17 17 := by decide
theorem mk_ok33 : mk17 33 := by decide
/-! Block -/
theorem bl_run (b : Nat → Int) : runF gj 600 [] 44 [.agg (svF (List.replicate 17 .u8) b 0)] [] [] =
    some (num4 (valL (listF 17 b 0) % P5), [], mk17 17 :: ((List.range 17).flatMap (fun j => [j < 17]) ++ ltC (listF 17 b 0) 17)) :=
  run_parts (by kernel_rfl) (by kernel_rfl) (by kernel_rfl)
noncomputable def blF : SumF := fun args B => match args, B with
  | [.agg xs], [] => match numsAs (List.replicate 17 .u8) xs with
    | some l => some { val := num4 (leN 17 (atL l) 0 % P5) }
    | none => none
  | _, _ => none
theorem all_lt (n : Nat) : AllC ((List.range n).flatMap (fun j => [j < n])) := fun c hc => by
  obtain ⟨j, hj, hc⟩ := List.mem_flatMap.1 hc
  have hj := List.mem_range.1 hj
  simp only [List.mem_cons, List.not_mem_nil, or_false] at hc
  rw [hc]; exact hj
theorem factB {a : Nat → Int} {n : Nat} (h : factsL (svF (List.replicate n .u8) a 0)) : ∀ j, j < n → Byte (a j) := fun j hj => by
  have := facts_svF h j .u8 (by rw [List.getElem?_replicate, if_pos hj])
  rw [Nat.zero_add] at this
  exact ⟨this.1, Int.lt_of_le_of_lt this.2 (by decide)⟩
theorem bl_acc : Acc gj 44 blF := by
  intro args B out h hC
  unfold blF at h
  split at h
  · split at h
    · rename_i l hl
      simp only [Option.some.injEq] at h; subst h
      refine FnOk.imp (args' := [.agg (svF (List.replicate 17 .u8) (atL l) 0)]) ?_ ⟨nums_imp hl, trivial⟩
      refine FnOk.facts fun ⟨f, _⟩ => ?_
      have hb := factB f
      have hr := bl_run (atL l)
      have hv : 0 ≤ leN 17 (atL l) 0 ∧ leN 17 (atL l) 0 < ((256 ^ 17 : Nat) : Int) := leN_nonneg 17 0 fun j hj => by rw [Nat.zero_add]; exact hb j hj
      rw [valL_listF] at hr
      refine FnOk.pure gj_ok hr ?_
      rw [allC_cons, allC_append]
      refine ⟨mk_ok, all_lt 17, ltC_ok (listF_length _ _ _) (by decide) (by decide) (fun j hj => ?_) ?_ ?_⟩
      · rw [atLF hj]; have := hb j hj; unfold Byte at this; omega
      · rw [valL_listF]; exact Int.lt_trans hv.2 (by decide)
      · rw [valL_listF]; exact hv.2
    · simp at h
  · simp at h
/-! Add -/
theorem ad_run (a b : Nat → Int) : runF gj 600 [] 43 [.agg (svF (List.replicate 17 .i64) a 0), .agg (svF (List.replicate 17 .i64) b 0)] [] [] =
    some (num4 (valL (listF 17 (fun j => a j + b j) 0) % P5), [], mk17 17 :: ((List.range 17).flatMap (fun j => [j < 17, Fits .i64 (a j + b j)]) ++ ltC (listF 17 (fun j => a j + b j) 0) 17)) :=
  run_parts (by kernel_rfl) (by kernel_rfl) (by kernel_rfl)
noncomputable def adF4 : SumF := fun args B => match args, B with
  | [.agg xs, .agg ys], [] => match numsAs (List.replicate 17 .i64) xs, numsAs (List.replicate 17 .i64) ys with
    | some l, some m => some { val := num4 ((leN 17 (atL l) 0 + leN 17 (atL m) 0) % P5), C := [NG (atL l), NG (atL m)] }
    | _, _ => none
  | _, _ => none
theorem ad_acc : Acc gj 43 adF4 := by
  intro args B out h hC
  unfold adF4 at h
  split at h
  · split at h
    · rename_i l m hl hm
      simp only [Option.some.injEq] at h; subst h
      have n1 : NG (atL l) := hC _ (by simp)
      have n2 : NG (atL m) := hC _ (by simp)
      refine FnOk.imp (args' := [.agg (svF (List.replicate 17 .i64) (atL l) 0), .agg (svF (List.replicate 17 .i64) (atL m) 0)]) ?_ ⟨nums_imp hl, nums_imp hm, trivial⟩
      have hr := ad_run (atL l) (atL m)
      have hv : leN 17 (fun j => atL l j + atL m j) 0 < 2 * P5 := by
        rw [leN_plus]; have := n1.2; have := n2.2; omega
      rw [valL_listF] at hr
      have e := leN_plus 17 (atL l) (atL m) 0
      refine FnOk.val (FnOk.pure gj_ok hr ?_) (fun _ _ _ _ h => by rw [e] at h; exact h)
      rw [allC_cons, allC_append]
      refine ⟨mk_ok, fun c hc => ?_, ltC_ok (listF_length _ _ _) (by decide) (by decide) (fun j hj => ?_) ?_ ?_⟩
      · obtain ⟨j, hj, hc⟩ := List.mem_flatMap.1 hc
        have hj := List.mem_range.1 hj
        have h1 := n1.1 j hj
        have h2 := n2.1 j hj
        unfold Byte at h1 h2
        simp only [List.mem_cons, List.not_mem_nil, or_false] at hc
        rcases hc with rfl | rfl
        · exact hj
        · exact fits_of (by omega) (by omega)
      · rw [atLF hj]
        have h1 := n1.1 j hj
        have h2 := n2.1 j hj
        unfold Byte at h1 h2
        omega
      · rw [valL_listF]; exact Int.lt_trans hv (by decide)
      · rw [valL_listF]; exact Int.lt_trans hv (by decide)
    · simp at h
  · simp at h
/-! Mul -/
abbrev mvL (a b : Nat → Int) : List Int := listF 33 (mvC a b 17) 0
def mvS (a b : Nat → Int) : List Prop := (List.range 17).flatMap fun i => (List.range 17).flatMap fun k => [i + k < 33, Fits .i64 (mvC a b i (i + k) + a i * b k), Fits .i64 (a i * b k), i + k < 33]
set_option maxRecDepth 20000 in
theorem mv_run (a b : Nat → Int) : runF gj 3000 [] 42 [.agg (svF (List.replicate 17 .i64) a 0), .agg (svF (List.replicate 17 .i64) b 0)] [] [] =
    some (num4 (valL (mvL a b) % P5), [], mk17 33 :: (mvS a b ++ ltC (mvL a b) 33)) :=
  run_parts (by kernel_rfl) (by kernel_rfl) (by kernel_rfl)
noncomputable def mvF : SumF := fun args B => match args, B with
  | [.agg xs, .agg ys], [] => match numsAs (List.replicate 17 .i64) xs, numsAs (List.replicate 17 .i64) ys with
    | some l, some m => some { val := num4 (leN 17 (atL l) 0 * leN 17 (atL m) 0 % P5), C := [NG (atL l), NG (atL m)] }
    | _, _ => none
  | _, _ => none
theorem mv_acc : Acc gj 42 mvF := by
  intro args B out h hC
  unfold mvF at h
  split at h
  · split at h
    · rename_i l m hl hm
      simp only [Option.some.injEq] at h; subst h
      have n1 : NG (atL l) := hC _ (by simp)
      have n2 : NG (atL m) := hC _ (by simp)
      refine FnOk.imp (args' := [.agg (svF (List.replicate 17 .i64) (atL l) 0), .agg (svF (List.replicate 17 .i64) (atL m) 0)]) ?_ ⟨nums_imp hl, nums_imp hm, trivial⟩
      have hr := mv_run (atL l) (atL m)
      have b0 := mv_bound n1.1 n2.1
      have z1 := NG_nn n1
      have z2 := NG_nn n2
      have hv : leN 33 (mvC (atL l) (atL m) 17) 0 < E130 * E130 := by
        rw [leN_prod]
        refine Int.lt_of_le_of_lt (Int.mul_le_mul (c := P5) (d := P5) (Int.le_of_lt n1.2) (Int.le_of_lt n2.2) z2 (by decide)) (by decide)
      rw [valL_listF] at hr
      have e := leN_prod (atL l) (atL m)
      refine FnOk.val (FnOk.pure gj_ok hr ?_) (fun _ _ _ _ h => by rw [e] at h; exact h)
      rw [allC_cons, allC_append]
      refine ⟨mk_ok33, fun c hc => ?_, ltC_ok (listF_length _ _ _) (by decide) (by decide) (fun j hj => ?_) ?_ ?_⟩
      · unfold mvS at hc
        obtain ⟨i, hi, hc⟩ := List.mem_flatMap.1 hc
        obtain ⟨k, hk, hc⟩ := List.mem_flatMap.1 hc
        have hi := List.mem_range.1 hi
        have hk := List.mem_range.1 hk
        have h1 := b0 i (by omega) (i + k)
        have h2 := mvR_bound n1.1 n2.1 hi (i + k)
        rw [mv_in (by omega) (by omega), show i + k - i = k by omega] at h2
        simp only [List.mem_cons, List.not_mem_nil, or_false] at hc
        rcases hc with rfl | rfl | rfl | rfl
        · omega
        · exact fits_of (by omega) (by omega)
        · exact fits_of (by omega) (by omega)
        · omega
      · rw [atLF hj]
        have := b0 17 (by omega) j
        omega
      · rw [valL_listF]; exact hv
      · rw [valL_listF]; exact Int.lt_trans hv (by decide)
    · simp at h
  · simp at h
/-! Clamp -/
def cpD (f : Nat → Int) (j : Nat) : Int := bif Nat.beq j 16 then 0 else bif Nat.beq (j % 4) 3 then (f j).tmod 16 else bif (Nat.beq (j % 4) 0).and (Nat.blt 0 j) then f j - (f j).tmod 4 else f j
theorem cp_run (f : Nat → Int) : runF gj 900 [] 41 [.agg (svF (List.replicate 16 .u8) f 0)] [] [] =
    some (.agg (svF (List.replicate 16 .i64) (cpD f) 0 ++ [.lit .i64 0]), [], [Fits .i64 (f 4 - (f 4).tmod 4), Fits .i64 (f 8 - (f 8).tmod 4), Fits .i64 (f 12 - (f 12).tmod 4)]) :=
  run_parts (by kernel_rfl) (by kernel_rfl) (by kernel_rfl)
noncomputable def cpF : SumF := fun args B => match args, B with
  | [.agg xs], [] => match numsAs (List.replicate 16 .u8) xs with
    | some l => some { val := .agg (svF (List.replicate 17 .i64) (clD (atL l)) 0) }
    | none => none
  | _, _ => none
theorem svF_cg (ks : List IntKind) : ∀ {a b : Nat → Int} (i : Nat), (∀ j, j < ks.length → a (i + j) = b (i + j)) → svF ks a i = svF ks b i := by
  intro a b i h
  exact svF_cong h
theorem cpD_eq {f : Nat → Int} (h : ∀ j, j < 16 → Byte (f j)) : ∀ j, j < 17 → cpD f j = clD f j := fun j hj => by
  unfold cpD clD
  by_cases e : j = 16
  · subst e; rfl
  · have hb := h j (by omega)
    rw [show Nat.beq j 16 = false from by cases q : Nat.beq j 16 with | false => rfl | true => exact absurd (Nat.eq_of_beq_eq_true q) e, if_neg e, Int.tmod_eq_emod_of_nonneg hb.1, Int.tmod_eq_emod_of_nonneg hb.1]
    have : ∀ k : Fin 16, (bif Nat.beq (k.val % 4) 3 then (1 : Nat) else bif (Nat.beq (k.val % 4) 0).and (Nat.blt 0 k.val) then 2 else 3) = (if k.val % 4 = 3 then 1 else if k.val % 4 = 0 ∧ 0 < k.val then 2 else 3) := by decide
    have t := this ⟨j, by omega⟩
    simp only at t
    cases q1 : Nat.beq (j % 4) 3 <;> cases q2 : (Nat.beq (j % 4) 0).and (Nat.blt 0 j) <;> rw [q1, q2] at t <;> split at t <;> simp_all
theorem cp_acc : Acc gj 41 cpF := by
  intro args B out h hC
  unfold cpF at h
  split at h
  · split at h
    · rename_i l hl
      simp only [Option.some.injEq] at h; subst h
      refine FnOk.imp (args' := [.agg (svF (List.replicate 16 .u8) (atL l) 0)]) ?_ ⟨nums_imp hl, trivial⟩
      refine FnOk.facts fun ⟨f, _⟩ => ?_
      have hb := factB f
      have hr := cp_run (atL l)
      have e : svF (List.replicate 17 .i64) (clD (atL l)) 0 = normL (svF (List.replicate 16 .i64) (cpD (atL l)) 0 ++ [.lit .i64 0]) := by
        have : svF (List.replicate 17 .i64) (clD (atL l)) 0 = svF (List.replicate 17 .i64) (cpD (atL l)) 0 := svF_cg _ 0 fun j hj => by rw [Nat.zero_add]; exact (cpD_eq hb j (by simpa using hj)).symm
        rw [this]; rfl
      have F : ∀ j, j < 16 → Fits .i64 (atL l j - (atL l j).tmod 4) := fun j hj => by
        have h1 := hb j hj
        rw [Int.tmod_eq_emod_of_nonneg h1.1]
        unfold Byte at h1
        exact fits_of (by omega) (by omega)
      refine FnOk.val (FnOk.pure gj_ok hr (by simp only [allC_cons, allC_nil, and_true]; exact ⟨F 4 (by decide), F 8 (by decide), F 12 (by decide)⟩)) (fun _ _ _ _ h => ?_)
      have h2 := denV_norm h
      simp only [normC] at h2
      rw [← e] at h2
      exact h2
    · simp at h
  · simp at h
end Go.Proofs.Ytejcjdhplpjpjaa

namespace Go.Proofs.Ytejcjdhplpjpjaa
open Go Go.Vx
/-! Bytes, Sum -/
theorem zs_run (a s : Nat → Int) : runF gj 900 [] 45 [.agg (svF (List.replicate 17 .i64) a 0), .agg (svF (List.replicate 16 .u8) s 0)] [] [] =
    some (.agg (svF (List.replicate 16 .u8) (dsB a s) 0), [], dfL a s 16 0) :=
  run_parts (by kernel_rfl) (by kernel_rfl) (by kernel_rfl)
noncomputable def zsF : SumF := fun args B => match args, B with
  | [.agg xs, .agg ys], [] => match numsAs (List.replicate 17 .i64) xs, numsAs (List.replicate 16 .u8) ys with
    | some l, some m => some { val := .agg (svF (List.replicate 16 .u8) (byteN (leN 16 (atL l) 0 + leN 16 (atL m) 0)) 0), C := [NG (atL l)] }
    | _, _ => none
  | _, _ => none
theorem zs_acc : Acc gj 45 zsF := by
  intro args B out h hC
  unfold zsF at h
  split at h
  · split at h
    · rename_i l m hl hm
      simp only [Option.some.injEq] at h; subst h
      have n1 : NG (atL l) := hC _ (by simp)
      refine FnOk.imp (args' := [.agg (svF (List.replicate 17 .i64) (atL l) 0), .agg (svF (List.replicate 16 .u8) (atL m) 0)]) ?_ ⟨nums_imp hl, nums_imp hm, trivial⟩
      refine FnOk.facts fun ⟨_, f, _⟩ => ?_
      have hb := factB f
      have ha : ∀ j, j < 16 → Byte (atL l j) := fun j hj => n1.1 j (by omega)
      have hr := zs_run (atL l) (atL m)
      have e : svF (List.replicate 16 .u8) (dsB (atL l) (atL m)) 0 = svF (List.replicate 16 .u8) (byteN (leN 16 (atL l) 0 + leN 16 (atL m) 0)) 0 := svF_cg _ 0 fun j hj => by
        rw [Nat.zero_add]; rw [List.length_replicate] at hj; exact dsB_eq ha hb hj
      rw [e] at hr
      exact FnOk.val (FnOk.pure gj_ok hr (dfL_ok ha hb 16 0 (by omega))) (fun _ _ _ _ h => h)
    · simp at h
  · simp at h
noncomputable abbrev gk : Ctx := gj.add [(44, blF), (43, adF4), (42, mvF), (41, cpF), (45, zsF)]
theorem gk_ok : CtxU gk := gj_ok.add mixed noGo (by
  intro x hx
  simp only [List.mem_cons, List.not_mem_nil, or_false] at hx
  rcases hx with rfl | rfl | rfl | rfl | rfl
  · exact bl_acc
  · exact ad_acc
  · exact mv_acc
  · exact cp_acc
  · exact zs_acc)
end Go.Proofs.Ytejcjdhplpjpjaa

namespace Go.Proofs.Ytejcjdhplpjpjaa
open Go Go.Vx
/-! ### a Mac: its numbers are by (5), sum (5), mask (16), block (16), held -/
abbrev macK : List IntKind := List.replicate 5 .u64 ++ List.replicate 5 .u64 ++ List.replicate 16 .u8 ++ List.replicate 16 .u8 ++ [.i64]
abbrev nilR : SV := .raw (.pointer none)
noncomputable abbrev macV (r : SV) (a : Nat → Int) : Body := .cells (r :: svF macK a 0)
/-- a sum and a block more -/
def plusN (by' sm b : List Int) : Nat → Int := mulN (L5 (addN sm (L5 (blockN b)))) by'
abbrev byL (a : Nat → Int) : List Int := L5 a
abbrev smL (a : Nat → Int) : List Int := L5 (fun j => a (5 + j))
theorem plus_0 (a x b : Nat → Int) : runF gp 200 [] 39 [.ptr 0 0, .agg (svF (List.replicate 5 .u64) x 0), .agg (svF (List.replicate 17 .u8) b 0)] [macV nilR a] [] =
    some (.agg (svF (List.replicate 5 .u64) (plusN (byL a) (L5 x) (listF 17 b 0)) 0), [some (macV nilR a)], []) :=
  run_parts (by kernel_rfl) (by kernel_rfl) (by kernel_rfl)
theorem plus_1 (a x b : Nat → Int) (w : List (List Int)) : runF gp 200 [] 39 [.ptr 0 0, .agg (svF (List.replicate 5 .u64) x 0), .agg (svF (List.replicate 17 .u8) b 0)] [macV (.ptr 1 0) a, .log w] [] =
    some (.agg (svF (List.replicate 5 .u64) (plusN (byL a) (L5 x) (listF 17 b 0)) 0), [some (macV (.ptr 1 0) a), some (.log ((w ++ [[3, 11]]) ++ [[3, 12]]))], [(w ++ [[3, 11]]).length < 1099511627776, w.length < 1099511627776]) :=
  run_parts (by kernel_rfl) (by kernel_rfl) (by kernel_rfl)
/-- another sum -/
def setS (v a : Nat → Int) (j : Nat) : Int := bif (Nat.ble 5 j).and (Nat.blt j 10) then v (j - 5) else a j
abbrev tkS (src : List Int) : List Int := listF 16 (fun j => if 0 ≤ j ∧ j < 0 + src.length then src.getD (j - 0) 0 else 0) 0 ++ [1]
abbrev tkC (n : Nat) : List Prop := [Fits .i64 ((min n (16 - 0) : Nat) : Int), 0 + n ≤ 17]
theorem take_r0 (a : Nat → Int) (vs : List Int) : runF gp 300 [] 38 [.ptr 0 0, .rop (.agg (roiL .u8 vs 16 0))] [macV nilR a] [] =
    some (.tuple [], [some (macV nilR (setS (plusN (byL a) (smL a) (tkS ((((listF 16 (atL vs) 0).drop 0).take 16).take 16))) a))], [Fits .i64 ((min ((((listF 16 (atL vs) 0).drop 0).take 16)).length 16 : Nat) : Int), 0 + ((((listF 16 (atL vs) 0).drop 0).take 16).take 16).length ≤ 17]) :=
  run_parts (by kernel_rfl) (by kernel_rfl) (by kernel_rfl)
theorem take_b0 (a : Nat → Int) : runF gp 300 [] 38 [.ptr 0 0, .ptr 0 27] [macV nilR a] [] =
    some (.tuple [], [some (macV nilR (setS (plusN (byL a) (smL a) (listF 16 (fun j => a (26 + j)) 0 ++ [1])) a))], []) :=
  run_parts (by kernel_rfl) (by kernel_rfl) (by kernel_rfl)
theorem take_b1 (a : Nat → Int) (w : List (List Int)) : runF gp 300 [] 38 [.ptr 0 0, .ptr 0 27] [macV (.ptr 1 0) a, .log w] [] =
    some (.tuple [], [some (macV (.ptr 1 0) (setS (plusN (byL a) (smL a) (listF 16 (fun j => a (26 + j)) 0 ++ [1])) a)), some (.log ((w ++ [[3, 11]]) ++ [[3, 12]]))], [(w ++ [[3, 11]]).length < 1099511627776, w.length < 1099511627776]) :=
  run_parts (by kernel_rfl) (by kernel_rfl) (by kernel_rfl)
theorem take_l1 (a : Nat → Int) (m o : Nat) (l : List Int) (w : List (List Int)) : runF gp 300 [] 38 [.ptr 0 0, .sptr 1 m o 1 0] [macV (.ptr 2 0) a, .ints .u8 l, .log w] [] =
    some (.tuple [], [some (macV (.ptr 2 0) (setS (plusN (byL a) (smL a) (tkS (((l.drop (o + 0 + 0)).take 16).take 16))) a)), some (.ints .u8 l), some (.log ((w ++ [[3, 11]]) ++ [[3, 12]]))], [Fits .i64 ((min ((l.drop (o + 0 + 0)).take 16).length 16 : Nat) : Int), 0 + (((l.drop (o + 0 + 0)).take 16).take 16).length ≤ 17, o + 0 + 0 + 16 ≤ l.length, (w ++ [[3, 11]]).length < 1099511627776, w.length < 1099511627776]) :=
  run_parts (by kernel_rfl) (by kernel_rfl) (by kernel_rfl)
theorem tkS_eq {src : List Int} (h : src.length = 16) : tkS src = src ++ [1] := by
  unfold tkS
  congr 1
  refine extI (by rw [listF_length, h]) fun p hp => ?_
  rw [listF_length] at hp
  have : (listF 16 (fun j => if 0 ≤ j ∧ j < 0 + src.length then src.getD (j - 0) 0 else 0) 0).getD p 0 = _ := atLF hp
  rw [this, if_pos ⟨Nat.zero_le _, by omega⟩, Nat.sub_zero]
def macAs (ms : List SV) : Option (List Int) := numsAs macK (ms.drop 1)
inductive HeadK where
  | nil | log1 | log2 | other
def headK (l : List SV) : HeadK := match l with
  | [.raw (.pointer none)] => .nil
  | [.ptr 1 0] => .log1
  | [.ptr 2 0] => .log2
  | _ => .other
theorem head_nil {l : List SV} (h : headK l = .nil) : l = [nilR] := by
  unfold headK at h; split at h <;> first | rfl | simp at h
theorem head_log1 {l : List SV} (h : headK l = .log1) : l = [.ptr 1 0] := by
  unfold headK at h; split at h <;> first | rfl | simp at h
theorem head_log2 {l : List SV} (h : headK l = .log2) : l = [.ptr 2 0] := by
  unfold headK at h; split at h <;> first | rfl | simp at h
theorem cells_mac {ms : List SV} {la : List Int} {r : SV} (h : macAs ms = some la) (hr : ms.take 1 = [r]) (hr2 : isAggS r = false) : BImp (.cells ms) (macV r (atL la)) ∧ ∀ l, Body.cells ms = .cells l → flatL l := by
  have a1 := impL_nums (i := 0) h (a := atL la) fun j _ => by rw [Nat.zero_add]; rfl
  have e : ms = [r] ++ ms.drop 1 := by rw [← hr, List.take_append_drop]
  refine ⟨?_, fun l hl => ?_⟩
  · have hI : ImpL ([r] ++ ms.drop 1) (r :: svF macK (atL la) 0) := ⟨DenImp.refl _, a1.1⟩
    rw [← e] at hI
    exact .cells hI
  · injection hl with hl
    subst hl
    intro d hd
    rw [e] at hd
    rcases List.mem_append.1 hd with hd | hd
    · simp at hd; subst hd; exact hr2
    · exact a1.2 d hd
theorem rop_imp {ks : List IntKind} {cs : List SV} {ns : List Int} (h : numsAs ks cs = some ns) : DenImp (.rop (.agg cs)) (.rop (.agg (svF ks (atL ns) 0))) := fun w0 O ρ v d => by
  obtain ⟨b, o, us, rfl, h1, h2⟩ := rop_den d
  simp only [DenC] at h2
  exact den_rop h1 (by simp only [DenC]; exact (nums_svF h h2).1)
noncomputable def tk (r : SV) (la b : List Int) : Body := macV r (setS (plusN (byL (atL la)) (smL (atL la)) (b ++ [1])) (atL la))
noncomputable def F38 : SumF := fun args B => match args, B with
  | [.ptr 0 0, .rop (.agg cs)], [.cells ms] => match macAs ms, headK (ms.take 1), numsAs (List.replicate 16 .u8) cs with
    | some la, .nil, some lb => some { val := .tuple [], upd := [(0, some (macV nilR (setS (plusN (byL (atL la)) (smL (atL la)) (lb ++ [1])) (atL la))))] }
    | _, _, _ => none
  | [.ptr 0 0, .ptr 0 27], [.cells ms] => match macAs ms, headK (ms.take 1) with
    | some la, .nil => some { val := .tuple [], upd := [(0, some (macV nilR (setS (plusN (byL (atL la)) (smL (atL la)) (listF 16 (fun j => atL la (26 + j)) 0 ++ [1])) (atL la))))] }
    | _, _ => none
  | [.ptr 0 0, .ptr 0 27], [.cells ms, .log w] => match macAs ms, headK (ms.take 1) with
    | some la, .log1 => some { val := .tuple [], upd := [(0, some (macV (.ptr 1 0) (setS (plusN (byL (atL la)) (smL (atL la)) (listF 16 (fun j => atL la (26 + j)) 0 ++ [1])) (atL la)))), (1, some (.log (w ++ [[3, 11], [3, 12]])))], C := [w.length < 1099511627770] }
    | _, _ => none
  | [.ptr 0 0, .sptr 1 m o 1 0], [.cells ms, .ints K l, .log w] => match macAs ms, headK (ms.take 1), sameK K .u8 with
    | some la, .log2, true => some { val := .tuple [], upd := [(0, some (macV (.ptr 2 0) (setS (plusN (byL (atL la)) (smL (atL la)) ((l.drop o).take 16 ++ [1])) (atL la)))), (2, some (.log (w ++ [[3, 11], [3, 12]])))], C := [o + 16 ≤ l.length, w.length < 1099511627770] }
    | _, _, _ => none
  | _, _ => none
theorem acc38 : Acc gp 38 F38 := by
  intro args B out h hC
  unfold F38 at h
  split at h
  · rename_i cs ms
    split at h
    · rename_i la lb ha hr hb
      have hr := head_nil hr
      simp only [Option.some.injEq] at h; subst h
      have hl : lb.length = 16 := by have := (numsAs_len hb).1; simpa using this
      refine FnOk.imp (args' := [.ptr 0 0, .rop (.agg (roiL .u8 lb 16 0))]) ?_ ⟨DenImp.refl _, rop_imp hb, trivial⟩
      refine FnOk.preB (B' := [macV nilR (atL la)]) ?_ ⟨cells_mac ha hr rfl, trivial⟩ (fun j => by
        match j with
        | 0 => rfl
        | j + 1 => rfl)
      have hr := take_r0 (atL la) lb
      have e : (((listF 16 (atL lb) 0).drop 0).take 16).take 16 = lb := by
        rw [List.drop_zero, List.take_take, List.take_of_length_le (by rw [listF_length]; decide), ← hl, listF_atL]
      have e2 : ((listF 16 (atL lb) 0).drop 0).take 16 = lb := by
        rw [List.drop_zero, List.take_of_length_le (by rw [listF_length]; decide), ← hl, listF_atL]
      rw [e, e2, tkS_eq hl] at hr
      exact FnOk.run (new := []) gp_ok hr (by simp only [allC_cons, allC_nil, and_true]; rw [hl]; exact ⟨fits_of (by decide) (by decide), by decide⟩) (by simp [upto]) rfl (by simp) (by simp) (fun j hj => by
        match j, hj with
        | 0, _ => rfl)
    · simp at h
  · rename_i ms
    split at h
    · rename_i la ha hr
      have hr := head_nil hr
      simp only [Option.some.injEq] at h; subst h
      refine FnOk.preB (B' := [macV nilR (atL la)]) ?_ ⟨cells_mac ha hr rfl, trivial⟩ (fun j => by
        match j with
        | 0 => rfl
        | j + 1 => rfl)
      exact FnOk.run (new := []) gp_ok (take_b0 (atL la)) (by simp [AllC]) (by simp [upto]) rfl (by simp) (by simp) (fun j hj => by
        match j, hj with
        | 0, _ => rfl)
    · simp at h
  · rename_i ms w
    split at h
    · rename_i la ha hr
      have hr := head_log1 hr
      simp only [Option.some.injEq] at h; subst h
      have hw : w.length < 1099511627770 := hC _ (by simp)
      refine FnOk.preB (B' := [macV (.ptr 1 0) (atL la), .log w]) ?_ ⟨cells_mac ha hr rfl, ⟨BImp.refl _, fun _ h => by simp at h⟩, trivial⟩ (fun j => by
        match j with
        | 0 => rfl
        | 1 => rfl
        | j + 2 => rfl)
      have hr := take_b1 (atL la) w
      rw [List.append_assoc] at hr
      exact FnOk.val (FnOk.run (out := { val := .tuple [], upd := [(0, some (macV (.ptr 1 0) (setS (plusN (byL (atL la)) (smL (atL la)) (listF 16 (fun j => atL la (26 + j)) 0 ++ [1])) (atL la)))), (1, some (.log (w ++ [[3, 11], [3, 12]])))] }) (new := []) gp_ok hr (by simp only [allC_cons, allC_nil, and_true, List.length_append, List.length_cons, List.length_nil]; omega) (by simp [upto]) rfl (by simp) (by simp) (fun j hj => by
        match j, hj with
        | 0, _ => rfl
        | 1, _ => rfl)) (fun _ _ _ _ h => h)
    · simp at h
  · rename_i m o ms K l w
    split at h
    · rename_i la ha hr hK
      obtain rfl := kidx_inj hK
      have hr := head_log2 hr
      simp only [Option.some.injEq] at h; subst h
      simp only [allC_cons, allC_nil, and_true] at hC
      obtain ⟨ho, hw⟩ := hC
      have hl : ((l.drop o).take 16).length = 16 := by rw [List.length_take, List.length_drop]; omega
      refine FnOk.preB (B' := [macV (.ptr 2 0) (atL la), .ints .u8 l, .log w]) ?_ ⟨cells_mac ha hr rfl, ⟨BImp.refl _, fun _ h => by simp at h⟩, ⟨BImp.refl _, fun _ h => by simp at h⟩, trivial⟩ (fun j => by
        match j with
        | 0 => rfl
        | 1 => rfl
        | 2 => rfl
        | j + 3 => rfl)
      have hr := take_l1 (atL la) m o l w
      rw [List.append_assoc, show o + 0 + 0 = o from rfl, List.take_take, Nat.min_self, tkS_eq hl] at hr
      exact FnOk.val (FnOk.run (out := { val := .tuple [], upd := [(0, some (macV (.ptr 2 0) (setS (plusN (byL (atL la)) (smL (atL la)) ((l.drop o).take 16 ++ [1])) (atL la)))), (2, some (.log (w ++ [[3, 11], [3, 12]])))] }) (new := []) gp_ok hr (by
        simp only [allC_cons, allC_nil, and_true, List.length_append, List.length_cons, List.length_nil]
        rw [hl]
        exact ⟨fits_of (by decide) (by decide), by decide, ho, by omega, by omega⟩) (by simp [upto]) rfl (by simp) (by simp) (fun j hj => by
        match j, hj with
        | 0, _ => rfl
        | 1, _ => rfl
        | 2, _ => rfl)) (fun _ _ _ _ h => h)
    · simp at h
  · simp at h
noncomputable abbrev gq : Ctx := gp.add [(38, F38)]
theorem gq_ok : CtxU gq := gp_ok.add mixed noGo (by
  intro x hx
  simp only [List.mem_cons, List.not_mem_nil, or_false] at hx
  rcases hx with rfl
  exact acc38)
end Go.Proofs.Ytejcjdhplpjpjaa

namespace Go.Proofs.Ytejcjdhplpjpjaa
open Go Go.Vx
noncomputable abbrev gw : Ctx := gk.add [(38, F38)]
theorem gw_ok : CtxU gw := gk_ok.add mixed noGo (by
  intro x hx
  simp only [List.mem_cons, List.not_mem_nil, or_false] at hx
  rcases hx with rfl
  exact Acc.of rfl rfl acc38)
/-! ### Write: whole blocks -/
abbrev n43 (a : Nat → Int) : Nat → Int := atL (listF 43 a 0)
abbrev tkA (a : Nat → Int) (b : List Int) : Nat → Int := setS (plusN (byL (n43 a)) (smL (n43 a)) (b ++ [1])) (n43 a)
noncomputable def lpA (a : Nat → Int) (l : List Int) : Nat → (Nat → Int)
  | 0 => a
  | i + 1 => tkA (lpA a l i) ((l.drop (16 * i)).take 16)
abbrev wrKeep : List Nat := [0, 1]
noncomputable abbrev wrBody : Code := bodyAt Try.prog 12 8
abbrev lbR (l : List Int) : List Int := listF 16 (fun j => ((l.drop 0).take 16).getD j 0) 0
theorem wr_go0 (a : Nat → Int) (l : List Int) : runC gw 300 102 [.br true] wrBody (wrKeep.zip [.ptr 0 0, .roi .u8 l]) [macV nilR a] wrKeep [0] =
    some (.normal, [.ptr 0 0, .roi .u8 ((l.drop 16).take (l.length - 16))], [macV nilR (tkA a (lbR l))].map some,
      [Fits .i64 (l.length : Int), decide ((16 : Int) ≤ (l.length : Int)) = true, 16 ≤ ((l.drop 0).take 16).length, (0 : Int) ≤ 0 ∧ (0 : Int) ≤ 16 ∧ (16 : Int) ≤ (l.length : Int), (0 : Int) ≤ 16 ∧ (16 : Int) ≤ (l.length : Int) ∧ (l.length : Int) ≤ (l.length : Int)]) :=
  r3_parts4 (by kernel_rfl) (by kernel_rfl) (by kernel_rfl) (by kernel_rfl)
theorem wr_end0 (a : Nat → Int) (l : List Int) : runC gw 300 102 [.br false] wrBody (wrKeep.zip [.ptr 0 0, .roi .u8 l]) [macV nilR a] wrKeep [0] =
    some (.exit 0, [.ptr 0 0, .roi .u8 l], [macV nilR a].map some, [Fits .i64 (l.length : Int), decide ((16 : Int) ≤ (l.length : Int)) = false]) :=
  r3_parts4 (by kernel_rfl) (by kernel_rfl) (by kernel_rfl) (by kernel_rfl)
theorem lbR_eq {l : List Int} (h : 16 ≤ l.length) : lbR l = l.take 16 := by
  refine extI (by rw [listF_length, List.length_take]; omega) fun p hp => ?_
  rw [listF_length] at hp
  have : (lbR l).getD p 0 = ((l.drop 0).take 16).getD p 0 := atLF hp
  rw [this, List.drop_zero]
abbrev lpS0 (l : List Int) (i : Nat) : List (Nat × SV) := wrKeep.zip [.ptr 0 0, .roi .u8 (l.drop (16 * i))]
noncomputable def lpG : LoopF := fun vals B => match vals, B with
  | [.ptr 0 0, .roi K l], [.cells ms] => match macAs ms, headK (ms.take 1), sameK K .u8 with
    | some la, .nil, true => some ([(0, .ptr 0 0), (1, .roi .u8 (l.drop (16 * (l.length / 16))))], [macV nilR (lpA (atL la) l (l.length / 16))], [l.length ≤ 140737488355328])
    | _, _, _ => none
  | _, _ => none
theorem q0 : ∀ j : Nat, j < 1 → ([0] : List Nat)[j]? = some j := fun j hj => by
  match j, hj with
  | 0, _ => rfl
theorem lp_sim {w0 : World} {O : Go.Vx.Own} (hgl : GlobOk gw w0 O) (a : Nat → Int) (l : List Int) (hl : l.length ≤ 140737488355328) :
    SimC gw.P w0 O 102 (.loop wrBody) (lpS0 l 0) [macV nilR (lpA a l 0)] (.exit 0) [(0, .ptr 0 0), (1, .roi .u8 (l.drop (16 * (l.length / 16))))] [macV nilR (lpA a l (l.length / 16))] 1 := by
  refine SimC.iter (g := gw) (e := .exit 0) (S := fun i => lpS0 l i) (B := fun i => [macV nilR (lpA a l i)]) (N := l.length / 16) (fun i hi => ?_) ?_ (by simp) 0 (by omega)
  · have hd : (l.drop (16 * i)).length = l.length - 16 * i := by rw [List.length_drop]
    have h16 : 16 ≤ (l.drop (16 * i)).length := by omega
    have F : Fits .i64 ((l.drop (16 * i)).length : Int) := Go.Vx.fits_small (by omega)
    have hr := wr_go0 (lpA a l i) (l.drop (16 * i))
    have e : (((l.drop (16 * i)).drop 16).take ((l.drop (16 * i)).length - 16)) = l.drop (16 * (i + 1)) := by
      rw [List.drop_drop, hd, List.take_of_length_le (by rw [List.length_drop]; omega), show 16 * i + 16 = 16 * (i + 1) by omega]
    rw [e, lbR_eq h16] at hr
    refine SimC.run (B' := [macV nilR (lpA a l (i + 1))]) gw_ok (by decide) hr ?_ (by decide) q0 (by decide) (by simp) hgl
    simp only [allC_cons, allC_nil, and_true]
    exact ⟨F, decide_eq_true (by omega), by rw [List.drop_zero, List.length_take]; omega, ⟨by omega, by omega, by omega⟩, ⟨by omega, by omega, by omega⟩⟩
  · have hd : (l.drop (16 * (l.length / 16))).length = l.length - 16 * (l.length / 16) := by rw [List.length_drop]
    have F : Fits .i64 ((l.drop (16 * (l.length / 16))).length : Int) := Go.Vx.fits_small (by omega)
    exact SimC.weaken (SimC.run (B' := [macV nilR (lpA a l (l.length / 16))]) gw_ok (by decide) (wr_end0 _ _) (by simp only [allC_cons, allC_nil, and_true]; exact ⟨F, decide_eq_false (by omega)⟩) (by decide) q0 (by decide) (by simp) hgl) (sub_mkT (by simp; exact ⟨rfl, rfl⟩))
theorem lp_loop : LoopGood gw 102 (.loop wrBody) wrKeep 1 (.exit 0) (mkLoopN lpG) := by
  refine LoopGood.mkN (by decide) fun vals B S' B' C hG hC hlen w0 O hgl => ?_
  clear hlen
  unfold lpG at hG
  split at hG
  · rename_i K l ms
    split at hG
    · rename_i la ha hr hK
      obtain rfl := kidx_inj hK
      have hr := head_nil hr
      simp only [Option.some.injEq, Prod.mk.injEq] at hG
      obtain ⟨rfl, rfl, rfl⟩ := hG
      simp only [allC_cons, allC_nil, and_true] at hC
      refine SimC.preI (B1 := [macV nilR (atL la)]) ?_ ⟨cells_mac ha hr rfl, trivial⟩
      exact lp_sim hgl (atL la) l hC
    · simp at hG
  · simp at hG
/-! ### Write: the whole -/
def ovA (a : Nat → Int) (l : List Int) (j : Nat) : Int :=
  bif (Nat.ble 26 j).and (Nat.blt j 42) then (if (a 42).toNat ≤ j - 26 ∧ j - 26 < (a 42).toNat + (l.take (16 - (a 42).toNat)).length then (l.take (16 - (a 42).toNat)).getD (j - 26 - (a 42).toNat) 0 else a j)
  else bif Nat.beq j 42 then a 42 + ((min l.length (16 - (a 42).toNat) : Nat) : Int) else a j
def tlA (a : Nat → Int) (p : List Int) (j : Nat) : Int :=
  bif (Nat.ble 26 j).and (Nat.blt j 42) then (if 0 ≤ j - 26 ∧ j - 26 < 0 + (p.take 16).length then (p.take 16).getD (j - 26 - 0) 0 else a j)
  else bif Nat.beq j 42 then ((min p.length 16 : Nat) : Int) else a j
def clA (a : Nat → Int) (j : Nat) : Int := bif Nat.ble 26 j then 0 else a j
abbrev kN (a : Nat → Int) (l : List Int) : Int := ((min l.length (16 - (a 42).toNat) : Nat) : Int)
abbrev l1 (a : Nat → Int) (l : List Int) : List Int := (l.drop (kN a l).toNat).take (l.length - (kN a l).toNat)
abbrev rsL (l : List Int) : List Int := l.drop (16 * (l.length / 16))
noncomputable abbrev wrPl : Plan := .loop 8 wrKeep 1 (.exit 0) (mkLoopN lpG)
noncomputable abbrev LGw : Prop := LoopGood gw 102 (.loop wrBody) wrKeep 1 (.exit 0) (mkLoopN lpG)
end Go.Proofs.Ytejcjdhplpjpjaa

namespace Go.Proofs.Ytejcjdhplpjpjaa
open Go Go.Vx
/-! ### Write: the runs -/
abbrev zeB (a : Nat → Int) : List Int := listF 16 (fun j => n43 a (26 + j)) 0
noncomputable abbrev eqA (a : Nat → Int) (l : List Int) : Nat → Int := clA (tkA (ovA a l) (zeB (ovA a l)))
noncomputable abbrev lpE (a : Nat → Int) (l : List Int) : Nat → Int := lpA (n43 a) l (l.length / 16)
noncomputable abbrev tlE (a : Nat → Int) (l : List Int) : Nat → Int := tlA (lpE a l) (rsL l)
abbrev C0 (a : Nat → Int) (b : Bool) : Prop := decide (0 < a 42) = b
abbrev Crest (l : List Int) (b : Bool) : List Prop := [l.length ≤ 140737488355328, Fits .i64 ((rsL l).length : Int), decide (0 < ((rsL l).length : Int)) = b]
abbrev Ctl (l : List Int) : List Prop := [Fits .i64 ((min (rsL l).length (16 - 0) : Nat) : Int), 0 + ((rsL l).take 16).length ≤ 16]
abbrev Cov (a : Nat → Int) (l : List Int) (b : Bool) : List Prop := [Fits .i64 (kN a l), (a 42).toNat + (l.take (16 - (a 42).toNat)).length ≤ 16, 0 ≤ a 42 ∧ a 42 ≤ ((16 : Nat) : Int) ∧ ((16 : Nat) : Int) ≤ ((16 : Nat) : Int), 0 ≤ kN a l ∧ kN a l ≤ (l.length : Int) ∧ (l.length : Int) ≤ (l.length : Int), Fits .i64 (a 42 + kN a l), decide (a 42 + kN a l = 16) = b]
theorem w00 (a : Nat → Int) (l : List Int) : runF gw 400 [.br false, wrPl, .br false] 12 [.ptr 0 0, .roi .u8 l] [macV nilR a] [] =
    some (.tuple [], [some (macV nilR (lpE a l))], [C0 a false, LGw] ++ Crest l false) :=
  run_parts (by kernel_rfl) (by kernel_rfl) (by kernel_rfl)
theorem w01 (a : Nat → Int) (l : List Int) : runF gw 400 [.br false, wrPl, .br true] 12 [.ptr 0 0, .roi .u8 l] [macV nilR a] [] =
    some (.tuple [], [some (macV nilR (tlE a l))], [C0 a false, LGw] ++ (Crest l true ++ Ctl l)) :=
  run_parts (by kernel_rfl) (by kernel_rfl) (by kernel_rfl)
theorem we0 (a : Nat → Int) (l : List Int) : runF gw 400 [.br true, .br true, wrPl, .br false] 12 [.ptr 0 0, .roi .u8 l] [macV nilR a] [] =
    some (.tuple [], [some (macV nilR (lpE (eqA a l) (l1 a l)))], C0 a true :: (Cov a l true ++ (LGw :: Crest (l1 a l) false))) :=
  run_parts (by kernel_rfl) (by kernel_rfl) (by kernel_rfl)
theorem we1 (a : Nat → Int) (l : List Int) : runF gw 400 [.br true, .br true, wrPl, .br true] 12 [.ptr 0 0, .roi .u8 l] [macV nilR a] [] =
    some (.tuple [], [some (macV nilR (tlE (eqA a l) (l1 a l)))], C0 a true :: (Cov a l true ++ (LGw :: (Crest (l1 a l) true ++ Ctl (l1 a l))))) :=
  run_parts (by kernel_rfl) (by kernel_rfl) (by kernel_rfl)
theorem wn0 (a : Nat → Int) (l : List Int) : runF gw 400 [.br true, .br false, wrPl, .br false] 12 [.ptr 0 0, .roi .u8 l] [macV nilR a] [] =
    some (.tuple [], [some (macV nilR (lpE (ovA a l) (l1 a l)))], C0 a true :: (Cov a l false ++ (LGw :: Crest (l1 a l) false))) :=
  run_parts (by kernel_rfl) (by kernel_rfl) (by kernel_rfl)
end Go.Proofs.Ytejcjdhplpjpjaa

namespace Go.Proofs.Ytejcjdhplpjpjaa
open Go Go.Vx
/-! ### Write: the account; Tag -/
noncomputable def wrA (a : Nat → Int) (l : List Int) : Nat → Int :=
  if 0 < a 42 then (if a 42 + kN a l = 16 then (if 0 < (rsL (l1 a l)).length then tlE (eqA a l) (l1 a l) else lpE (eqA a l) (l1 a l)) else lpE (ovA a l) (l1 a l))
  else if 0 < (rsL l).length then tlE a l else lpE a l
theorem kN_le (a : Nat → Int) (l : List Int) : 0 ≤ kN a l ∧ kN a l ≤ (l.length : Int) ∧ kN a l ≤ 16 - (a 42).toNat ∨ 16 < (a 42).toNat := by
  by_cases h : (a 42).toNat ≤ 16
  · left
    have := Nat.min_le_left l.length (16 - (a 42).toNat)
    have := Nat.min_le_right l.length (16 - (a 42).toNat)
    simp only [kN]
    refine ⟨by omega, by omega, by omega⟩
  · right; omega
theorem wr_acc0 (a : Nat → Int) (l : List Int) (h1 : 0 ≤ a 42 ∧ a 42 < 16) (h2 : l.length ≤ 140737488355328) : FnOk gw 12 [.ptr 0 0, .roi .u8 l] [macV nilR a] { val := .tuple [], upd := [(0, some (macV nilR (wrA a l)))] } := by
  have hL : LGw := lp_loop
  have fin : ∀ {pl C} {v : Nat → Int}, runF gw 400 pl 12 [.ptr 0 0, .roi .u8 l] [macV nilR a] [] = some (.tuple [], [some (macV nilR v)], C) → AllC C → FnOk gw 12 [.ptr 0 0, .roi .u8 l] [macV nilR a] { val := .tuple [], upd := [(0, some (macV nilR v))] } := fun hr hC =>
    FnOk.run (new := []) gw_ok hr hC (by simp [upto]) rfl (by simp) (by simp) (fun j hj => by
      match j, hj with
      | 0, _ => rfl)
  have rest : ∀ l : List Int, l.length ≤ 140737488355328 → ∀ b, decide (0 < ((rsL l).length : Int)) = b → AllC (Crest l b) := fun l hl b hb => by
    have : (rsL l).length ≤ l.length := by rw [rsL, List.length_drop]; omega
    simp only [Crest, allC_cons, allC_nil, and_true]
    exact ⟨hl, Go.Vx.fits_small (by omega), hb⟩
  have tl : ∀ l : List Int, AllC (Ctl l) := fun l => by
    have h3 := Nat.min_le_right (rsL l).length 16
    have h4 : ((rsL l).take 16).length ≤ 16 := by rw [List.length_take]; exact Nat.min_le_left _ _
    simp only [Ctl, allC_cons, allC_nil, and_true]
    exact ⟨fits_of (by omega) (by omega), by omega⟩
  have kk := kN_le a l
  have kl : (l1 a l).length ≤ l.length := by rw [l1, List.length_take]; have := Nat.min_le_left (l.length - (kN a l).toNat) (l.drop (kN a l).toNat).length; omega
  have cov : ∀ b, decide (a 42 + kN a l = 16) = b → AllC (Cov a l b) := fun b hb => by
    have h5 : (l.take (16 - (a 42).toNat)).length ≤ 16 - (a 42).toNat := by rw [List.length_take]; exact Nat.min_le_left _ _
    simp only [Cov, allC_cons, allC_nil, and_true]
    exact ⟨fits_of (by omega) (by omega), by omega, ⟨by omega, by omega, by omega⟩, ⟨by omega, by omega, by omega⟩, fits_of (by omega) (by omega), hb⟩
  unfold wrA
  by_cases h0 : 0 < a 42
  · rw [if_pos h0]
    by_cases h16 : a 42 + kN a l = 16
    · rw [if_pos h16]
      by_cases hr : 0 < (rsL (l1 a l)).length
      · rw [if_pos hr]
        exact fin (we1 a l) (allC_cons.2 ⟨decide_eq_true h0, allC_append.2 ⟨cov _ (decide_eq_true h16), allC_cons.2 ⟨hL, allC_append.2 ⟨rest _ (by omega) _ (decide_eq_true (by omega)), tl _⟩⟩⟩⟩)
      · rw [if_neg hr]
        exact fin (we0 a l) (allC_cons.2 ⟨decide_eq_true h0, allC_append.2 ⟨cov _ (decide_eq_true h16), allC_cons.2 ⟨hL, rest _ (by omega) _ (decide_eq_false (by omega))⟩⟩⟩)
    · rw [if_neg h16]
      have hz : (rsL (l1 a l)).length = 0 := by
        have e : kN a l = (l.length : Int) := by
          have : min l.length (16 - (a 42).toNat) = l.length ∨ min l.length (16 - (a 42).toNat) = 16 - (a 42).toNat := by omega
          rcases this with h | h
          · show ((min l.length (16 - (a 42).toNat) : Nat) : Int) = _; rw [h]
          · exfalso; apply h16; show a 42 + ((min l.length (16 - (a 42).toNat) : Nat) : Int) = 16; rw [h]; omega
        have : (l1 a l).length = 0 := by rw [l1, List.length_take, e]; simp
        rw [rsL, List.length_drop]; omega
      exact fin (wn0 a l) (allC_cons.2 ⟨decide_eq_true h0, allC_append.2 ⟨cov _ (decide_eq_false h16), allC_cons.2 ⟨hL, rest _ (by omega) _ (decide_eq_false (by omega))⟩⟩⟩)
  · rw [if_neg h0]
    by_cases hr : 0 < (rsL l).length
    · rw [if_pos hr]
      exact fin (w01 a l) (allC_append.2 ⟨allC_cons.2 ⟨decide_eq_false h0, allC_cons.2 ⟨hL, by simp [AllC]⟩⟩, allC_append.2 ⟨rest _ h2 _ (decide_eq_true (by omega)), tl _⟩⟩)
    · rw [if_neg hr]
      exact fin (w00 a l) (allC_append.2 ⟨allC_cons.2 ⟨decide_eq_false h0, allC_cons.2 ⟨hL, by simp [AllC]⟩⟩, rest _ h2 _ (decide_eq_false (by omega))⟩)
theorem wr_nil (l : List Int) : runF gw 100 [] 12 [nilR, .roi .u8 l] [] [] = some (.tuple [], [], []) := by kernel_rfl
noncomputable def F12 : SumF := fun args B => match args, B with
  | [.ptr 0 0, .roi K l], [.cells ms] => match macAs ms, headK (ms.take 1), sameK K .u8 with
    | some la, .nil, true => some { val := .tuple [], upd := [(0, some (macV nilR (wrA (atL la) l)))], C := [0 ≤ atL la 42 ∧ atL la 42 < 16, l.length ≤ 140737488355328] }
    | _, _, _ => none
  | [.raw (.pointer none), .roi K l], [] => match sameK K .u8 with
    | true => some { val := .tuple [] }
    | _ => none
  | _, _ => none
theorem acc12 : Acc gw 12 F12 := by
  intro args B out h hC
  unfold F12 at h
  split at h
  · rename_i K l ms
    split at h
    · rename_i la ha hr hK
      obtain rfl := kidx_inj hK
      have hr := head_nil hr
      simp only [Option.some.injEq] at h; subst h
      simp only [allC_cons, allC_nil, and_true] at hC
      refine FnOk.preB (B' := [macV nilR (atL la)]) ?_ ⟨cells_mac ha hr rfl, trivial⟩ (fun j => by
        match j with
        | 0 => rfl
        | j + 1 => rfl)
      exact FnOk.val (wr_acc0 _ _ hC.1 hC.2) (fun _ _ _ _ h => h)
    · simp at h
  · rename_i K l
    split at h
    · rename_i hK
      obtain rfl := kidx_inj hK
      simp only [Option.some.injEq] at h; subst h
      exact FnOk.pure gw_ok (wr_nil l) (by simp [AllC])
    · simp at h
  · simp at h
/-! Tag -/
abbrev mkL (a : Nat → Int) : List Int := listF 16 (fun j => a (10 + j)) 0
abbrev tbL (a : Nat → Int) : List Int := listF 17 (fun j => if (a 42).toNat = j then 1 else (bif Nat.blt j 16 then a (26 + j) else 0)) 0
def tgN (a : Nat → Int) : Nat → Int := if 0 < a 42 then sumN (L5 (plusN (byL a) (smL a) (tbL a))) (mkL a) else sumN (smL a) (mkL a)
theorem tag_1 (a : Nat → Int) : runF gw 300 [.br true] 13 [.ptr 0 0] [macV nilR a] [] = some (.agg (svF (List.replicate 16 .u8) (sumN (L5 (plusN (byL a) (smL a) (tbL a))) (mkL a)) 0), [some (macV nilR a)], [decide (0 < a 42) = true, (a 42).toNat < 17, 0 ≤ a 42 ∧ a 42 < ((17 : Nat) : Int)]) :=
  run_parts (by kernel_rfl) (by kernel_rfl) (by kernel_rfl)
theorem tag_0 (a : Nat → Int) : runF gw 300 [.br false] 13 [.ptr 0 0] [macV nilR a] [] = some (.agg (svF (List.replicate 16 .u8) (sumN (smL a) (mkL a)) 0), [some (macV nilR a)], [decide (0 < a 42) = false]) :=
  run_parts (by kernel_rfl) (by kernel_rfl) (by kernel_rfl)
theorem tag_n : runF gw 100 [] 13 [nilR] [] [] = some (.agg (List.replicate 16 (.lit .u8 0)), [], []) := by kernel_rfl
noncomputable def F13 : SumF := fun args B => match args, B with
  | [.ptr 0 0], [.cells ms] => match macAs ms, headK (ms.take 1) with
    | some la, .nil => some { val := .agg (svF (List.replicate 16 .u8) (tgN (atL la)) 0), upd := [(0, some (macV nilR (atL la)))], C := [0 ≤ atL la 42 ∧ atL la 42 < 16] }
    | _, _ => none
  | [.raw (.pointer none)], [] => some { val := .agg (svF (List.replicate 16 .u8) (fun _ => 0) 0) }
  | _, _ => none
theorem acc13 : Acc gw 13 F13 := by
  intro args B out h hC
  unfold F13 at h
  split at h
  · rename_i ms
    split at h
    · rename_i la ha hr
      have hr := head_nil hr
      simp only [Option.some.injEq] at h; subst h
      simp only [allC_cons, allC_nil, and_true] at hC
      refine FnOk.preB (B' := [macV nilR (atL la)]) ?_ ⟨cells_mac ha hr rfl, trivial⟩ (fun j => by
        match j with
        | 0 => rfl
        | j + 1 => rfl)
      refine FnOk.val (C := []) (rd := []) ?_ (fun _ _ _ _ h => h)
      unfold tgN
      by_cases h0 : 0 < atL la 42
      · rw [if_pos h0]
        exact FnOk.run (new := []) gw_ok (tag_1 (atL la)) (by simp only [allC_cons, allC_nil, and_true]; exact ⟨decide_eq_true h0, by omega, by omega, by omega⟩) (by simp [upto]) rfl (by simp) (by simp) (fun j hj => by
          match j, hj with
          | 0, _ => rfl)
      · rw [if_neg h0]
        exact FnOk.run (new := []) gw_ok (tag_0 (atL la)) (by simp only [allC_cons, allC_nil, and_true]; exact decide_eq_false h0) (by simp [upto]) rfl (by simp) (by simp) (fun j hj => by
          match j, hj with
          | 0, _ => rfl)
    · simp at h
  · simp only [Option.some.injEq] at h; subst h
    exact FnOk.val (FnOk.pure gw_ok tag_n (by simp [AllC])) (fun _ _ _ _ h => denV_norm h)
  · simp at h
end Go.Proofs.Ytejcjdhplpjpjaa
