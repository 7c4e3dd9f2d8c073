/- Accounts of this seat's functions: lemmas, no statement of their own. No conditions. -/
import Derived.Test.YtkpkdingeomhnaaTOg
namespace Go.Proofs.Ytkpkdingeomhnaa
open Go Go.Vx
/-! ### the checks hold -/
abbrev oE (E W Bf : List (List Int)) : List Body := oC E W Bf (fun j => mkA j E.length) (fun j => mkR j (runsL E).length) (fun j => mkA j E.length ++ GP j) (fun j => mkR j (runsL E).length ++ HP j)
theorem o15_ids : ∀ j, j < 15 → o15[j]? = some j := by decide
theorem mkA_get {i n k : Nat} (h : k < n) : (mkA i n).getD k [] = [100 + (i : Int), (k : Int)] := by simp [mkA, List.getD_eq_getElem?_getD, h]
theorem mkR_get {i n k : Nat} (h : k < n) : (mkR i n).getD k [] = [0, 0, -1 - (i : Int)] := by simp [mkR, List.getD_eq_getElem?_getD, h]
theorem cl_getX {i n k : Nat} (h : k < n) : (mkA i n ++ GP i).getD k [] = [100 + (i : Int), (k : Int)] := by
  rw [← mkA_get h, List.getD_eq_getElem?_getD, List.getD_eq_getElem?_getD, List.getElem?_append_left (by rw [mkA_len]; exact h)]
theorem cr_getX {i n k : Nat} (h : k < n) : (mkR i n ++ HP i).getD k [] = [0, 0, -1 - (i : Int)] := by
  rw [← mkR_get h, List.getD_eq_getElem?_getD, List.getD_eq_getElem?_getD, List.getElem?_append_left (by rw [mkR_len]; exact h)]
theorem cl_getY {i n k : Nat} (h : n ≤ k) (h2 : k < n + 70) : (mkA i n ++ GP i).getD k [] = gP i := by
  rw [List.getD_eq_getElem?_getD, List.getElem?_append_right (by rw [mkA_len]; exact h), mkA_len, GP, List.getElem?_replicate, if_pos (by omega)]; rfl
theorem cr_getY {i n k : Nat} (h : n ≤ k) (h2 : k < n + 70) : (mkR i n ++ HP i).getD k [] = hP i := by
  rw [List.getD_eq_getElem?_getD, List.getElem?_append_right (by rw [mkR_len]; exact h), mkR_len, HP, List.getElem?_replicate, if_pos (by omega)]; rfl
def clG : LoopF := fun vals B =>
  let i := gN (vals.getD 7 .any); let E := gR B 0
  some (qK.zip (qV (i : Int)), oE E (gR B 1) (gR B 4), [vals = qV (i : Int) ++ [SV.int .i64 ((mkA i E.length).length : Int), SV.lit .i64 0], B = oE E (gR B 1) (gR B 4), i < 4, E.length ≤ 2000])
theorem cl_imp (i n : Int) (t : Nat) : DenImp (tget (mkT ((qK ++ [19, 20]).zip (qV i ++ [SV.int .i64 n, SV.lit .i64 0]))) t) (tget (mkT ((qK ++ [19, 20]).zip (qX i n ((0 : Nat) : Int)))) t) := by
  refine zip_rel (R := DenImp) (DenImp.refl _) (qK ++ [19, 20]) (qV i ++ [SV.int .i64 n, SV.lit .i64 0]) (qX i n ((0 : Nat) : Int)) (by decide) rfl (fun j c c' h1 h2 => ?_) t
  match j with
  | 0 | 1 | 2 | 3 | 4 | 5 | 6 | 7 | 8 => simp at h1 h2; subst h1; subst h2; exact DenImp.refl _
  | 9 => simp at h1 h2; subst h1; subst h2; exact norm_imp (.lit .i64 0)
  | j + 10 => simp at h1
theorem cl_loop : LoopGood gw 266 (.loop clC) (qK ++ [19, 20]) 15 (.exit 16) clG := by
  intro vals B S' B' C hG hC hlen w0 O hgl
  unfold clG at hG
  simp only at hG
  generalize gN (vals.getD 7 .any) = i at hG
  generalize gR B 0 = E at hG
  generalize gR B 1 = W at hG
  generalize gR B 4 = Bf at hG
  simp only [Option.some.injEq, Prod.mk.injEq] at hG
  obtain ⟨rfl, rfl, rfl⟩ := hG
  simp only [allC_cons, allC_nil, and_true] at hC
  obtain ⟨rfl, rfl, hi, hn⟩ := hC
  rw [mkA_len]
  refine SimC.pre ?_ (cl_imp (i : Int) _)
  have hX : (mkA i E.length ++ GP i).length = E.length + 70 := by simp [mkA_len, GP]
  refine SimC.iter (g := gw) (S := fun k => (qK ++ [19, 20]).zip (qX (i : Int) (E.length : Int) (k : Int))) (B := fun _ => oE E W Bf) (N := E.length + 70) (e := .exit 16) (fun k hk => ?_) ?_ (by simp) 0 (Nat.zero_le _)
  · by_cases h1 : k < E.length
    · have h := cl_lo E W Bf (fun j => mkA j E.length) (fun j => mkR j (runsL E).length) (fun j => mkA j E.length ++ GP j) (fun j => mkR j (runsL E).length ++ HP j) E.length k i hi
      simp only [hX, mkA_len, cl_getX h1, mkA_get h1] at h
      refine SimC.run (ids := o15) gw_ok (by decide) h ?_ (by decide) o15_ids (by decide) (by simp) hgl
      simp only [allC_cons, allC_nil, and_true]
      refine ⟨fits_small (n := E.length + 70) (by omega), decide_eq_true (by omega), decide_eq_false (by omega), ⟨by omega, by omega⟩, decide_eq_true (by omega), by simp, by omega, by omega, ⟨by omega, by omega⟩, by simp, fits_small (n := k + 1) (by omega)⟩
    · have h := cl_hi E W Bf (fun j => mkA j E.length) (fun j => mkR j (runsL E).length) (fun j => mkA j E.length ++ GP j) (fun j => mkR j (runsL E).length ++ HP j) E.length k i hi
      simp only [hX, cl_getY (Nat.le_of_not_lt h1) hk] at h
      refine SimC.run (ids := o15) gw_ok (by decide) h ?_ (by decide) o15_ids (by decide) (by simp) hgl
      simp only [allC_cons, allC_nil, and_true]
      refine ⟨fits_small (n := E.length + 70) (by omega), decide_eq_true (by omega), decide_eq_true (by omega), decide_eq_false (by omega), by simp [gP], by omega, by omega, ⟨by omega, by omega⟩, fits_small (n := k + 1) (by omega)⟩
  · have h := cl_end E W Bf (fun j => mkA j E.length) (fun j => mkR j (runsL E).length) (fun j => mkA j E.length ++ GP j) (fun j => mkR j (runsL E).length ++ HP j) E.length (E.length + 70) i hi
    simp only [hX] at h
    refine SimC.run (ids := o15) gw_ok (by decide) h ?_ (by decide) o15_ids (by decide) (by simp) hgl
    simp only [allC_cons, allC_nil, and_true]
    exact ⟨fits_small (n := E.length + 70) (by omega), decide_eq_false (by omega)⟩
def crG : LoopF := fun vals B =>
  let i := gN (vals.getD 7 .any); let E := gR B 0
  some (qK.zip (qV (i : Int)), oE E (gR B 1) (gR B 4), [vals = qV (i : Int) ++ [SV.int .i64 ((mkR i (runsL E).length).length : Int), SV.lit .i64 0], B = oE E (gR B 1) (gR B 4), i < 4, (runsL E).length ≤ 2000])
theorem cr_imp (i n : Int) (t : Nat) : DenImp (tget (mkT ((qK ++ [19, 22]).zip (qV i ++ [SV.int .i64 n, SV.lit .i64 0]))) t) (tget (mkT ((qK ++ [19, 22]).zip (qX i n ((0 : Nat) : Int)))) t) := by
  refine zip_rel (R := DenImp) (DenImp.refl _) (qK ++ [19, 22]) (qV i ++ [SV.int .i64 n, SV.lit .i64 0]) (qX i n ((0 : Nat) : Int)) (by decide) rfl (fun j c c' h1 h2 => ?_) t
  match j with
  | 0 | 1 | 2 | 3 | 4 | 5 | 6 | 7 | 8 => simp at h1 h2; subst h1; subst h2; exact DenImp.refl _
  | 9 => simp at h1 h2; subst h1; subst h2; exact norm_imp (.lit .i64 0)
  | j + 10 => simp at h1
theorem cr_loop : LoopGood gw 266 (.loop crC) (qK ++ [19, 22]) 15 (.exit 18) crG := by
  intro vals B S' B' C hG hC hlen w0 O hgl
  unfold crG at hG
  simp only at hG
  generalize gN (vals.getD 7 .any) = i at hG
  generalize gR B 0 = E at hG
  generalize gR B 1 = W at hG
  generalize gR B 4 = Bf at hG
  simp only [Option.some.injEq, Prod.mk.injEq] at hG
  obtain ⟨rfl, rfl, rfl⟩ := hG
  simp only [allC_cons, allC_nil, and_true] at hC
  obtain ⟨rfl, rfl, hi, hn⟩ := hC
  rw [mkR_len]
  refine SimC.pre ?_ (cr_imp (i : Int) _)
  have hX : (mkR i (runsL E).length ++ HP i).length = (runsL E).length + 70 := by simp [mkR_len, HP]
  refine SimC.iter (g := gw) (S := fun k => (qK ++ [19, 22]).zip (qX (i : Int) ((runsL E).length : Int) (k : Int))) (B := fun _ => oE E W Bf) (N := (runsL E).length + 70) (e := .exit 18) (fun k hk => ?_) ?_ (by simp) 0 (Nat.zero_le _)
  · by_cases h1 : k < (runsL E).length
    · have h := cr_lo E W Bf (fun j => mkA j E.length) (fun j => mkR j (runsL E).length) (fun j => mkA j E.length ++ GP j) (fun j => mkR j (runsL E).length ++ HP j) (runsL E).length k i hi
      simp only [hX, mkR_len, cr_getX h1, mkR_get h1] at h
      refine SimC.run (ids := o15) gw_ok (by decide) h ?_ (by decide) o15_ids (by decide) (by simp) hgl
      simp only [allC_cons, allC_nil, and_true]
      refine ⟨fits_small (n := (runsL E).length + 70) (by omega), decide_eq_true (by omega), decide_eq_false (by omega), ⟨by omega, by omega⟩, decide_eq_true (by omega), by simp, by omega, by omega, by omega, ⟨by omega, by omega⟩, by simp, fits_small (n := k + 1) (by omega)⟩
    · have h := cr_hi E W Bf (fun j => mkA j E.length) (fun j => mkR j (runsL E).length) (fun j => mkA j E.length ++ GP j) (fun j => mkR j (runsL E).length ++ HP j) (runsL E).length k i hi
      simp only [hX, cr_getY (Nat.le_of_not_lt h1) hk] at h
      refine SimC.run (ids := o15) gw_ok (by decide) h ?_ (by decide) o15_ids (by decide) (by simp) hgl
      simp only [allC_cons, allC_nil, and_true]
      refine ⟨fits_small (n := (runsL E).length + 70) (by omega), decide_eq_true (by omega), decide_eq_true (by omega), decide_eq_false (by omega), by simp [hP], by omega, by omega, by omega, ⟨by omega, by omega⟩, fits_small (n := k + 1) (by omega)⟩
  · have h := cr_end E W Bf (fun j => mkA j E.length) (fun j => mkR j (runsL E).length) (fun j => mkA j E.length ++ GP j) (fun j => mkR j (runsL E).length ++ HP j) (runsL E).length ((runsL E).length + 70) i hi
    simp only [hX] at h
    refine SimC.run (ids := o15) gw_ok (by decide) h ?_ (by decide) o15_ids (by decide) (by simp) hgl
    simp only [allC_cons, allC_nil, and_true]
    exact ⟨fits_small (n := (runsL E).length + 70) (by omega), decide_eq_false (by omega)⟩
end Go.Proofs.Ytkpkdingeomhnaa

namespace Go.Proofs.Ytkpkdingeomhnaa
open Go Go.Vx
abbrev owE (f : Nat → SV) (k : Nat) : List (List Int) := evs (aOf f) (min k 2000)
theorem ow_pre (k : Nat) (f : Nat → SV) : runC gw 900 266 [.br false, .br false, .br false, .br false, .br false, .br false, .br false, .br false, .br false, .br false, .br false, .br false] (takeSeq 9 c8) [(0, .ro 3 k f)] [] [3, 5, 6, 7, 10] [0, 1, 2, 3, 13, 4, 6, 8, 10, 5, 7, 9, 11] =
    some (Ex.normal, [SV.ptr (0 : Nat) (0 : Nat), SV.own (1 : Nat), SV.ptr (2 : Nat) (0 : Nat), SV.ptr (3 : Nat) (0 : Nat), SV.own (4 : Nat)], (oB (owE f k) (owE f k) ([] ++ runsL (owE f k)) (fun _ => owE f k) (fun _ => runsL (owE f k))).map some, [f = scriptF (aOf f), Fits IntKind.i64 (↑k : Int), false = false, f = scriptF (aOf f), Fits IntKind.i64 (↑k : Int), (owE f k).length * (16 : Nat) ≤ (140737488355328 : Nat), (owE f k).length * (24 : Nat) ≤ (140737488355328 : Nat), (owE f k).length * (16 : Nat) ≤ (140737488355328 : Nat), (owE f k).length * (24 : Nat) ≤ (140737488355328 : Nat), (owE f k).length * (16 : Nat) ≤ (140737488355328 : Nat), (owE f k).length * (24 : Nat) ≤ (140737488355328 : Nat), (owE f k).length * (16 : Nat) ≤ (140737488355328 : Nat), (owE f k).length * (24 : Nat) ≤ (140737488355328 : Nat), (runsL (owE f k)).length ≤ (140737488355328 : Nat), (!decide ((↑(runsL (owE f k)).length : Int) = (↑(runsL (owE f k)).length : Int))) = false, Fits IntKind.i64 (↑(runsL (owE f k)).length : Int), Fits IntKind.i64 (↑(runsL (owE f k)).length : Int), (!decide (sub (owE f k) (0 : Nat) (owE f k).length = sub (owE f k) (0 : Nat) (owE f k).length)) = false, (0 : Nat) + (owE f k).length ≤ (owE f k).length, (0 : Nat) + (owE f k).length ≤ (owE f k).length, (owE f k).length ≤ (140737488355328 : Nat), (owE f k).length ≤ (140737488355328 : Nat), (0 : Nat) + (runsL (owE f k)).length ≤ (runsL (owE f k)).length, (0 : Nat) + (runsL (owE f k)).length ≤ (runsL (owE f k)).length, (runsL (owE f k)).length ≤ (140737488355328 : Nat), (runsL (owE f k)).length ≤ (140737488355328 : Nat), (!decide ((↑(runsL (owE f k)).length : Int) = (↑(runsL (owE f k)).length : Int))) = false, Fits IntKind.i64 (↑(runsL (owE f k)).length : Int), Fits IntKind.i64 (↑(runsL (owE f k)).length : Int), (!decide (sub (owE f k) (0 : Nat) (owE f k).length = sub (owE f k) (0 : Nat) (owE f k).length)) = false, (0 : Nat) + (owE f k).length ≤ (owE f k).length, (0 : Nat) + (owE f k).length ≤ (owE f k).length, (owE f k).length ≤ (140737488355328 : Nat), (owE f k).length ≤ (140737488355328 : Nat), (!decide (sub (runsL (owE f k)) (0 : Nat) (runsL (owE f k)).length = sub (runsL (owE f k)) (0 : Nat) (runsL (owE f k)).length)) = false, (0 : Nat) + (runsL (owE f k)).length ≤ (runsL (owE f k)).length, (0 : Nat) + (runsL (owE f k)).length ≤ (runsL (owE f k)).length, (runsL (owE f k)).length ≤ (140737488355328 : Nat), (runsL (owE f k)).length ≤ (140737488355328 : Nat), (!decide ((↑(runsL (owE f k)).length : Int) = (↑(runsL (owE f k)).length : Int))) = false, Fits IntKind.i64 (↑(runsL (owE f k)).length : Int), Fits IntKind.i64 (↑(runsL (owE f k)).length : Int), (!decide (sub (owE f k) (0 : Nat) (owE f k).length = sub (owE f k) (0 : Nat) (owE f k).length)) = false, (0 : Nat) + (owE f k).length ≤ (owE f k).length, (0 : Nat) + (owE f k).length ≤ (owE f k).length, (owE f k).length ≤ (140737488355328 : Nat), (owE f k).length ≤ (140737488355328 : Nat), (!decide (sub (runsL (owE f k)) (0 : Nat) (runsL (owE f k)).length = sub (runsL (owE f k)) (0 : Nat) (runsL (owE f k)).length)) = false, (0 : Nat) + (runsL (owE f k)).length ≤ (runsL (owE f k)).length, (0 : Nat) + (runsL (owE f k)).length ≤ (runsL (owE f k)).length, (runsL (owE f k)).length ≤ (140737488355328 : Nat), (runsL (owE f k)).length ≤ (140737488355328 : Nat), (!decide ((↑(runsL (owE f k)).length : Int) = (↑(runsL (owE f k)).length : Int))) = false, Fits IntKind.i64 (↑(runsL (owE f k)).length : Int), Fits IntKind.i64 (↑(runsL (owE f k)).length : Int), (!decide (sub (owE f k) (0 : Nat) (owE f k).length = sub (owE f k) (0 : Nat) (owE f k).length)) = false, (0 : Nat) + (owE f k).length ≤ (owE f k).length, (0 : Nat) + (owE f k).length ≤ (owE f k).length, (owE f k).length ≤ (140737488355328 : Nat), (owE f k).length ≤ (140737488355328 : Nat), (!decide (sub (runsL (owE f k)) (0 : Nat) (runsL (owE f k)).length = sub (runsL (owE f k)) (0 : Nat) (runsL (owE f k)).length)) = false, ([] ++ runsL (owE f k)).length * (24 : Nat) ≤ (140737488355328 : Nat)]) := by kernel_rfl
noncomputable abbrev p9 : Code := match dropSeq 9 c8 with | .seq a _ => a | _ => .skip
noncomputable abbrev p12 : Code := match dropSeq 12 c8 with | .seq a _ => a | _ => .skip
noncomputable abbrev p13 : Code := match dropSeq 13 c8 with | .seq a _ => a | _ => .skip
theorem ow_d9 : dropSeq 9 c8 = .seq p9 (dropSeq 10 c8) := by kernel_rfl
theorem ow_d10 : dropSeq 2 (dropSeq 10 c8) = .seq p12 (.seq p13 (dropSeq 14 c8)) := by kernel_rfl
theorem p9_d : dropSeq 1 p9 = .block 4 (.loop wwC) := by kernel_rfl
theorem p12_d : dropSeq 1 p12 = .block 10 (.loop wpC) := by kernel_rfl
theorem p13_d : dropSeq 1 p13 = .block 14 (.loop cwC) := by kernel_rfl
theorem p9_in (L W Bf : List (List Int)) (l r : Nat → List (List Int)) : runC gw 300 266 [] (takeSeq 1 p9) ([3, 5, 6, 7, 10].zip [.ptr 0 0, .own 1, .ptr 2 0, .ptr 3 0, .own 4]) (oB L W Bf l r) oK o13 =
    some (.normal, oV 0, (oB L W Bf l r).map some, []) := by kernel_rfl
theorem p10_in (L W Bf : List (List Int)) (l r G H : Nat → List (List Int)) : runC gw 300 266 [] (takeSeq 2 (dropSeq 10 c8)) ([3, 5, 6, 7, 10].zip [.ptr 0 0, .own 1, .ptr 2 0, .ptr 3 0, .own 4]) (oB L W Bf l r) [3, 5, 6, 7, 10, 14, 15] [0, 1, 2, 3, 4, 13, 14, 5, 6, 7, 8, 9, 10, 11, 12] =
    some (.normal, [.ptr 0 0, .own 1, .ptr 2 0, .ptr 3 0, .own 4, .ptr 5 0, .ptr 6 0], (stP L W Bf l r G H 0).map some, []) := by kernel_rfl
theorem p12_in (L W Bf : List (List Int)) (A R G H : Nat → List (List Int)) : runC gw 300 266 [] (takeSeq 1 p12) ([3, 5, 6, 7, 10, 14, 15].zip [.ptr 0 0, .own 1, .ptr 2 0, .ptr 3 0, .own 4, .ptr 5 0, .ptr 6 0]) (stP L W Bf A R G H 0) pK o15 =
    some (.normal, pV 0, (stP L W Bf A R G H 0).map some, []) := by kernel_rfl
theorem p13_in (L W Bf : List (List Int)) (A R X Y : Nat → List (List Int)) : runC gw 300 266 [] (takeSeq 1 p13) ([3, 5, 6, 7, 10, 14, 15].zip [.ptr 0 0, .own 1, .ptr 2 0, .ptr 3 0, .own 4, .ptr 5 0, .ptr 6 0]) (oC L W Bf A R X Y) qK o15 =
    some (.normal, qV 0, (oC L W Bf A R X Y).map some, []) := by kernel_rfl
theorem cw_go (E W Bf : List (List Int)) : ∀ i : Nat, i < 4 → runC gw 300 266 [.loop 46 (qK ++ [19, 20]) 15 (.exit 16) clG, .loop 55 (qK ++ [19, 22]) 15 (.exit 18) crG] cwC (qK.zip (qV (i : Int))) (oE E W Bf) qK o15 =
    some (.normal, qV ((i : Int) + 1), (oE E W Bf).map some,
      [Fits .i64 ((mkA i E.length).length : Int), LoopGood gw 266 (.loop clC) (qK ++ [19, 20]) 15 (.exit 16) clG, qV (i : Int) ++ [SV.int .i64 ((mkA i E.length).length : Int), SV.lit .i64 0] = qV (i : Int) ++ [SV.int .i64 ((mkA i E.length).length : Int), SV.lit .i64 0], oE E W Bf = oE E W Bf, i < 4, E.length ≤ 2000,
       Fits .i64 ((mkR i (runsL E).length).length : Int), LoopGood gw 266 (.loop crC) (qK ++ [19, 22]) 15 (.exit 18) crG, qV (i : Int) ++ [SV.int .i64 ((mkR i (runsL E).length).length : Int), SV.lit .i64 0] = qV (i : Int) ++ [SV.int .i64 ((mkR i (runsL E).length).length : Int), SV.lit .i64 0], oE E W Bf = oE E W Bf, i < 4, (runsL E).length ≤ 2000])
  | 0, _ => by kernel_rfl
  | 1, _ => by kernel_rfl
  | 2, _ => by kernel_rfl
  | 3, _ => by kernel_rfl
  | i + 4, h => absurd h (by omega)
theorem cw_end (L W Bf : List (List Int)) (A R X Y : Nat → List (List Int)) : runC gw 300 266 [] cwC (qK.zip (qV 4)) (oC L W Bf A R X Y) [3, 5, 10] o15 =
    some (.exit 14, [.ptr 0 0, .own 1, .own 4], (oC L W Bf A R X Y).map some, []) := by kernel_rfl
end Go.Proofs.Ytkpkdingeomhnaa

namespace Go.Proofs.Ytkpkdingeomhnaa
open Go Go.Vx
theorem ow_fin (L W Bf : List (List Int)) (A R X Y : Nat → List (List Int)) : runC gw 900 266 [.br true, .br true, .br true] (dropSeq 14 c8) ([3, 5, 10].zip [.ptr 0 0, .own 1, .own 4]) (oC L W Bf A R X Y) [2] [0] =
    some (Ex.ret, [SV.sbool true], [some (Body.log L)], [decide ((↑L.length : Int) = (↑W.length : Int)) = true, Fits IntKind.i64 (↑W.length : Int), decide (sub (runsL L) (0 : Nat) (runsL L).length = sub Bf (0 : Nat) Bf.length) = true, (0 : Nat) + (runsL L).length ≤ (runsL L).length, (0 : Nat) + Bf.length ≤ Bf.length, (runsL L).length ≤ (140737488355328 : Nat), Bf.length ≤ (140737488355328 : Nat), L.length * (24 : Nat) ≤ (140737488355328 : Nat), decide (sub L (0 : Nat) L.length = sub W (0 : Nat) W.length) = true, (0 : Nat) + L.length ≤ L.length, (0 : Nat) + W.length ≤ W.length, L.length ≤ (140737488355328 : Nat), W.length ≤ (140737488355328 : Nat), L.length * (16 : Nat) ≤ (140737488355328 : Nat)]) := by kernel_rfl
/-! ### the law -/
theorem blt_d (i j : Nat) : Nat.blt i j = decide (i < j) := by
  by_cases h : i < j
  · rw [decide_eq_true h]; rw [Nat.blt_eq]; exact h
  · rw [decide_eq_false h]
    cases e : Nat.blt i j with
    | false => rfl
    | true => rw [Nat.blt_eq] at e; exact absurd e h
/-- list i is written over, for those before j -/
def lN (M : Nat → List (List Int)) (E : List (List Int)) (j i : Nat) : List (List Int) := match Nat.blt i j with | true => M i | false => E
theorem lN_self (M : Nat → List (List Int)) (E : List (List Int)) (j : Nat) : lN M E j j = E := by simp [lN, blt_d]
theorem lN_zero (M : Nat → List (List Int)) (E : List (List Int)) : lN M E 0 = fun _ => E := by funext i; simp [lN, blt_d]
theorem lN_succ (M : Nat → List (List Int)) (E : List (List Int)) (j : Nat) : updL (lN M E j) j (M j) = lN M E (j + 1) := by
  funext i
  by_cases h : i = j
  · subst h; simp [updL, lN, blt_d]
  · have h1 : Nat.beq i j = false := by
      cases e : Nat.beq i j with
      | false => rfl
      | true => exact absurd (Nat.eq_of_beq_eq_true e) h
    have h2 : decide (i < j + 1) = decide (i < j) := by
      by_cases h3 : i < j
      · rw [decide_eq_true h3, decide_eq_true (by omega)]
      · rw [decide_eq_false h3, decide_eq_false (by omega)]
    simp only [updL, lN, h1, blt_d, h2]
theorem lN_le {M : Nat → List (List Int)} {E : List (List Int)} (hM : ∀ i, (M i).length ≤ 2000) (hE : E.length ≤ 2000) (j i : Nat) : (lN M E j i).length ≤ 2000 := by
  unfold lN; split
  · exact hM i
  · exact hE
abbrev MA (E : List (List Int)) (i : Nat) : List (List Int) := mkA i E.length
abbrev MR (E : List (List Int)) (i : Nat) : List (List Int) := mkR i (runsL E).length
section
variable {E W Bf : List (List Int)} {W0 : World} {OW : Vx.Own}
theorem ow_writes (hE : E.length ≤ 2000) (h2 : ∀ x ∈ E, x.length = 2) (hR : (runsL E).length ≤ 2000) (h3 : ∀ x ∈ runsL E, x.length = 3) (a : Act) (w : World)
    (x : StG gw W0 OW 266 ([3, 5, 6, 7, 10].zip [.ptr 0 0, .own 1, .ptr 2 0, .ptr 3 0, .own 4]) (oB E W Bf (fun _ => E) (fun _ => runsL E)) a w) (Q : Exit → Act → World → Prop)
    (hQ : ∀ a' w', StG gw W0 OW 266 ([3, 5, 6, 7, 10].zip [.ptr 0 0, .own 1, .ptr 2 0, .ptr 3 0, .own 4]) (oB E W Bf (lN (MA E) E 4) (lN (MR E) (runsL E) 4)) a' w' → Q .normal a' w') : p9.wp gw.P Q a w := by
  refine x.cut (k := 1) gw_ok (by decide) (p9_in E W Bf (fun _ => E) (fun _ => runsL E)) (fun p hp => by cases hp) (by decide) (by decide) (by simp) fun a1 w1 x1 => ?_
  rw [p9_d]
  refine wp_block ?_
  refine StG.iter (W := W0) (OW := OW) (nT := 266) (S := fun j => oK.zip (oV (j : Int))) (B := fun j => oB E W Bf (lN (MA E) E j) (lN (MR E) (runsL E) j)) (N := 4) (fun i hi a w x Q' hQ' => ?_) (fun a w x => ?_) 0 (by omega) a1 w1 (by rw [lN_zero, lN_zero]; exact x1)
  · have h := ww_go E W Bf (lN (MA E) E i) (lN (MR E) (runsL E) i) i hi
    rw [lN_self, lN_self, lN_succ (MA E), lN_succ (MR E)] at h
    refine x.run gw_ok (by decide) h ?_ (by decide) (by decide) (by simp) fun a' w' x' => hQ' a' w' x'
    simp only [allC_cons, allC_nil, and_true]
    exact ⟨wl_loop, trivial, trivial, hi, hE, h2, wr_loop, trivial, trivial, hi, hR, h3⟩
  · refine x.run gw_ok (by decide) (ww_end E W Bf (lN (MA E) E 4) (lN (MR E) (runsL E) 4)) (fun p hp => by cases hp) (by decide) (by decide) (by simp) fun a' w' x' => ?_
    exact hQ a' w' x'
theorem ow_checks (hE : E.length ≤ 2000) (hR : (runsL E).length ≤ 2000) (a : Act) (w : World)
    (x : StG gw W0 OW 266 ([3, 5, 6, 7, 10, 14, 15].zip [.ptr 0 0, .own 1, .ptr 2 0, .ptr 3 0, .own 4, .ptr 5 0, .ptr 6 0]) (oE E W Bf) a w) (Q : Exit → Act → World → Prop)
    (hQ : ∀ a' w', StG gw W0 OW 266 ([3, 5, 10].zip [.ptr 0 0, .own 1, .own 4]) (oE E W Bf) a' w' → Q .normal a' w') : p13.wp gw.P Q a w := by
  refine x.cut (k := 1) gw_ok (by decide) (p13_in E W Bf _ _ _ _) (fun p hp => by cases hp) (by decide) (by decide) (by simp) fun a1 w1 x1 => ?_
  rw [p13_d]
  refine wp_block ?_
  refine StG.iter (W := W0) (OW := OW) (nT := 266) (S := fun j => qK.zip (qV (j : Int))) (B := fun _ => oE E W Bf) (N := 4) (fun i hi a w x Q' hQ' => ?_) (fun a w x => ?_) 0 (by omega) a1 w1 x1
  · refine x.run gw_ok (by decide) (cw_go E W Bf i hi) ?_ (by decide) (by decide) (by simp) fun a' w' x' => hQ' a' w' x'
    simp only [allC_cons, allC_nil, and_true, mkA_len, mkR_len]
    exact ⟨fits_small (by omega), cl_loop, trivial, trivial, hi, hE, fits_small (by omega), cr_loop, trivial, trivial, hi, hR⟩
  · refine x.run gw_ok (by decide) (cw_end E W Bf _ _ _ _) (fun p hp => by cases hp) (by decide) (by decide) (by simp) fun a' w' x' => ?_
    exact hQ a' w' x'
end
theorem ow_stP (E W Bf : List (List Int)) : stP E W Bf (lN (MA E) E 4) (lN (MR E) (runsL E) 4) GP HP 4 = oE E W Bf := by kernel_rfl
theorem ownLaw_ok (k : Nat) (a : Nat → Nat → Int) (hk : Fits .i64 (k : Int)) : FnOk gw 8 [.ro 3 k (scriptF a)] [] { val := .sbool true } := by
  refine FnOk.ofG (fn := Try.f8) (c := c8) (t := 2) (S := [(0, .ro 3 k (scriptF a))]) gw_ok rfl rfl (by decide) (show 1 ≤ Try.f8.ntmps by decide) (by kernel_rfl) (by kernel_rfl) sbool_all fun W0 OW hG act w x => ?_
  have hs := (aOf_script a).symm
  have hE : (owE (scriptF a) k).length ≤ 2000 := evs_min _ _
  have h2 : ∀ x ∈ owE (scriptF a) k, x.length = 2 := evs_row _ _
  have hR0 := (runsL_ok (owE (scriptF a) k)).len
  have h3 := (runsL_ok (owE (scriptF a) k)).row
  have hp := ow_pre k (scriptF a)
  generalize owE (scriptF a) k = E at *
  have hR : (runsL E).length ≤ 2000 := by omega
  have FR : Fits .i64 ((runsL E).length : Int) := fits_small (by omega)
  refine x.cut (k := 9) gw_ok (by decide) hp ?_ (by decide) (by decide) (by simp) fun a1 w1 x1 => ?_
  · have e1 : (!decide (((runsL E).length : Int) = ((runsL E).length : Int))) = false := by simp
    have e2 : (!decide (sub E 0 E.length = sub E 0 E.length)) = false := by simp
    have e3 : (!decide (sub (runsL E) 0 (runsL E).length = sub (runsL E) 0 (runsL E).length)) = false := by simp
    have e4 : ([] ++ runsL E).length * 24 ≤ 140737488355328 := by simp; omega
    (simp only [allC_cons, allC_nil, and_true]; repeat' (with_reducible (first | refine And.intro ?_ ?_ | exact True.intro | assumption | omega | exact decide_eq_true (by first | assumption | omega) | exact decide_eq_false (by first | assumption | omega) | rfl | (simp; done))))
  rw [ow_d9]
  refine wp_seq (ow_writes hE h2 hR h3 a1 w1 x1 _ fun a2 w2 x2 => ?_)
  refine x2.cut (k := 2) gw_ok (by decide) (p10_in E E ([] ++ runsL E) (lN (MA E) E 4) (lN (MR E) (runsL E) 4) GP HP) (fun p hp => by cases hp) (by decide) (by decide) (by simp) fun a3 w3 x3 => ?_
  rw [ow_d10]
  refine wp_seq ?_
  refine x3.cut (k := 1) gw_ok (by decide) (p12_in E E ([] ++ runsL E) (lN (MA E) E 4) (lN (MR E) (runsL E) 4) GP HP) (fun p hp => by cases hp) (by decide) (by decide) (by simp) fun a4 w4 x4 => ?_
  rw [p12_d]
  refine wp_block ?_
  refine wp_all E E ([] ++ runsL E) (lN (MA E) E 4) (lN (MR E) (runsL E) 4) (lN_le (fun i => by rw [mkA_len]; exact hE) hE 4) (lN_le (fun i => by rw [mkR_len]; exact hR) hR 4) a4 w4 x4 _ fun a5 w5 x5 => ?_
  rw [ow_stP] at x5
  refine wp_seq (ow_checks hE hR a5 w5 x5 _ fun a6 w6 x6 => ?_)
  refine x6.run gw_ok (by decide) (B' := [.log E]) (ow_fin E E ([] ++ runsL E) _ _ _ _) ?_ (by decide) (by decide) (by simp) fun a7 w7 x7 => ?_
  · have e3 : decide (sub (runsL E) 0 (runsL E).length = sub ([] ++ runsL E) 0 ([] ++ runsL E).length) = true := by simp
    have e4 : decide (sub E 0 E.length = sub E 0 E.length) = true := by simp
    have e5 : ([] ++ runsL E).length = (runsL E).length := by simp
    have e6 : Fits .i64 (E.length : Int) := fits_small (by omega)
    (simp only [allC_cons, allC_nil, and_true]; repeat' (with_reducible (first | refine And.intro ?_ ?_ | exact True.intro | assumption | omega | exact decide_eq_true (by first | assumption | omega) | exact decide_eq_false (by first | assumption | omega) | rfl | (simp; done))))
  · exact ⟨rfl, _, _, x7, by kernel_rfl⟩
end Go.Proofs.Ytkpkdingeomhnaa
