/- Accounts of this seat's functions: lemmas, no statement of their own. No conditions. -/
import Derived.Test.YtibfgdbkobgemaaTPi
namespace Go.Proofs.Ytibfgdbkobgemaa
open Go Go.Vx
/-! ### the accounts of step and ends -/
def bankAs (cs : List SV) : Option (List Int × List Int) := match numsAs (List.replicate 40 .u64) (cs.take 40), numsAs (List.replicate 136 .i64) ((cs.drop 40).take 136) with
  | some le, some ln => some (le, ln)
  | _, _ => none
theorem cells_bank {cs : List SV} {le ln : List Int} {c d : SV} (h : bankAs cs = some (le, ln)) (hd : cs.drop 176 = [c, d]) (hc : isAggS c = false) (hc2 : isAggS d = false) :
    (BImp (.cells cs) (.cells (bk176 (atL le) (atL ln) ++ [c, d])) ∧ ∀ l, Body.cells cs = .cells l → flatL l) := by
  unfold bankAs at h
  split at h
  · rename_i le' ln' h1 h2
    simp only [Option.some.injEq, Prod.mk.injEq] at h
    obtain ⟨rfl, rfl⟩ := h
    have a1 := impL_nums (i := 0) h1 (a := atL le') fun j _ => by rw [Nat.zero_add]; rfl
    have a2 := impL_nums (i := 0) h2 (a := atL ln') fun j _ => by rw [Nat.zero_add]; rfl
    have e : cs = cs.take 40 ++ (cs.drop 40).take 136 ++ [c, d] := by
      rw [← hd, List.append_assoc, show cs.drop 176 = (cs.drop 40).drop 136 by rw [List.drop_drop], List.take_append_drop, List.take_append_drop]
    refine ⟨?_, fun l hl => ?_⟩
    · have hI : ImpL (cs.take 40 ++ (cs.drop 40).take 136 ++ [c, d]) (bk176 (atL le') (atL ln') ++ [c, d]) := impL_app (impL_app a1.1 a2.1) ⟨DenImp.refl _, DenImp.refl _, trivial⟩
      rw [← e] at hI
      exact .cells hI
    · injection hl with hl
      subst hl
      intro x hdm
      rw [e] at hdm
      rcases List.mem_append.1 hdm with hdm | hdm
      · rcases List.mem_append.1 hdm with hdm | hdm
        · exact a1.2 x hdm
        · exact a2.2 x hdm
      · simp at hdm; rcases hdm with rfl | rfl
        · exact hc
        · exact hc2
  · simp at h
inductive TailK where
  | quiet | logs | first | other
def tailK (l : List SV) : TailK := match l with
  | [.raw (.pointer none), .own 1] => .quiet
  | [.ptr 1 0, .own 2] => .logs
  | [.ptr 1 0, .raw (.slice none 0 0)] => .first
  | _ => .other
theorem tail_quiet {l : List SV} (h : tailK l = .quiet) : l = [nilR, .own 1] := by
  unfold tailK at h; split at h <;> first | rfl | simp at h
theorem tail_logs {l : List SV} (h : tailK l = .logs) : l = [.ptr 1 0, .own 2] := by
  unfold tailK at h; split at h <;> first | rfl | simp at h
theorem tail_first {l : List SV} (h : tailK l = .first) : l = [.ptr 1 0, .raw (.slice none 0 0)] := by
  unfold tailK at h; split at h <;> first | rfl | simp at h
noncomputable def F21 : SumF := fun args B => match args, B with
  | [.ptr 0 0, .agg xs], [.cells cs, .rows K l] => match numsAs rowK xs, bankAs cs, tailK (cs.drop 176), sameKs K [.i64, .i64] with
    | some lx, some (le, ln), .quiet, true => some { val := .sbool true, upd := [(0, some (bnV (scE (atL lx) (atL le)) (scN (atL lx) (atL ln)) nilR 2)), (1, none)], new := [.rows [.i64, .i64] (l ++ scL (atL lx))], C := [Inv (atL le) (atL ln), l.length < 1000000] }
    | _, _, _, _ => none
  | [.ptr 0 0, .agg xs], [.cells cs, .log w, .rows K l] => match numsAs rowK xs, bankAs cs, tailK (cs.drop 176), sameKs K [.i64, .i64] with
    | some lx, some (le, ln), .logs, true => some { val := .sbool true, upd := [(0, some (bnV (scE (atL lx) (atL le)) (scN (atL lx) (atL ln)) (.ptr 1 0) 3)), (1, some (.log (w ++ scL (atL lx)))), (2, none)], new := [.rows [.i64, .i64] (l ++ scL (atL lx))], C := [Inv (atL le) (atL ln), l.length < 1000000, w.length < 1099511627776] }
    | _, _, _, _ => none
  | [.ptr 0 0, .agg xs], [.cells cs, .log w] => match numsAs rowK xs, bankAs cs, tailK (cs.drop 176) with
    | some lx, some (le, ln), .first => some { val := .sbool true, upd := [(0, some (bnV (scE (atL lx) (atL le)) (scN (atL lx) (atL ln)) (.ptr 1 0) 2)), (1, some (.log (w ++ scL (atL lx))))], new := [.rows [.i64, .i64] (scL (atL lx))], C := [Inv (atL le) (atL ln), w.length < 1099511627776] }
    | _, _, _ => none
  | _, _ => none
theorem row_facts {x : Nat → Int} (f : factsL (svF rowK x 0)) : (∀ i, i < 16 → Byte (x (4 + i))) ∧ (∀ i, i < 17 → Byte (x (20 + i))) := by
  refine ⟨fun i hi => ?_, fun i hi => ?_⟩
  · have h := facts_svF f (4 + i) .u8 (by
      have : ∀ i, i < 16 → rowK[4 + i]? = some IntKind.u8 := by decide
      exact this i hi)
    rw [Nat.zero_add] at h
    exact ⟨h.1, Int.lt_of_le_of_lt h.2 (by decide)⟩
  · have h := facts_svF f (20 + i) .u8 (by
      have : ∀ i, i < 17 → rowK[20 + i]? = some IntKind.u8 := by decide
      exact this i hi)
    rw [Nat.zero_add] at h
    exact ⟨h.1, Int.lt_of_le_of_lt h.2 (by decide)⟩
theorem acc21 : Acc gl 21 F21 := by
  intro args B out h hC
  unfold F21 at h
  split at h
  · rename_i xs cs K l
    split at h
    · rename_i lx le ln hx hb hd hK
      obtain rfl := sameKs_eq hK
      have hd := tail_quiet hd
      simp only [Option.some.injEq] at h; subst h
      simp only [allC_cons, allC_nil, and_true] at hC
      obtain ⟨c1, c2⟩ := hC
      refine FnOk.imp (args' := [.ptr 0 0, rwV (atL lx)]) ?_ ⟨DenImp.refl _, nums_imp hx, trivial⟩
      refine FnOk.preB (B' := [bnV (atL le) (atL ln) nilR 1, .rows [.i64, .i64] l]) ?_ ⟨cells_bank hb hd rfl rfl, ⟨BImp.refl _, fun _ h => by simp at h⟩, trivial⟩ (fun j => by
        match j with
        | 0 => rfl
        | 1 => rfl
        | 2 => rfl
        | j + 3 => rfl)
      refine FnOk.facts fun ⟨_, f, _⟩ => ?_
      obtain ⟨r1, r2⟩ := row_facts f
      exact FnOk.val (step_0 (w := []) c1 r1 c2 (by simp)) (fun _ _ _ _ h => h)
    · simp at h
  · rename_i xs cs w K l
    split at h
    · rename_i lx le ln hx hb hd hK
      obtain rfl := sameKs_eq hK
      have hd := tail_logs hd
      simp only [Option.some.injEq] at h; subst h
      simp only [allC_cons, allC_nil, and_true] at hC
      obtain ⟨c1, c2, c3⟩ := hC
      refine FnOk.imp (args' := [.ptr 0 0, rwV (atL lx)]) ?_ ⟨DenImp.refl _, nums_imp hx, trivial⟩
      refine FnOk.preB (B' := [bnV (atL le) (atL ln) (.ptr 1 0) 2, .log w, .rows [.i64, .i64] l]) ?_ ⟨cells_bank hb hd rfl rfl, ⟨BImp.refl _, fun _ h => by simp at h⟩, ⟨BImp.refl _, fun _ h => by simp at h⟩, trivial⟩ (fun j => by
        match j with
        | 0 => rfl
        | 1 => rfl
        | 2 => rfl
        | 3 => rfl
        | j + 4 => rfl)
      refine FnOk.facts fun ⟨_, f, _⟩ => ?_
      obtain ⟨r1, r2⟩ := row_facts f
      exact FnOk.val (step_1 c1 r1 c2 c3) (fun _ _ _ _ h => h)
    · simp at h
  · rename_i xs cs w
    split at h
    · rename_i lx le ln hx hb hd
      have hd := tail_first hd
      simp only [Option.some.injEq] at h; subst h
      simp only [allC_cons, allC_nil, and_true] at hC
      obtain ⟨c1, c2⟩ := hC
      refine FnOk.imp (args' := [.ptr 0 0, rwV (atL lx)]) ?_ ⟨DenImp.refl _, nums_imp hx, trivial⟩
      refine FnOk.preB (B' := [.cells ((bk176 (atL le) (atL ln) ++ [.ptr 1 0]) ++ [.raw (.slice none 0 0)]), .log w]) ?_ ⟨by rw [List.append_assoc]; exact cells_bank hb hd rfl rfl, ⟨BImp.refl _, fun _ h => by simp at h⟩, trivial⟩ (fun j => by
        match j with
        | 0 => rfl
        | 1 => rfl
        | 2 => rfl
        | j + 3 => rfl)
      refine FnOk.facts fun ⟨_, f, _⟩ => ?_
      obtain ⟨r1, r2⟩ := row_facts f
      refine FnOk.adoptB (B := [.cells ((bk176 (atL le) (atL ln) ++ [.ptr 1 0]) ++ [.raw (.slice none 0 0)]), .log w]) (k := 0) (cs := bk176 (atL le) (atL ln) ++ [.ptr 1 0]) (bd := .rows [.i64, .i64] []) (C := []) (bd' := .rows [.i64, .i64] ([] ++ scL (atL lx))) (upd := [(0, some (bnV (scE (atL lx) (atL le)) (scN (atL lx) (atL ln)) (.ptr 1 0) 3)), (1, some (.log (w ++ scL (atL lx)))), (2, none)]) (upd' := [(0, some (bnV (scE (atL lx) (atL le)) (scN (atL lx) (atL ln)) (.ptr 1 0) 2)), (1, some (.log (w ++ scL (atL lx))))]) rfl rfl (by show ([0, 1, 3] : List Nat).Nodup; decide) (by
        have := step_1 (l := []) c1 r1 (by simp) c2
        simp only [List.length_cons, List.length_nil, List.append_assoc, List.set_cons_zero, List.cons_append, List.nil_append] at this ⊢
        exact this) rfl (by simp) (fun j hj => by
        match j, hj with
        | 0, _ => show _ = _; kernel_rfl
        | 1, _ => show _ = _; kernel_rfl
        | 2, _ => show _ = _; kernel_rfl
        | j + 3, hj => exact absurd hj (by simp))
    · simp at h
  · simp at h
/-! ### ends -/
abbrev enD (n : Nat → Int) (i : Nat) : Prop := NG (atL (listF 17 (fun j => n (17 * i + j)) 0))
abbrev enE (e n : Nat → Int) (i : Nat) : Prop := (!decide (listF 17 (bytesN (L5 (fun r => e (5 * i + r)))) 0 = listF 17 (atL (listF 17 (fun j => n (17 * i + j)) 0)) 0)) = false
abbrev enC (e n : Nat → Int) (l w : List (List Int)) : List Prop := [enD n 0, enE e n 0, enD n 1, enE e n 1, enD n 2, enE e n 2, enD n 3, enE e n 3, enD n 4, enE e n 4, enD n 5, enE e n 5, enD n 6, enE e n 6, enD n 7, enE e n 7, w = l, w.length ≤ 140737488355328, w.length * 16 ≤ 2 ^ 47]
theorem en_run (e n : Nat → Int) (l w : List (List Int)) : runF gl 900 (List.replicate 8 (.br false)) 22 [.ptr 0 0] [bnV e n (.ptr 1 0) 2, .log w, .rows [.i64, .i64] l] [] =
    some (.sbool true, [some (bnV e n (.ptr 1 0) 2), some (.log w), some (.rows [.i64, .i64] l)], enC e n l w) :=
  run_parts (by kernel_rfl) (by kernel_rfl) (by kernel_rfl)
theorem en_ok {e n : Nat → Int} {l w : List (List Int)} (h : Inv e n) (hw : w = l) (hl : w.length < 100000000) : AllC (enC e n l w) := by
  obtain ⟨N, hN⟩ := h
  have H : ∀ q, q < 8 → enD n q ∧ enE e n q := fun q hq => by
    obtain ⟨h1, h2, h3⟩ := hN q hq
    have e1 : listF 17 (fun j => n (17 * q + j)) 0 = listF 17 (byteN (N q)) 0 := listF_eq0.2 h3
    unfold enD enE
    rw [e1]
    refine ⟨NG_L.2 (NG_by h2), ?_⟩
    have e2 := bytes_eq h1
    rw [Int.emod_eq_of_lt h2.1 h2.2] at e2
    have e3 : listF 17 (atL (listF 17 (byteN (N q)) 0)) 0 = listF 17 (byteN (N q)) 0 := listF_eq0.2 fun j hj => atL_listF hj
    rw [e3, show listF 17 (bytesN (L5 (fun r => e (5 * q + r)))) 0 = _ from e2]
    simp
  simp only [enC, allC_cons, allC_nil, and_true]
  exact ⟨(H 0 (by decide)).1, (H 0 (by decide)).2, (H 1 (by decide)).1, (H 1 (by decide)).2, (H 2 (by decide)).1, (H 2 (by decide)).2, (H 3 (by decide)).1, (H 3 (by decide)).2, (H 4 (by decide)).1, (H 4 (by decide)).2, (H 5 (by decide)).1, (H 5 (by decide)).2, (H 6 (by decide)).1, (H 6 (by decide)).2, (H 7 (by decide)).1, (H 7 (by decide)).2, hw, by omega, by omega⟩
noncomputable def F22 : SumF := fun args B => match args, B with
  | [.ptr 0 0], [.cells cs, .log w, .rows K l] => match bankAs cs, tailK (cs.drop 176), sameKs K [.i64, .i64] with
    | some (le, ln), .logs, true => some { val := .sbool true, upd := [(0, some (bnV (atL le) (atL ln) (.ptr 1 0) 2))], C := [Inv (atL le) (atL ln), w = l, w.length < 100000000] }
    | _, _, _ => none
  | _, _ => none
theorem acc22 : Acc gl 22 F22 := by
  intro args B out h hC
  unfold F22 at h
  split at h
  · rename_i cs w K l
    split at h
    · rename_i le ln hb hd hK
      obtain rfl := sameKs_eq hK
      have hd := tail_logs hd
      simp only [Option.some.injEq] at h; subst h
      simp only [allC_cons, allC_nil, and_true] at hC
      obtain ⟨c1, c2, c3⟩ := hC
      refine FnOk.preB (B' := [bnV (atL le) (atL ln) (.ptr 1 0) 2, .log w, .rows [.i64, .i64] l]) ?_ ⟨cells_bank hb hd rfl rfl, ⟨BImp.refl _, fun _ h => by simp at h⟩, ⟨BImp.refl _, fun _ h => by simp at h⟩, trivial⟩ (fun j => by
        match j with
        | 0 => rfl
        | 1 => rfl
        | 2 => rfl
        | j + 3 => rfl)
      exact FnOk.val (FnOk.run (out := { val := .sbool true, upd := [(0, some (bnV (atL le) (atL ln) (.ptr 1 0) 2))] }) (new := []) gl_ok (en_run _ _ _ _) (en_ok c1 c2 c3) (by simp [upto]) rfl (by simp) (by simp) (fun j hj => by
        match j, hj with
        | 0, _ => rfl
        | 1, _ => rfl
        | 2, _ => rfl
        | j + 3, hj => exact absurd hj (by simp))) (fun _ _ _ _ h => h)
    · simp at h
  · simp at h
noncomputable abbrev gm : Ctx := gl.add [(21, F21), (22, F22)]
theorem gm_ok : CtxU gm := gl_ok.add mixed noGo (by
  intro x hx
  simp only [List.mem_cons, List.not_mem_nil, or_false] at hx
  rcases hx with rfl | rfl
  · exact acc21
  · exact acc22)
end Go.Proofs.Ytibfgdbkobgemaa
