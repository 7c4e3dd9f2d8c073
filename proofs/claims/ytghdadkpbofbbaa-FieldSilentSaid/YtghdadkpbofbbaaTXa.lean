/- Accounts of this seat's functions: lemmas, no statement of their own. No conditions. -/
import Derived.Test.YtghdadkpbofbbaaTX
namespace Go.Proofs.Ytghdadkpbofbbaa
open Go Go.Vx
/-! ### the accounts of step and stands -/
def bankAs (cs : List SV) : Option (List Int × List Int) := match numsAs (List.replicate 40 .u64) (cs.take 40), numsAs (List.replicate 128 .i64) ((cs.drop 40).take 128) with
  | some le, some ln => some (le, ln)
  | _, _ => none
noncomputable abbrev bk168 (e n : Nat → Int) : List SV := svF (List.replicate 40 .u64) e 0 ++ svF (List.replicate 128 .i64) n 0
theorem cells_bank {cs : List SV} {le ln : List Int} {c : SV} (h : bankAs cs = some (le, ln)) (hd : cs.drop 168 = [c]) (hc : isAggS c = false) :
    (BImp (.cells cs) (.cells (bk168 (atL le) (atL ln) ++ [c])) ∧ ∀ l, Body.cells cs = .cells l → flatL l) := by
  unfold bankAs at h
  split at h
  · rename_i le' ln' h1 h2
    simp only [Option.some.injEq, Prod.mk.injEq] at h
    obtain ⟨rfl, rfl⟩ := h
    have a1 := impL_nums (i := 0) h1 (a := atL le') fun j _ => by rw [Nat.zero_add]; rfl
    have a2 := impL_nums (i := 0) h2 (a := atL ln') fun j _ => by rw [Nat.zero_add]; rfl
    have e : cs = cs.take 40 ++ (cs.drop 40).take 128 ++ [c] := by
      rw [← hd, List.append_assoc, show cs.drop 168 = (cs.drop 40).drop 128 by rw [List.drop_drop], List.take_append_drop, List.take_append_drop]
    refine ⟨?_, fun l hl => ?_⟩
    · have hI : ImpL (cs.take 40 ++ (cs.drop 40).take 128 ++ [c]) (bk168 (atL le') (atL ln') ++ [c]) := impL_app (impL_app a1.1 a2.1) ⟨DenImp.refl _, trivial⟩
      rw [← e] at hI
      exact .cells hI
    · injection hl with hl
      subst hl
      intro d hdm
      rw [e] at hdm
      rcases List.mem_append.1 hdm with hdm | hdm
      · rcases List.mem_append.1 hdm with hdm | hdm
        · exact a1.2 d hdm
        · exact a2.2 d hdm
      · simp at hdm; subst hdm; exact hc
  · simp at h
noncomputable def F10 : SumF := fun args B => match args, B with
  | [.ptr 0 0, .raw (.pointer none), .agg xs], [.cells cs, .rows K l] => match numsAs rowK xs, bankAs cs, cs.drop 168, sameKs K [.i64, .i64] with
    | some lx, some (le, ln), [.own 1], true => some { val := .tuple [], upd := [(0, some (bkV (scE (atL lx) (atL le)) (scN (atL lx) (atL ln)) 2)), (1, none)], new := [.rows [.i64, .i64] (l ++ scL (atL lx))], C := [Inv (atL le) (atL ln), l.length < 1000000] }
    | _, _, _, _ => none
  | [.ptr 0 0, .ptr 1 0, .agg xs], [.cells cs, .log w, .rows K l] => match numsAs rowK xs, bankAs cs, cs.drop 168, sameKs K [.i64, .i64] with
    | some lx, some (le, ln), [.own 2], true => some { val := .tuple [], upd := [(0, some (bkV (scE (atL lx) (atL le)) (scN (atL lx) (atL ln)) 3)), (1, some (.log (w ++ scL (atL lx)))), (2, none)], new := [.rows [.i64, .i64] (l ++ scL (atL lx))], C := [Inv (atL le) (atL ln), l.length < 1000000, w.length < 1099511627776] }
    | _, _, _, _ => none
  | [.ptr 0 0, .raw (.pointer none), .agg xs], [.cells cs] => match numsAs rowK xs, bankAs cs, cs.drop 168 with
    | some lx, some (le, ln), [.raw (.slice none 0 0)] => some { val := .tuple [], upd := [(0, some (bkV (scE (atL lx) (atL le)) (scN (atL lx) (atL ln)) 1))], new := [.rows [.i64, .i64] (scL (atL lx))], C := [Inv (atL le) (atL ln)] }
    | _, _, _ => none
  | _, _ => none
theorem row_facts {x : Nat → Int} (f : factsL (svF rowK x 0)) : (∀ i, i < 32 → Byte (x (4 + i))) ∧ (0 ≤ x 36 ∧ x 36 < 4294967296) ∧ 0 ≤ x 37 := by
  refine ⟨fun i hi => ?_, ?_, ?_⟩
  · have h := facts_svF f (4 + i) .u8 (by
      have : ∀ i, i < 32 → rowK[4 + i]? = some IntKind.u8 := by decide
      exact this i hi)
    rw [Nat.zero_add] at h
    exact ⟨h.1, Int.lt_of_le_of_lt h.2 (by decide)⟩
  · have h := facts_svF f 36 .u32 rfl
    rw [Nat.zero_add] at h
    exact ⟨h.1, Int.lt_of_le_of_lt h.2 (by decide)⟩
  · have h := facts_svF f 37 .u64 rfl
    rw [Nat.zero_add] at h
    exact h.1
theorem acc10 : Acc gRm 10 F10 := by
  intro args B out h hC
  unfold F10 at h
  split at h
  · rename_i xs cs K l
    split at h
    · rename_i lx le ln hx hb hd hK
      obtain rfl := sameKs_eq hK
      simp only [Option.some.injEq] at h; subst h
      simp only [allC_cons, allC_nil, and_true] at hC
      obtain ⟨c1, c2⟩ := hC
      refine FnOk.imp (args' := [.ptr 0 0, .raw (.pointer none), rwV (atL lx)]) ?_ ⟨DenImp.refl _, DenImp.refl _, nums_imp hx, trivial⟩
      refine FnOk.preB (B' := [bkV (atL le) (atL ln) 1, .rows [.i64, .i64] l]) ?_ ⟨cells_bank hb hd rfl, ⟨BImp.refl _, fun _ h => by simp at h⟩, trivial⟩ (fun j => by
        match j with
        | 0 => rfl
        | 1 => rfl
        | 2 => rfl
        | j + 3 => rfl)
      refine FnOk.facts fun ⟨_, _, f, _⟩ => ?_
      obtain ⟨r1, r2, r3⟩ := row_facts f
      exact step_0 (w := []) c1 r2 c2 (by simp)
    · simp at h
  · rename_i xs cs w K l
    split at h
    · rename_i lx le ln hx hb hd hK
      obtain rfl := sameKs_eq hK
      simp only [Option.some.injEq] at h; subst h
      simp only [allC_cons, allC_nil, and_true] at hC
      obtain ⟨c1, c2, c3⟩ := hC
      refine FnOk.imp (args' := [.ptr 0 0, .ptr 1 0, rwV (atL lx)]) ?_ ⟨DenImp.refl _, DenImp.refl _, nums_imp hx, trivial⟩
      refine FnOk.preB (B' := [bkV (atL le) (atL ln) 2, .log w, .rows [.i64, .i64] l]) ?_ ⟨cells_bank hb hd rfl, ⟨BImp.refl _, fun _ h => by simp at h⟩, ⟨BImp.refl _, fun _ h => by simp at h⟩, trivial⟩ (fun j => by
        match j with
        | 0 => rfl
        | 1 => rfl
        | 2 => rfl
        | 3 => rfl
        | j + 4 => rfl)
      refine FnOk.facts fun ⟨_, _, f, _⟩ => ?_
      obtain ⟨r1, r2, r3⟩ := row_facts f
      exact step_1 c1 r2 c2 c3
    · simp at h
  · rename_i xs cs
    split at h
    · rename_i lx le ln hx hb hd
      simp only [Option.some.injEq] at h; subst h
      simp only [allC_cons, allC_nil, and_true] at hC
      refine FnOk.imp (args' := [.ptr 0 0, .raw (.pointer none), rwV (atL lx)]) ?_ ⟨DenImp.refl _, DenImp.refl _, nums_imp hx, trivial⟩
      refine FnOk.preB (B' := [.cells (bk168 (atL le) (atL ln) ++ [.raw (.slice none 0 0)])]) ?_ ⟨cells_bank hb hd rfl, trivial⟩ (fun j => by
        match j with
        | 0 => rfl
        | 1 => rfl
        | j + 2 => rfl)
      refine FnOk.facts fun ⟨_, _, f, _⟩ => ?_
      obtain ⟨r1, r2, r3⟩ := row_facts f
      refine FnOk.adoptB (B := [.cells (bk168 (atL le) (atL ln) ++ [.raw (.slice none 0 0)])]) (k := 0) (cs := bk168 (atL le) (atL ln)) (bd := .rows [.i64, .i64] []) (C := []) (bd' := .rows [.i64, .i64] ([] ++ scL (atL lx))) (upd := [(0, some (bkV (scE (atL lx) (atL le)) (scN (atL lx) (atL ln)) 2)), (1, none)]) (upd' := [(0, some (bkV (scE (atL lx) (atL le)) (scN (atL lx) (atL ln)) 1))]) rfl rfl (by show ([0, 2] : List Nat).Nodup; decide) (step_0 (w := []) (l := []) hC r2 (by simp) (by simp)) rfl (by simp) (fun j hj => by
        match j, hj with
        | 0, _ => show _ = _; kernel_rfl
        | 1, _ => show _ = _; kernel_rfl
        | j + 2, hj => exact absurd hj (by simp))
    · simp at h
  · simp at h
/-! ### stands -/
abbrev sdC (e n : Nat → Int) (i : Nat) : Prop := (!decide (BS (L5 (fun r => e (5 * i + r))) = listF 32 (byteN (hxL (L16 (fun r => n (16 * i + r))))) 0)) = false
abbrev sdD (n : Nat → Int) (i : Nat) : Prop := DG (atL (L16 (fun r => n (16 * i + r))))
abbrev sdCs (e n : Nat → Int) : List Prop := [sdD n 0, sdC e n 0, sdD n 1, sdC e n 1, sdD n 2, sdC e n 2, sdD n 3, sdC e n 3, sdD n 4, sdC e n 4, sdD n 5, sdC e n 5, sdD n 6, sdC e n 6, sdD n 7, sdC e n 7]
theorem sd_run (e n : Nat → Int) (l : List (List Int)) : runF gRm 900 (List.replicate 8 (.br false)) 11 [.ptr 0 0] [bkV e n 1, .rows [.i64, .i64] l] [] = some (.bool true, [some (bkV e n 1), some (.rows [.i64, .i64] l)], sdCs e n) :=
  run_parts (by kernel_rfl) (by kernel_rfl) (by kernel_rfl)
theorem sd_run0 (e n : Nat → Int) : runF gRm 900 (List.replicate 8 (.br false)) 11 [.ptr 0 0] [.cells (bk168 e n ++ [.raw (.slice none 0 0)])] [] = some (.bool true, [some (.cells (bk168 e n ++ [.raw (.slice none 0 0)]))], sdCs e n) :=
  run_parts (by kernel_rfl) (by kernel_rfl) (by kernel_rfl)
theorem sd_ok {e n : Nat → Int} (h : Inv e n) : AllC (sdCs e n) := by
  obtain ⟨N, hN⟩ := h
  have H : ∀ q, q < 8 → sdD n q ∧ sdC e n q := fun q hq => by
    obtain ⟨h1, h2, h3⟩ := hN q hq
    have e1 : L16 (fun r => n (16 * q + r)) = L16 (dgN (N q)) := listF_eq0.2 h3
    unfold sdD sdC
    rw [e1]
    refine ⟨DG_dg _, ?_⟩
    rw [hxL_dgQ h2, bytes_eq h1, Int.emod_eq_of_lt h2.1 h2.2]
    simp
  simp only [sdCs, allC_cons, allC_nil, and_true]
  exact ⟨(H 0 (by decide)).1, (H 0 (by decide)).2, (H 1 (by decide)).1, (H 1 (by decide)).2, (H 2 (by decide)).1, (H 2 (by decide)).2, (H 3 (by decide)).1, (H 3 (by decide)).2, (H 4 (by decide)).1, (H 4 (by decide)).2, (H 5 (by decide)).1, (H 5 (by decide)).2, (H 6 (by decide)).1, (H 6 (by decide)).2, (H 7 (by decide)).1, (H 7 (by decide)).2⟩
noncomputable def F11 : SumF := fun args B => match args, B with
  | [.ptr 0 0], [.cells cs, .rows K l] => match bankAs cs, cs.drop 168, sameKs K [.i64, .i64] with
    | some (le, ln), [.own 1], true => some { val := .sbool true, upd := [(0, some (bkV (atL le) (atL ln) 1))], C := [Inv (atL le) (atL ln)] }
    | _, _, _ => none
  | [.ptr 0 0], [.cells cs] => match bankAs cs, cs.drop 168 with
    | some (le, ln), [.raw (.slice none 0 0)] => some { val := .sbool true, upd := [(0, some (.cells (bk168 (atL le) (atL ln) ++ [.raw (.slice none 0 0)])))], C := [Inv (atL le) (atL ln)] }
    | _, _ => none
  | _, _ => none
end Go.Proofs.Ytghdadkpbofbbaa
