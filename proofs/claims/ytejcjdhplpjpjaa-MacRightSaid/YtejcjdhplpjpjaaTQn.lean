/- Accounts of this seat's functions: lemmas, no statement of their own. No conditions. -/
import Derived.Test.YtejcjdhplpjpjaaTQm
namespace Go.Proofs.Ytejcjdhplpjpjaa
open Go Go.Vx
/-! ### MacNothing -/
theorem idA (k : Nat) : ∀ j : Nat, j < 1 → ([0, k] : List Nat)[j]? = some j := fun j hj => by
  match j, hj with
  | 0, _ => rfl
abbrev zT : Int := kT (atL z32)
abbrev zM : Nat → Int := atL (hiK (atL z32))
theorem zM_byte (j : Nat) (_ : j < 16) : Byte (zM j) := by
  have : zM j = 0 := by
    show (listF 16 (fun j => atL z32 (16 + j)) 0).getD j 0 = 0
    rw [show listF 16 (fun j => atL z32 (16 + j)) 0 = List.replicate 16 (0 : Int) by decide, List.getD_eq_getElem?_getD, List.getElem?_replicate]
    split <;> rfl
  rw [this]; exact ⟨by decide, by decide⟩
theorem stC_ok {m i : Nat} {x e : List Int} {b : Bool} (Fm : Fits .i64 (m : Int)) (hi : i < m) (hx : x.length ≤ 131072) (he : Fits .i64 (e.length : Int)) (hb : decide (131072 < x.length + e.length) = b) : AllC (stC m i x e b) := by
  simp only [stC, allC_cons, allC_nil, and_true]
  refine ⟨Fm, decide_eq_true (by omega), ⟨by omega, by omega⟩, fits_of (by omega) (by omega), fits_of (by omega) (by omega), he, ?_⟩
  rw [← hb]
  exact decide_eq_decide.2 (by omega)
theorem no_round {w0 : World} {O : Go.Vx.Own} (hgl : GlobOk gn w0 O) (p : Nat → Bool) (d : Nat → List Int) (m : Nat) (a : Nat → Int) (h0 : MS zT zM [] a) (hd : YB d m) (Fm : Fits .i64 (m : Int)) (hm : m ≤ 400) (i : Nat) (hi : i < stp d m) :
    SimC gn.P w0 O 71 noBody (noS p d m i) (noB (aZ a d i) (xZ d i)) .normal (noS p d m (i + 1)) (noB (aZ a d (i + 1)) (xZ d (i + 1))) 1 := by
  have hle := stp_le d m
  have hl := stp_lt hi
  have hx := xZ_len (d := d) (m := m) i (by omega)
  have F1 : Fits .i64 ((i : Int) + 1) := fits_of (by omega) (by omega)
  have M := MS_43 (MS_Z h0 hd i (by omega))
  have M2 := MS_43 (MS_Z h0 hd (i + 1) (by omega))
  have hs : AllC (stC m i (xZ d i) (d i) false) := stC_ok Fm (by omega) hx (fits_of (by omega) (by omega)) (decide_eq_false (by omega))
  have hap : (xZ d i ++ d i).length = (xZ d i).length + (d i).length := List.length_append
  cases hp : p i with
  | false =>
    refine SimC.run (B' := noB (aZ a d (i + 1)) (xZ d (i + 1))) gn_ok (by decide) (no_go0 p d m i (aZ a d i) (xZ d i)) (allC_append.2 ⟨hs, ?_⟩) (by decide) (idA 2) (by decide) (by simp) hgl
    simp only [allC_cons, allC_nil, and_true]
    exact ⟨MS_h M, by omega, by omega, hp, ⟨by omega, by omega⟩, F1⟩
  | true =>
    refine SimC.run (B' := noB (aZ a d (i + 1)) (xZ d (i + 1))) gn_ok (by decide) (no_go1 p d m i (aZ a d i) (xZ d i)) (allC_append.2 ⟨hs, ?_⟩) (by decide) (idA 2) (by decide) (by simp) hgl
    simp only [allC_cons, allC_nil, and_true]
    have ht : listF 16 (tgN (n43 (wrA (n43 (aZ a d i)) (d i)))) 0 = listF 16 (atL (dTag zT zM (xZ d i ++ d i))) 0 := by
      rw [dTag_L]; exact MS_tag M2 zM_byte
    refine ⟨MS_h M, by omega, by omega, trivial, by omega, MS_h M2, by decide, hp, ⟨by omega, by omega⟩, ?_, F1⟩
    rw [decide_eq_true ht]; rfl
noncomputable def noG0 : LoopF := fun vals B => match vals, B with
  | [.ro 2 m f, .raw (.pointer none), .ptr 0 0, .raw (.slice none 0 0), .int .i64 0], [.cells ms] => match macAs ms, headK (ms.take 1) with
    | some la, .nil => some ([(3, nilR), (4, .ptr 0 0)], noB (aZ (atL la) (dOf f) m) (xZ (dOf f) m), [f = rowY (pOf f) (dOf f), Fits .i64 (m : Int), ∀ i, i < m → factsC (f i), m ≤ 400, MS zT zM [] (atL la), stp (dOf f) m = m])
    | _, _ => none
  | _, _ => none
noncomputable def noG1 : LoopF := fun vals B => match vals, B with
  | [.ro 2 m f, .raw (.pointer none), .ptr 0 0, .raw (.slice none 0 0), .int .i64 0], [.cells ms] => match macAs ms, headK (ms.take 1) with
    | some la, .nil => some ([(2, .bool true)], noB (aZ (atL la) (dOf f) (stp (dOf f) m)) (xZ (dOf f) (stp (dOf f) m)), [f = rowY (pOf f) (dOf f), Fits .i64 (m : Int), ∀ i, i < m → factsC (f i), m ≤ 400, MS zT zM [] (atL la), stp (dOf f) m < m, Fits .i64 ((dOf f (stp (dOf f) m)).length : Int)])
    | _, _ => none
  | _, _ => none
theorem no_loop0 : LoopGood gn 71 (.loop noBody) noKeep 1 (.exit 0) (mkLoopN noG0) := by
  refine LoopGood.mkN (by decide) fun vals B S' B' C hG hC hlen w0 O hgl => ?_
  clear hlen
  unfold noG0 at hG
  split at hG
  · rename_i m f ms
    split at hG
    · rename_i la ha hr
      have hr := head_nil hr
      simp only [Option.some.injEq, Prod.mk.injEq] at hG
      obtain ⟨rfl, rfl, rfl⟩ := hG
      simp only [allC_cons, allC_nil, and_true] at hC
      obtain ⟨hf, Fm, hff, hm, h0, hN⟩ := hC
      have hd := rowY_bytes hf hff
      generalize pOf f = p at *
      generalize hdd : dOf f = d at *
      rw [hf]
      clear hf hff hdd
      refine SimC.preI (B1 := [macV nilR (atL la)]) ?_ ⟨cells_mac ha hr rfl, trivial⟩
      refine SimC.adoptS (.ints .u8 []) 5 rfl rfl (by simp) (by simp) ?_
      show SimC _ _ _ _ _ (noS p d m 0) (noB (aZ (atL la) d 0) (xZ d 0)) _ _ _ _
      refine SimC.iter (g := gn) (e := .exit 0) (S := fun i => noS p d m i) (B := fun i => noB (aZ (atL la) d i) (xZ d i)) (N := m) (fun i hi => no_round hgl p d m (atL la) h0 hd Fm hm i (by omega)) ?_ (by simp) 0 (by omega)
      exact SimC.weaken (SimC.run (B' := noB (aZ (atL la) d m) (xZ d m)) gn_ok (by decide) (no_end p d m m _ _) (by simp only [allC_cons, allC_nil, and_true]; exact ⟨Fm, decide_eq_false (by omega)⟩) (by decide) (idA 1) (by decide) (by simp) hgl) (sub_mkT (by simp; exact ⟨rfl, rfl⟩))
    · simp at hG
  · simp at hG
theorem no_loop1 : LoopGood gn 71 (.loop noBody) noKeep 1 .ret (mkLoopN noG1) := by
  refine LoopGood.mkN (by decide) fun vals B S' B' C hG hC hlen w0 O hgl => ?_
  clear hlen
  unfold noG1 at hG
  split at hG
  · rename_i m f ms
    split at hG
    · rename_i la ha hr
      have hr := head_nil hr
      simp only [Option.some.injEq, Prod.mk.injEq] at hG
      obtain ⟨rfl, rfl, rfl⟩ := hG
      simp only [allC_cons, allC_nil, and_true] at hC
      obtain ⟨hf, Fm, hff, hm, h0, hN, Fl⟩ := hC
      have hd := rowY_bytes hf hff
      generalize pOf f = p at *
      generalize hdd : dOf f = d at *
      rw [hf]
      clear hf hff hdd
      refine SimC.preI (B1 := [macV nilR (atL la)]) ?_ ⟨cells_mac ha hr rfl, trivial⟩
      refine SimC.adoptS (.ints .u8 []) 5 rfl rfl (by simp) (by simp) ?_
      show SimC _ _ _ _ _ (noS p d m 0) (noB (aZ (atL la) d 0) (xZ d 0)) _ _ _ _
      refine SimC.iter (g := gn) (e := .ret) (S := fun i => noS p d m i) (B := fun i => noB (aZ (atL la) d i) (xZ d i)) (N := stp d m) (fun i hi => no_round hgl p d m (atL la) h0 hd Fm hm i hi) ?_ (by simp) 0 (by omega)
      exact SimC.weaken (SimC.run (B' := noB (aZ (atL la) d (stp d m)) (xZ d (stp d m))) gn_ok (by decide) (no_long p d m (stp d m) _ _) (stC_ok Fm hN (xZ_len _ (Nat.le_refl _)) Fl (decide_eq_true (stp_at hN))) (by decide) (idA 1) (by decide) (by simp) hgl) (sub_mkT (by simp; exact rfl))
    · simp at hG
  · simp at hG
abbrev z43 : List Int := List.replicate 43 0
theorem MS_z : MS zT zM [] (atL z43) := by
  have hz : ∀ j, j < 43 → atL z43 j = 0 := fun j hj => by
    show (List.replicate 43 (0 : Int)).getD j 0 = 0
    rw [List.getD_eq_getElem?_getD, List.getElem?_replicate, if_pos hj]; rfl
  have hi : Is (L5 fun _ => 0) 0 := ⟨⟨by decide, by decide, by decide, by decide, by decide⟩, by decide⟩
  refine ⟨?_, ?_, fun j hj => ?_, fun j hj => ?_, hz 42 (by omega), fun j => ⟨Int.le_refl 0, by show (0 : Int) < 256; decide⟩⟩
  · rw [show zT = 0 by decide +kernel, show byL (atL z43) = L5 (fun _ => 0) from listF_eq0.2 fun j hj => hz j (by omega)]; exact hi
  · rw [show smL (atL z43) = L5 (fun _ => 0) from listF_eq0.2 fun j hj => hz _ (by omega)]; exact hi
  · rw [hz _ (by omega)]
    have e : listF 16 (fun j => atL z32 (16 + j)) 0 = List.replicate 16 (0 : Int) := by decide
    show _ = (listF 16 (fun j => atL z32 (16 + j)) 0).getD j 0
    rw [e, List.getD_eq_getElem?_getD, List.getElem?_replicate, if_pos hj]; rfl
  · rw [hz _ (by omega), if_neg (by simp)]
end Go.Proofs.Ytejcjdhplpjpjaa
