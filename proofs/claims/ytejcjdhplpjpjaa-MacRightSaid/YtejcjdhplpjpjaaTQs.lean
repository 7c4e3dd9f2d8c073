/- Accounts of this seat's functions: lemmas, no statement of their own. No conditions. -/
import Derived.Test.YtejcjdhplpjpjaaTQr
namespace Go.Proofs.Ytejcjdhplpjpjaa
open Go Go.Vx
noncomputable abbrev twC (f : Nat → SV) (m : Nat) (lk ll la lb : List Int) : List Prop := [f = rowY (pOf f) (dOf f), Fits .i64 (m : Int), ∀ i, i < m → factsC (f i), m ≤ 400, KB (atL lk), KB (atL ll), MK (atL lk) [] (atL la), MK (atL ll) [] (atL lb)]
noncomputable def twG0 : LoopF := fun vals B => match vals, B with
  | [.ro 2 m f, .ptr 0 0, .ptr 1 0, .ptr 2 0, .ptr 3 0, .raw (.slice none 0 0), .raw (.slice none 0 0), .int .i64 0], [.cells c1, .cells c2, .cells m1, .cells m2] =>
    match numsAs (List.replicate 32 .u8) c1, numsAs (List.replicate 32 .u8) c2, macAs m1, headK (m1.take 1), macAs m2, headK (m2.take 1) with
    | some lk, some ll, some la, .nil, some lb, .nil => some ([(3, .ptr 0 0), (4, .ptr 1 0), (7, .ptr 2 0), (8, .ptr 3 0), (9, .own 4), (10, .own 5)], twZ (dOf f) (atL lk) (atL ll) (atL la) (atL lb) m, twC f m lk ll la lb ++ [sp2 (dOf f) m = m])
    | _, _, _, _, _, _ => none
  | _, _ => none
noncomputable def twG1 : LoopF := fun vals B => match vals, B with
  | [.ro 2 m f, .ptr 0 0, .ptr 1 0, .ptr 2 0, .ptr 3 0, .raw (.slice none 0 0), .raw (.slice none 0 0), .int .i64 0], [.cells c1, .cells c2, .cells m1, .cells m2] =>
    match numsAs (List.replicate 32 .u8) c1, numsAs (List.replicate 32 .u8) c2, macAs m1, headK (m1.take 1), macAs m2, headK (m2.take 1) with
    | some lk, some ll, some la, .nil, some lb, .nil => some ([(6, .bool true)], twZ (dOf f) (atL lk) (atL ll) (atL la) (atL lb) (sp2 (dOf f) m), twC f m lk ll la lb ++ [sp2 (dOf f) m < m, Fits .i64 ((dOf f (sp2 (dOf f) m)).length : Int)])
    | _, _, _, _, _, _ => none
  | _, _ => none
theorem tw_loop0 : LoopGood gt 109 (.loop twBody) twKeep 4 (.exit 0) (mkLoopN twG0) := by
  refine LoopGood.mkN (by decide) fun vals B S' B' C hG hC hlen w0 O hgl => ?_
  clear hlen
  unfold twG0 at hG
  split at hG
  · rename_i m f c1 c2 m1 m2
    split at hG
    · rename_i lk ll la lb h1 h2 h3 r3 h4 r4
      have r3 := head_nil r3
      have r4 := head_nil r4
      simp only [Option.some.injEq, Prod.mk.injEq] at hG
      obtain ⟨rfl, rfl, rfl⟩ := hG
      simp only [twC, allC_append, allC_cons, allC_nil, and_true] at hC
      obtain ⟨⟨hf, Fm, hff, hm, k1, k2, a1, a2⟩, hN⟩ := hC
      have hd := rowY_bytes hf hff
      generalize pOf f = p at *
      generalize hdd : dOf f = d at *
      rw [hf]
      clear hf hff hdd
      refine SimC.preI (B1 := [.cells (svF (List.replicate 32 .u8) (atL lk) 0), .cells (svF (List.replicate 32 .u8) (atL ll) 0), macV nilR (atL la), macV nilR (atL lb)]) ?_ ⟨cells_nums h1, cells_nums h2, cells_mac h3 r3 rfl, cells_mac h4 r4 rfl, trivial⟩
      refine SimC.adoptS (.ints .u8 []) 9 rfl rfl (by simp) (by simp) ?_
      show SimC _ _ _ _ _ (twKeep.zip [.ro 2 m (rowY p d), .ptr 0 0, .ptr 1 0, .ptr 2 0, .ptr 3 0, .own 4, .raw (.slice none 0 0), .int .i64 0]) _ _ _ _ _
      refine SimC.adoptS (.ints .u8 []) 10 rfl rfl (by simp) (by simp) ?_
      show SimC _ _ _ _ _ (twS p d m 0) (twZ d (atL lk) (atL ll) (atL la) (atL lb) 0) _ _ _ _
      refine SimC.iter (g := gt) (e := .exit 0) (S := fun i => twS p d m i) (B := fun i => twZ d (atL lk) (atL ll) (atL la) (atL lb) i) (N := m) (fun i hi => tw_round hgl p d m _ _ _ _ k1 k2 a1 a2 hd Fm hm i (by omega)) ?_ (by simp) 0 (by omega)
      exact SimC.weaken (SimC.run (B' := twZ d (atL lk) (atL ll) (atL la) (atL lb) m) gt_ok (by decide) (tw_end p d m m _ _ _ _ _ _) (by simp only [allC_cons, allC_nil, and_true]; exact ⟨Fm, decide_eq_false (by omega)⟩) (by decide) (idD 4 5) (by decide) (by simp) hgl) (sub_mkT (by simp; exact ⟨rfl, rfl, rfl, rfl, rfl, rfl⟩))
    · simp at hG
  · simp at hG
theorem tw_loop1 : LoopGood gt 109 (.loop twBody) twKeep 4 .ret (mkLoopN twG1) := by
  refine LoopGood.mkN (by decide) fun vals B S' B' C hG hC hlen w0 O hgl => ?_
  clear hlen
  unfold twG1 at hG
  split at hG
  · rename_i m f c1 c2 m1 m2
    split at hG
    · rename_i lk ll la lb h1 h2 h3 r3 h4 r4
      have r3 := head_nil r3
      have r4 := head_nil r4
      simp only [Option.some.injEq, Prod.mk.injEq] at hG
      obtain ⟨rfl, rfl, rfl⟩ := hG
      simp only [twC, allC_append, allC_cons, allC_nil, and_true] at hC
      obtain ⟨⟨hf, Fm, hff, hm, k1, k2, a1, a2⟩, hN, Fl⟩ := hC
      have hd := rowY_bytes hf hff
      generalize pOf f = p at *
      generalize hdd : dOf f = d at *
      rw [hf]
      clear hf hff hdd
      refine SimC.preI (B1 := [.cells (svF (List.replicate 32 .u8) (atL lk) 0), .cells (svF (List.replicate 32 .u8) (atL ll) 0), macV nilR (atL la), macV nilR (atL lb)]) ?_ ⟨cells_nums h1, cells_nums h2, cells_mac h3 r3 rfl, cells_mac h4 r4 rfl, trivial⟩
      refine SimC.adoptS (.ints .u8 []) 9 rfl rfl (by simp) (by simp) ?_
      show SimC _ _ _ _ _ (twKeep.zip [.ro 2 m (rowY p d), .ptr 0 0, .ptr 1 0, .ptr 2 0, .ptr 3 0, .own 4, .raw (.slice none 0 0), .int .i64 0]) _ _ _ _ _
      refine SimC.adoptS (.ints .u8 []) 10 rfl rfl (by simp) (by simp) ?_
      show SimC _ _ _ _ _ (twS p d m 0) (twZ d (atL lk) (atL ll) (atL la) (atL lb) 0) _ _ _ _
      refine SimC.iter (g := gt) (e := .ret) (S := fun i => twS p d m i) (B := fun i => twZ d (atL lk) (atL ll) (atL la) (atL lb) i) (N := sp2 d m) (fun i hi => tw_round hgl p d m _ _ _ _ k1 k2 a1 a2 hd Fm hm i hi) ?_ (by simp) 0 (by omega)
      exact SimC.weaken (SimC.run (B' := twZ d (atL lk) (atL ll) (atL la) (atL lb) (sp2 d m)) gt_ok (by decide) (tw_long p d m (sp2 d m) _ _ _ _ _ _) (st2_ok Fm hN (xQ_len _ (Nat.le_refl _)) Fl (decide_eq_true (sp2_at hN))) (by decide) (idD 4 5) (by decide) (by simp) hgl) (sub_mkT (by simp; exact rfl))
    · simp at hG
  · simp at hG
/-! what New makes -/
def nwL (k : Nat → Int) : List Int := listF 5 (clampN (loK k)) 0 ++ (List.replicate 5 0 ++ (listF 16 (fun j => k (16 + j)) 0 ++ (List.replicate 16 0 ++ [0])))
theorem kk_kk (k : Nat → Int) : kk (kk k) = kk k := by
  show atL (listF 32 (atL (listF 32 k 0)) 0) = atL (listF 32 k 0)
  congr 1
theorem MS_new {k : Nat → Int} (h : KB k) : MS (kT k) (atL (hiK k)) [] (atL (nwL k)) := by
  have hb : ∀ j, j < 16 → Byte (atL (loK k) j) := fun j hj => by rw [atLF hj]; exact h j (by omega)
  refine ⟨?_, ?_, fun j hj => ?_, fun j hj => ?_, ?_, fun j => ⟨Int.le_refl 0, by show (0 : Int) < 256; decide⟩⟩
  · have e : byL (atL (nwL k)) = L5 (clampN (loK k)) := rfl
    rw [e]
    have hi := is_block (l := clampL (atL (loK k))) (clamp_bytes hb)
    have e2 : leN 17 (atL (clampL (atL (loK k)))) 0 = kT k := leN_congr 17 0 fun j hj => by rw [Nat.zero_add]; exact clampL_at hb j hj
    rw [e2] at hi
    exact hi
  · have e : smL (atL (nwL k)) = L5 (fun _ => 0) := rfl
    rw [e]
    have hz : Is (L5 fun _ => 0) 0 := ⟨⟨by decide, by decide, by decide, by decide, by decide⟩, by decide⟩
    exact hz
  · have e : listF 16 (fun j => atL (nwL k) (10 + j)) 0 = hiK k := rfl
    rw [show atL (hiK k) j = atL (listF 16 (fun j => atL (nwL k) (10 + j)) 0) j by rw [e], atLF hj]
  · rw [if_neg (by simp)]
    have e : listF 16 (fun j => atL (nwL k) (26 + j)) 0 = List.replicate 16 0 := rfl
    have e2 := atLF (n := 16) (a := fun j => atL (nwL k) (26 + j)) hj
    rw [e] at e2
    rw [← e2]
    show (List.replicate 16 (0 : Int)).getD j 0 = 0
    rw [List.getD_eq_getElem?_getD, List.getElem?_replicate, if_pos hj]; rfl
  · rfl
theorem MK_new {k : Nat → Int} (h : KB k) : MK (kk k) [] (atL (nwL (kk k))) := by
  have h2 : KB (kk k) := fun j hj => by rw [show kk k j = k j from atLF hj]; exact h j hj
  show MS (kT (kk (kk k))) (atL (hiK (kk (kk k)))) [] _
  rw [kk_kk]
  exact MS_new h2
end Go.Proofs.Ytejcjdhplpjpjaa
