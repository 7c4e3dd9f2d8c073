/- Accounts of this seat's functions: lemmas, no statement of their own. No conditions. -/
import Derived.Test.YtejcjdhplpjpjaaTQv
namespace Go.Proofs.Ytejcjdhplpjpjaa
open Go Go.Vx
/-! ### Of, Check -/
noncomputable abbrev oC (f : Nat → SV) (m : Nat) : List Prop := lC f m ++ [∀ i, i < m → factsC (f i)]
noncomputable def ofG : LoopF := fun vals B => match vals, B with
  | [.raw (.pointer none), .ro 1 m f, .ptr 0 0, .ptr 1 0, .int .i64 0], [.cells zs, .cells ms] => match numsAs (List.replicate 16 .u8) zs, macAs ms, headK (ms.take 1) with
    | some lz, some la, .nil => some ([(6, .ptr 0 0), (7, .ptr 1 0)], ofB (atL lz) (aZ (atL la) (lOf f) m), oC f m ++ [∃ T mk, MS T mk [] (atL la)])
    | _, _, _ => none
  | _, _ => none
theorem rowL_bytes {f : Nat → SV} {m : Nat} (h : f = rowL (lOf f)) (hf : ∀ i, i < m → factsC (f i)) : YB (lOf f) m := fun i hi => by
  have := hf i hi
  rw [h] at this
  exact bytes_of this
theorem idB : ∀ j : Nat, j < 2 → ([0, 1] : List Nat)[j]? = some j := fun j hj => by
  match j, hj with
  | 0, _ => rfl
  | 1, _ => rfl
theorem of_loop : LoopGood gn 30 (.loop ofBody) ofKeep 2 (.exit 0) (mkLoopN ofG) := by
  refine LoopGood.mkN (by decide) fun vals B S' B' C hG hC hlen w0 O hgl => ?_
  clear hlen
  unfold ofG at hG
  split at hG
  · rename_i m f zs ms
    split at hG
    · rename_i lz la hz ha hr
      have hr := head_nil hr
      simp only [Option.some.injEq, Prod.mk.injEq] at hG
      obtain ⟨rfl, rfl, rfl⟩ := hG
      simp only [oC, lC, allC_append, allC_cons, allC_nil, and_true] at hC
      obtain ⟨⟨⟨hf, Fm, hl⟩, hff⟩, T, mk, h0⟩ := hC
      have hd := rowL_bytes hf hff
      generalize lOf f = d at *
      rw [hf]
      clear hf hff
      have hm : (m : Int) ≤ 9223372036854775807 := Fm.2
      refine SimC.preI (B1 := ofB (atL lz) (atL la)) ?_ ⟨cells_nums hz, cells_mac ha hr rfl, trivial⟩
      show SimC _ _ _ _ _ (ofS d m 0) (ofB (atL lz) (aZ (atL la) d 0)) _ _ _ _
      refine SimC.iter (g := gn) (e := .exit 0) (S := fun i => ofS d m i) (B := fun i => ofB (atL lz) (aZ (atL la) d i)) (N := m) (fun i hi => ?_) ?_ (by simp) 0 (by omega)
      · have hli := hl i hi
        refine SimC.run (B' := ofB (atL lz) (aZ (atL la) d (i + 1))) gn_ok (by decide) (of_go d m i _ _) ?_ (by decide) (idB) (by decide) (by simp) hgl
        simp only [allC_cons, allC_nil, and_true]
        exact ⟨Fm, decide_eq_true (by omega), MS_h (MS_43 (MS_Z h0 hd i (by omega))), by omega, ⟨by omega, by omega⟩, fits_of (by omega) (by omega)⟩
      · exact SimC.weaken (SimC.run (B' := ofB (atL lz) (aZ (atL la) d m)) gn_ok (by decide) (of_end d m m _ _) (by simp only [allC_cons, allC_nil, and_true]; exact ⟨Fm, decide_eq_false (by omega)⟩) (by decide) (idB) (by decide) (by simp) hgl) (sub_mkT (by simp; exact ⟨rfl, rfl⟩))
    · simp at hG
  · simp at hG
noncomputable abbrev ofN (k : Nat → Int) (d : Nat → List Int) (m : Nat) : Nat → Int := n43 (aZ (atL (nwL (kk k))) d m)
theorem of_run (k : Nat → Int) (d : Nat → List Int) (m : Nat) : runF gn 900 [.loop 3 ofKeep 2 (.exit 0) (mkLoopN ofG)] 16 [nilR, .agg (svF (List.replicate 32 .u8) k 0), .ro 1 m (rowL d)] [] [] =
    some (.agg (svF (List.replicate 16 .u8) (tgN (ofN k d m)) 0), [], [LoopGood gn 30 (.loop ofBody) ofKeep 2 (.exit 0) (mkLoopN ofG)] ++ (oC (rowL d) m ++ [∃ T mk, MS T mk [] (atL (nwL (kk k))), 0 ≤ ofN k d m 42 ∧ ofN k d m 42 < 16])) :=
  run_parts (by kernel_rfl) (by kernel_rfl) (by kernel_rfl)
def DT (k : Nat → Int) (x : List Int) : List Int := dTag (kT (kk k)) (atL (hiK (kk k))) x
theorem DT_L (k : Nat → Int) (x : List Int) : listF 16 (atL (DT k x)) 0 = DT k x := dTag_L _ _ _
noncomputable def F16 : SumF := fun args B => match args, B with
  | [.raw (.pointer none), .agg ks, .ro 1 m f], [] => match numsAs (List.replicate 32 .u8) ks with
    | some lk => some { val := .agg (svF (List.replicate 16 .u8) (atL (DT (atL lk) (xZ (lOf f) m))) 0), C := oC f m }
    | _ => none
  | _, _ => none
theorem acc16 : Acc gn 16 F16 := by
  intro args B out h hC
  unfold F16 at h
  split at h
  · rename_i ks m f
    split at h
    · rename_i lk hk
      simp only [Option.some.injEq] at h; subst h
      have hC2 := hC
      simp only [oC, lC, allC_append, allC_cons, allC_nil, and_true] at hC2
      obtain ⟨⟨hf, Fm, hl⟩, hff⟩ := hC2
      have hd := rowL_bytes hf hff
      rw [hf] at hff
      generalize lOf f = d at *
      have hc : AllC (oC (rowL d) m) := by
        simp only [oC, lC, allC_append, allC_cons, allC_nil, and_true]; exact ⟨⟨rfl, Fm, hl⟩, hff⟩
      have hL := of_loop
      refine FnOk.imp (args' := [nilR, .agg (svF (List.replicate 32 .u8) (atL lk) 0), .ro 1 m (rowL d)]) ?_ ⟨DenImp.refl _, nums_imp hk, by rw [hf]; exact DenImp.refl _, trivial⟩
      refine FnOk.facts fun ⟨_, f1, _⟩ => ?_
      have k1 : KB (atL lk) := fun j hj => by
        have e : (List.replicate 32 IntKind.u8)[j]? = some .u8 := by rw [List.getElem?_replicate, if_pos hj]
        have f1 := facts_svF f1 j .u8 e
        rw [Nat.zero_add] at f1
        exact ⟨f1.1, Int.lt_of_le_of_lt f1.2 (by decide)⟩
      have k2 : KB (kk (atL lk)) := fun j hj => by rw [show kk (atL lk) j = atL lk j from atLF hj]; exact k1 j hj
      have M0 := MS_new k2
      have M := MS_43 (MS_Z M0 hd m (Nat.le_refl _))
      have hi : ∀ j, j < 16 → Byte (atL (hiK (kk (atL lk))) j) := hiB k1
      have hT := MS_tag M hi
      refine FnOk.val (v := .agg (svF (List.replicate 16 .u8) (tgN (ofN (atL lk) d m)) 0)) (C := []) (rd := []) (FnOk.pure gn_ok (of_run (atL lk) d m) ?_) (fun w0 O ρ u h => ?_)
      · refine allC_append.2 ⟨?_, allC_append.2 ⟨hc, ?_⟩⟩
        · simp only [allC_cons, allC_nil, and_true]; exact hL
        · simp only [allC_cons, allC_nil, and_true]; exact ⟨⟨_, _, M0⟩, MS_h M⟩
      · have e : svF (List.replicate 16 .u8) (atL (DT (atL lk) (xZ d m))) 0 = svF (List.replicate 16 .u8) (tgN (ofN (atL lk) d m)) 0 := svF_cg _ 0 fun j hj => by
          rw [List.length_replicate] at hj
          rw [Nat.zero_add, DT, ← hT]
          exact atLF hj
        rw [e]; exact h
    · simp at h
  · simp at h
noncomputable abbrev gs : Ctx := gn.add [(16, F16), (17, F17), (47, eqArrF 16)]
theorem gs_ok : CtxU gs := gn_ok.add mixed noGo (by
  intro x hx
  simp only [List.mem_cons, List.not_mem_nil, or_false] at hx
  rcases hx with rfl | rfl | rfl
  · exact acc16
  · exact acc17
  · exact Acc.of (g := g0) rfl rfl acc47)
theorem check_run (k t : Nat → Int) (d : Nat → List Int) (m : Nat) : runF gs 900 [] 18 [nilR, .agg (svF (List.replicate 32 .u8) k 0), .agg (svF (List.replicate 16 .u8) t 0), .ro 1 m (rowL d)] [] [] =
    some (.sbool (decide ((if listF 16 (atL (DT (kk k) (xZ d m))) 0 = listF 16 t 0 then (1 : Int) else 0) = 1)), [], oC (rowL d) m) :=
  run_parts (by kernel_rfl) (by kernel_rfl) (by kernel_rfl)
end Go.Proofs.Ytejcjdhplpjpjaa
