/- Accounts of this seat's functions: lemmas, no statement of their own. No conditions. -/
import Derived.Test.YtejcjdhplpjpjaaTQs
import Derived.Test.YtejcjdhplpjpjaaV5
namespace Go.Proofs.Ytejcjdhplpjpjaa
open Go Go.Vx
/-! ### pieces: long, Of -/
noncomputable abbrev rowL (d : Nat → List Int) : Nat → SV := fun i => .roi .u8 (d i)
def lOf (f : Nat → SV) (i : Nat) : List Int := match f i with | .roi _ l => l | _ => []
abbrev lgKeep : List Nat := [0, 3, 4]
noncomputable abbrev lgBody : Code := bodyAt Try.prog 17 5
noncomputable abbrev lgO (d : Nat → List Int) (m : Nat) (n i : Int) : List SV := [.ro 1 m (rowL d), .int .i64 n, .int .i64 i]
noncomputable abbrev lgS (d : Nat → List Int) (m : Nat) (n : Int) (i : Nat) : List (Nat × SV) := lgKeep.zip (lgO d m n (i : Int))
abbrev lgC (m i : Nat) (n : Int) (e : List Int) (b : Bool) : List Prop := [Fits .i64 (m : Int), decide ((i : Int) < (m : Int)) = true, Fits .i64 (n + (e.length : Int)), Fits .i64 (e.length : Int), (0 : Int) ≤ (i : Int) ∧ (i : Int) < (m : Int), decide (131072 < n + (e.length : Int)) = b]
theorem lg_go (d : Nat → List Int) (m i : Nat) (n : Int) : runC gn 300 23 [.br true, .br false] lgBody (lgS d m n i) [] lgKeep [] =
    some (.normal, lgO d m (n + ((d i).length : Int)) ((i : Int) + 1), [], lgC m i n (d i) false ++ [Fits .i64 ((i : Int) + 1)]) :=
  r3_parts4 (by kernel_rfl) (by kernel_rfl) (by kernel_rfl) (by kernel_rfl)
theorem lg_long (d : Nat → List Int) (m i : Nat) (n : Int) : runC gn 300 23 [.br true, .br true] lgBody (lgS d m n i) [] [2] [] =
    some (.ret, [.bool true], [], lgC m i n (d i) true) :=
  r3_parts4 (by kernel_rfl) (by kernel_rfl) (by kernel_rfl) (by kernel_rfl)
theorem lg_end (d : Nat → List Int) (m i : Nat) (n : Int) : runC gn 300 23 [.br false] lgBody (lgS d m n i) [] lgKeep [] =
    some (.exit 0, lgO d m n (i : Int), [], [Fits .i64 (m : Int), decide ((i : Int) < (m : Int)) = false]) :=
  r3_parts4 (by kernel_rfl) (by kernel_rfl) (by kernel_rfl) (by kernel_rfl)
abbrev ofKeep : List Nat := [0, 2, 6, 7, 8]
noncomputable abbrev ofBody : Code := bodyAt Try.prog 16 3
noncomputable abbrev ofO (d : Nat → List Int) (m : Nat) (i : Int) : List SV := [nilR, .ro 1 m (rowL d), .ptr 0 0, .ptr 1 0, .int .i64 i]
noncomputable abbrev ofB (z a : Nat → Int) : List Body := [.cells (svF (List.replicate 16 .u8) z 0), macV nilR a]
noncomputable abbrev ofS (d : Nat → List Int) (m i : Nat) : List (Nat × SV) := ofKeep.zip (ofO d m (i : Int))
theorem of_go (d : Nat → List Int) (m i : Nat) (z a : Nat → Int) : runC gn 300 30 [.br true] ofBody (ofS d m i) (ofB z a) ofKeep [0, 1] =
    some (.normal, ofO d m ((i : Int) + 1), (ofB z (wrA (n43 a) (d i))).map some, [Fits .i64 (m : Int), decide ((i : Int) < (m : Int)) = true, 0 ≤ n43 a 42 ∧ n43 a 42 < 16, (d i).length ≤ 140737488355328, (0 : Int) ≤ (i : Int) ∧ (i : Int) < (m : Int), Fits .i64 ((i : Int) + 1)]) :=
  r3_parts4 (by kernel_rfl) (by kernel_rfl) (by kernel_rfl) (by kernel_rfl)
theorem of_end (d : Nat → List Int) (m i : Nat) (z a : Nat → Int) : runC gn 300 30 [.br false] ofBody (ofS d m i) (ofB z a) ofKeep [0, 1] =
    some (.exit 0, ofO d m (i : Int), (ofB z a).map some, [Fits .i64 (m : Int), decide ((i : Int) < (m : Int)) = false]) :=
  r3_parts4 (by kernel_rfl) (by kernel_rfl) (by kernel_rfl) (by kernel_rfl)
end Go.Proofs.Ytejcjdhplpjpjaa

namespace Go.Proofs.Ytejcjdhplpjpjaa
open Go Go.Vx
/-! ### long -/
abbrev LB (d : Nat → List Int) (m : Nat) : Prop := ∀ i, i < m → (d i).length ≤ 140737488351232
noncomputable abbrev lC (f : Nat → SV) (m : Nat) : List Prop := [f = rowL (lOf f), Fits .i64 (m : Int), LB (lOf f) m]
noncomputable def lgG0 : LoopF := fun vals B => match vals, B with
  | [.ro 1 m f, .int .i64 0, .int .i64 0], [] => some ([], [], lC f m ++ [stp (lOf f) m = m])
  | _, _ => none
noncomputable def lgG1 : LoopF := fun vals B => match vals, B with
  | [.ro 1 m f, .int .i64 0, .int .i64 0], [] => some ([(2, .bool true)], [], lC f m ++ [stp (lOf f) m < m])
  | _, _ => none
theorem lgC_ok {m i : Nat} {x e : List Int} {b : Bool} (Fm : Fits .i64 (m : Int)) (hi : i < m) (hx : x.length ≤ 131072) (he : e.length ≤ 140737488351232) (hb : decide (131072 < x.length + e.length) = b) : AllC (lgC m i (x.length : Int) e b) := by
  simp only [lgC, allC_cons, allC_nil, and_true]
  refine ⟨Fm, decide_eq_true (by omega), fits_of (by omega) (by omega), fits_of (by omega) (by omega), ⟨by omega, by omega⟩, ?_⟩
  rw [← hb]
  exact decide_eq_decide.2 (by omega)
theorem q00 (k : List Nat) : ∀ j : Nat, j < 0 → k[j]? = some j := fun j hj => absurd hj (Nat.not_lt_zero j)
theorem lg_round {w0 : World} {O : Go.Vx.Own} (hgl : GlobOk gn w0 O) (d : Nat → List Int) (m : Nat) (Fm : Fits .i64 (m : Int)) (hl : LB d m) (i : Nat) (hi : i < stp d m) :
    SimC gn.P w0 O 23 lgBody (lgS d m ((xZ d i).length : Int) i) [] .normal (lgS d m ((xZ d (i + 1)).length : Int) (i + 1)) [] 0 := by
  have hle := stp_le d m
  have hs := stp_lt hi
  have hx := xZ_len (d := d) (m := m) i (by omega)
  have hm : (m : Int) ≤ 9223372036854775807 := Fm.2
  have e : ((xZ d (i + 1)).length : Int) = ((xZ d i).length : Int) + ((d i).length : Int) := by
    simp only [xZ, List.length_append]; omega
  rw [e]
  refine SimC.run (B' := []) gn_ok (by decide) (lg_go d m i _) (allC_append.2 ⟨lgC_ok Fm (by omega) hx (hl i (by omega)) (decide_eq_false (by omega)), ?_⟩) (by decide) (q00 _) (by decide) (by simp) hgl
  simp only [allC_cons, allC_nil, and_true]
  exact fits_of (by omega) (by omega)
theorem lg_loop0 : LoopGood gn 23 (.loop lgBody) lgKeep 0 (.exit 0) (mkLoopN lgG0) := by
  refine LoopGood.mkN (by decide) fun vals B S' B' C hG hC hlen w0 O hgl => ?_
  clear hlen
  unfold lgG0 at hG
  split at hG
  · rename_i m f
    simp only [Option.some.injEq, Prod.mk.injEq] at hG
    obtain ⟨rfl, rfl, rfl⟩ := hG
    simp only [lC, allC_append, allC_cons, allC_nil, and_true] at hC
    obtain ⟨⟨hf, Fm, hl⟩, hN⟩ := hC
    generalize lOf f = d at *
    rw [hf]
    clear hf
    show SimC _ _ _ _ _ (lgS d m ((xZ d 0).length : Int) 0) [] _ _ _ _
    refine SimC.iter (g := gn) (e := .exit 0) (S := fun i => lgS d m ((xZ d i).length : Int) i) (B := fun _ => []) (N := m) (fun i hi => lg_round hgl d m Fm hl i (by omega)) ?_ (by simp) 0 (by omega)
    exact SimC.weaken (SimC.run (B' := []) gn_ok (by decide) (lg_end d m m _) (by simp only [allC_cons, allC_nil, and_true]; exact ⟨Fm, decide_eq_false (by omega)⟩) (by decide) (q00 _) (by decide) (by simp) hgl) (sub_mkT (by simp))
  · simp at hG
theorem lg_loop1 : LoopGood gn 23 (.loop lgBody) lgKeep 0 .ret (mkLoopN lgG1) := by
  refine LoopGood.mkN (by decide) fun vals B S' B' C hG hC hlen w0 O hgl => ?_
  clear hlen
  unfold lgG1 at hG
  split at hG
  · rename_i m f
    simp only [Option.some.injEq, Prod.mk.injEq] at hG
    obtain ⟨rfl, rfl, rfl⟩ := hG
    simp only [lC, allC_append, allC_cons, allC_nil, and_true] at hC
    obtain ⟨⟨hf, Fm, hl⟩, hN⟩ := hC
    generalize lOf f = d at *
    rw [hf]
    clear hf
    show SimC _ _ _ _ _ (lgS d m ((xZ d 0).length : Int) 0) [] _ _ _ _
    refine SimC.iter (g := gn) (e := .ret) (S := fun i => lgS d m ((xZ d i).length : Int) i) (B := fun _ => []) (N := stp d m) (fun i hi => lg_round hgl d m Fm hl i hi) ?_ (by simp) 0 (by omega)
    exact SimC.weaken (SimC.run (B' := []) gn_ok (by decide) (lg_long d m (stp d m) _) (lgC_ok Fm hN (xZ_len _ (Nat.le_refl _)) (hl _ hN) (decide_eq_true (stp_at hN))) (by decide) (q00 _) (by decide) (by simp) hgl) (sub_mkT (by simp; exact rfl))
  · simp at hG
theorem long_run0 (d : Nat → List Int) (m : Nat) : runF gn 900 [.br false, .loop 5 lgKeep 0 (.exit 0) (mkLoopN lgG0)] 17 [.ro 1 m (rowL d)] [] [] =
    some (.bool false, [], [Fits .i64 (m : Int), decide ((400 : Int) < (m : Int)) = false, LoopGood gn 23 (.loop lgBody) lgKeep 0 (.exit 0) (mkLoopN lgG0)] ++ (lC (rowL d) m ++ [stp d m = m])) :=
  run_parts (by kernel_rfl) (by kernel_rfl) (by kernel_rfl)
theorem long_run1 (d : Nat → List Int) (m : Nat) : runF gn 900 [.br false, .loop 5 lgKeep 0 .ret (mkLoopN lgG1)] 17 [.ro 1 m (rowL d)] [] [] =
    some (.bool true, [], [Fits .i64 (m : Int), decide ((400 : Int) < (m : Int)) = false, LoopGood gn 23 (.loop lgBody) lgKeep 0 .ret (mkLoopN lgG1)] ++ (lC (rowL d) m ++ [stp d m < m])) :=
  run_parts (by kernel_rfl) (by kernel_rfl) (by kernel_rfl)
theorem long_run2 (d : Nat → List Int) (m : Nat) : runF gn 900 [.br true] 17 [.ro 1 m (rowL d)] [] [] =
    some (.bool true, [], [Fits .i64 (m : Int), decide ((400 : Int) < (m : Int)) = true]) :=
  run_parts (by kernel_rfl) (by kernel_rfl) (by kernel_rfl)
noncomputable def F17 : SumF := fun args B => match args, B with
  | [.ro 1 m f], [] => some { val := .sbool (decide (400 < m ∨ stp (lOf f) m < m)), C := lC f m }
  | _, _ => none
theorem acc17 : Acc gn 17 F17 := by
  intro args B out h hC
  unfold F17 at h
  split at h
  · rename_i m f
    simp only [Option.some.injEq] at h; subst h
    have hC2 := hC
    simp only [lC, allC_cons, allC_nil, and_true] at hC2
    obtain ⟨hf, Fm, hl⟩ := hC2
    generalize hd : lOf f = d at *
    have hc : AllC (lC (rowL d) m) := by
      simp only [lC, allC_cons, allC_nil, and_true]; exact ⟨rfl, Fm, hl⟩
    have hL0 := lg_loop0
    have hL1 := lg_loop1
    rw [hf]
    have hle := stp_le d m
    by_cases h4 : 400 < m
    · exact FnOk.toSb (b := true) (FnOk.pure gn_ok (long_run2 d m) (by simp only [allC_cons, allC_nil, and_true]; exact ⟨Fm, decide_eq_true (by omega)⟩)) (decide_eq_true (.inl h4)).symm
    · have h0 : decide ((400 : Int) < (m : Int)) = false := decide_eq_false (by omega)
      by_cases hs : stp d m < m
      · refine FnOk.toSb (b := true) (FnOk.pure gn_ok (long_run1 d m) ?_) (decide_eq_true (.inr hs)).symm
        refine allC_append.2 ⟨?_, allC_append.2 ⟨hc, ?_⟩⟩
        · simp only [allC_cons, allC_nil, and_true]; exact ⟨Fm, h0, hL1⟩
        · simp only [allC_cons, allC_nil, and_true]; exact hs
      · refine FnOk.toSb (b := false) (FnOk.pure gn_ok (long_run0 d m) ?_) (decide_eq_false (by omega)).symm
        refine allC_append.2 ⟨?_, allC_append.2 ⟨hc, ?_⟩⟩
        · simp only [allC_cons, allC_nil, and_true]; exact ⟨Fm, h0, hL0⟩
        · simp only [allC_cons, allC_nil, and_true]; omega
  · simp at h
end Go.Proofs.Ytejcjdhplpjpjaa

namespace Go.Proofs.Ytejcjdhplpjpjaa
open Go Go.Vx
/-! ### Of, Check -/
noncomputable abbrev oC (f : Nat → SV) (m : Nat) : List Prop := lC f m ++ [∀ i, i < m → factsC (f i)]
noncomputable def ofG : LoopF := fun vals B => match vals, B with
  | [.raw (.pointer none), .ro 1 m f, .ptr 0 0, .ptr 1 0, .int .i64 0], [.cells zs, .cells ms] => match numsAs (List.replicate 16 .u8) zs, macAs ms, headK (ms.take 1) with
    | some lz, some la, .nil => some ([(6, .ptr 0 0), (7, .ptr 1 0)], ofB (atL lz) (aZ (atL la) (lOf f) m), oC f m ++ [∃ T mk, MS T mk [] (atL la)])
    | _, _, _ => none
  | _, _ => none
theorem rowL_bytes {f : Nat → SV} {m : Nat} (h : f = rowL (lOf f)) (hf : ∀ i, i < m → factsC (f i)) : YB (lOf f) m := fun i hi => by
  have := hf i hi
  rw [h] at this
  exact bytes_of this
theorem idB : ∀ j : Nat, j < 2 → ([0, 1] : List Nat)[j]? = some j := fun j hj => by
  match j, hj with
  | 0, _ => rfl
  | 1, _ => rfl
theorem of_loop : LoopGood gn 30 (.loop ofBody) ofKeep 2 (.exit 0) (mkLoopN ofG) := by
  refine LoopGood.mkN (by decide) fun vals B S' B' C hG hC hlen w0 O hgl => ?_
  clear hlen
  unfold ofG at hG
  split at hG
  · rename_i m f zs ms
    split at hG
    · rename_i lz la hz ha hr
      have hr := head_nil hr
      simp only [Option.some.injEq, Prod.mk.injEq] at hG
      obtain ⟨rfl, rfl, rfl⟩ := hG
      simp only [oC, lC, allC_append, allC_cons, allC_nil, and_true] at hC
      obtain ⟨⟨⟨hf, Fm, hl⟩, hff⟩, T, mk, h0⟩ := hC
      have hd := rowL_bytes hf hff
      generalize lOf f = d at *
      rw [hf]
      clear hf hff
      have hm : (m : Int) ≤ 9223372036854775807 := Fm.2
      refine SimC.preI (B1 := ofB (atL lz) (atL la)) ?_ ⟨cells_nums hz, cells_mac ha hr rfl, trivial⟩
      show SimC _ _ _ _ _ (ofS d m 0) (ofB (atL lz) (aZ (atL la) d 0)) _ _ _ _
      refine SimC.iter (g := gn) (e := .exit 0) (S := fun i => ofS d m i) (B := fun i => ofB (atL lz) (aZ (atL la) d i)) (N := m) (fun i hi => ?_) ?_ (by simp) 0 (by omega)
      · have hli := hl i hi
        refine SimC.run (B' := ofB (atL lz) (aZ (atL la) d (i + 1))) gn_ok (by decide) (of_go d m i _ _) ?_ (by decide) (idB) (by decide) (by simp) hgl
        simp only [allC_cons, allC_nil, and_true]
        exact ⟨Fm, decide_eq_true (by omega), MS_h (MS_43 (MS_Z h0 hd i (by omega))), by omega, ⟨by omega, by omega⟩, fits_of (by omega) (by omega)⟩
      · exact SimC.weaken (SimC.run (B' := ofB (atL lz) (aZ (atL la) d m)) gn_ok (by decide) (of_end d m m _ _) (by simp only [allC_cons, allC_nil, and_true]; exact ⟨Fm, decide_eq_false (by omega)⟩) (by decide) (idB) (by decide) (by simp) hgl) (sub_mkT (by simp; exact ⟨rfl, rfl⟩))
    · simp at hG
  · simp at hG
noncomputable abbrev ofN (k : Nat → Int) (d : Nat → List Int) (m : Nat) : Nat → Int := n43 (aZ (atL (nwL (kk k))) d m)
theorem of_run (k : Nat → Int) (d : Nat → List Int) (m : Nat) : runF gn 900 [.loop 3 ofKeep 2 (.exit 0) (mkLoopN ofG)] 16 [nilR, .agg (svF (List.replicate 32 .u8) k 0), .ro 1 m (rowL d)] [] [] =
    some (.agg (svF (List.replicate 16 .u8) (tgN (ofN k d m)) 0), [], [LoopGood gn 30 (.loop ofBody) ofKeep 2 (.exit 0) (mkLoopN ofG)] ++ (oC (rowL d) m ++ [∃ T mk, MS T mk [] (atL (nwL (kk k))), 0 ≤ ofN k d m 42 ∧ ofN k d m 42 < 16])) :=
  run_parts (by kernel_rfl) (by kernel_rfl) (by kernel_rfl)
def DT (k : Nat → Int) (x : List Int) : List Int := dTag (kT (kk k)) (atL (hiK (kk k))) x
theorem DT_L (k : Nat → Int) (x : List Int) : listF 16 (atL (DT k x)) 0 = DT k x := dTag_L _ _ _
noncomputable def F16 : SumF := fun args B => match args, B with
  | [.raw (.pointer none), .agg ks, .ro 1 m f], [] => match numsAs (List.replicate 32 .u8) ks with
    | some lk => some { val := .agg (svF (List.replicate 16 .u8) (atL (DT (atL lk) (xZ (lOf f) m))) 0), C := oC f m }
    | _ => none
  | _, _ => none
theorem acc16 : Acc gn 16 F16 := by
  intro args B out h hC
  unfold F16 at h
  split at h
  · rename_i ks m f
    split at h
    · rename_i lk hk
      simp only [Option.some.injEq] at h; subst h
      have hC2 := hC
      simp only [oC, lC, allC_append, allC_cons, allC_nil, and_true] at hC2
      obtain ⟨⟨hf, Fm, hl⟩, hff⟩ := hC2
      have hd := rowL_bytes hf hff
      rw [hf] at hff
      generalize lOf f = d at *
      have hc : AllC (oC (rowL d) m) := by
        simp only [oC, lC, allC_append, allC_cons, allC_nil, and_true]; exact ⟨⟨rfl, Fm, hl⟩, hff⟩
      have hL := of_loop
      refine FnOk.imp (args' := [nilR, .agg (svF (List.replicate 32 .u8) (atL lk) 0), .ro 1 m (rowL d)]) ?_ ⟨DenImp.refl _, nums_imp hk, by rw [hf]; exact DenImp.refl _, trivial⟩
      refine FnOk.facts fun ⟨_, f1, _⟩ => ?_
      have k1 : KB (atL lk) := fun j hj => by
        have e : (List.replicate 32 IntKind.u8)[j]? = some .u8 := by rw [List.getElem?_replicate, if_pos hj]
        have f1 := facts_svF f1 j .u8 e
        rw [Nat.zero_add] at f1
        exact ⟨f1.1, Int.lt_of_le_of_lt f1.2 (by decide)⟩
      have k2 : KB (kk (atL lk)) := fun j hj => by rw [show kk (atL lk) j = atL lk j from atLF hj]; exact k1 j hj
      have M0 := MS_new k2
      have M := MS_43 (MS_Z M0 hd m (Nat.le_refl _))
      have hi : ∀ j, j < 16 → Byte (atL (hiK (kk (atL lk))) j) := hiB k1
      have hT := MS_tag M hi
      refine FnOk.val (v := .agg (svF (List.replicate 16 .u8) (tgN (ofN (atL lk) d m)) 0)) (C := []) (rd := []) (FnOk.pure gn_ok (of_run (atL lk) d m) ?_) (fun w0 O ρ u h => ?_)
      · refine allC_append.2 ⟨?_, allC_append.2 ⟨hc, ?_⟩⟩
        · simp only [allC_cons, allC_nil, and_true]; exact hL
        · simp only [allC_cons, allC_nil, and_true]; exact ⟨⟨_, _, M0⟩, MS_h M⟩
      · have e : svF (List.replicate 16 .u8) (atL (DT (atL lk) (xZ d m))) 0 = svF (List.replicate 16 .u8) (tgN (ofN (atL lk) d m)) 0 := svF_cg _ 0 fun j hj => by
          rw [List.length_replicate] at hj
          rw [Nat.zero_add, DT, ← hT]
          exact atLF hj
        rw [e]; exact h
    · simp at h
  · simp at h
noncomputable abbrev gs : Ctx := gn.add [(16, F16), (17, F17), (47, eqArrF 16)]
theorem gs_ok : CtxU gs := gn_ok.add mixed noGo (by
  intro x hx
  simp only [List.mem_cons, List.not_mem_nil, or_false] at hx
  rcases hx with rfl | rfl | rfl
  · exact acc16
  · exact acc17
  · exact Acc.of (g := g0) rfl rfl acc47)
theorem check_run (k t : Nat → Int) (d : Nat → List Int) (m : Nat) : runF gs 900 [] 18 [nilR, .agg (svF (List.replicate 32 .u8) k 0), .agg (svF (List.replicate 16 .u8) t 0), .ro 1 m (rowL d)] [] [] =
    some (.sbool (decide ((if listF 16 (atL (DT (kk k) (xZ d m))) 0 = listF 16 t 0 then (1 : Int) else 0) = 1)), [], oC (rowL d) m) :=
  run_parts (by kernel_rfl) (by kernel_rfl) (by kernel_rfl)
end Go.Proofs.Ytejcjdhplpjpjaa

namespace Go.Proofs.Ytejcjdhplpjpjaa
open Go Go.Vx
/-! ### MacTwo: the account -/
abbrev n32 (k : Nat → Int) : List Int := listF 32 k 0
noncomputable abbrev a2E (q : Nat) (k : Nat → Int) (d : Nat → List Int) (m : Nat) : Nat → Int := aQ q (atL (nwL (kk k))) d m
noncomputable abbrev twF (p : Nat → Bool) (d : Nat → List Int) (m : Nat) (k l : Nat → Int) : List Prop :=
  [rowY p d = rowY (pOf (rowY p d)) (dOf (rowY p d)), Fits .i64 (m : Int), ∀ i, i < m → factsC (rowY p d i), m ≤ 400, KB (kk k), KB (kk l), MK (kk k) [] (atL (nwL (kk k))), MK (kk l) [] (atL (nwL (kk l)))]
theorem two_run0 (p : Nat → Bool) (d : Nat → List Int) (m : Nat) (k l : Nat → Int) : runF gt 900 [.br false, .loop 10 twKeep 4 (.exit 0) (mkLoopN twG0), .br true, .br true] 3 [.agg (svF (List.replicate 32 .u8) k 0), .agg (svF (List.replicate 32 .u8) l 0), .ro 2 m (rowY p d)] [] [] =
    some (.sbool true, [], [Fits .i64 (m : Int), decide ((400 : Int) < (m : Int)) = false, LoopGood gt 109 (.loop twBody) twKeep 4 (.exit 0) (mkLoopN twG0)] ++ (twF p d m k l ++ [sp2 d m = m, decide (Tg (a2E 1 l d m) = Dg l (xQ 1 d m)) = true, (xQ 1 d m).length = (xQ 1 d m).length, (xQ 1 d m).length ≤ 140737488355328, 0 ≤ n43 (a2E 1 l d m) 42 ∧ n43 (a2E 1 l d m) 42 < 16,
      decide (Tg (a2E 0 k d m) = Dg k (xQ 0 d m)) = true, (xQ 0 d m).length = (xQ 0 d m).length, (xQ 0 d m).length ≤ 140737488355328, 0 ≤ n43 (a2E 0 k d m) 42 ∧ n43 (a2E 0 k d m) 42 < 16])) :=
  run_parts (by kernel_rfl) (by kernel_rfl) (by kernel_rfl)
theorem two_run1 (p : Nat → Bool) (d : Nat → List Int) (m : Nat) (k l : Nat → Int) : runF gt 900 [.br false, .loop 10 twKeep 4 .ret (mkLoopN twG1)] 3 [.agg (svF (List.replicate 32 .u8) k 0), .agg (svF (List.replicate 32 .u8) l 0), .ro 2 m (rowY p d)] [] [] =
    some (.bool true, [], [Fits .i64 (m : Int), decide ((400 : Int) < (m : Int)) = false, LoopGood gt 109 (.loop twBody) twKeep 4 .ret (mkLoopN twG1)] ++ (twF p d m k l ++ [sp2 d m < m, Fits .i64 ((d (sp2 d m)).length : Int)])) :=
  run_parts (by kernel_rfl) (by kernel_rfl) (by kernel_rfl)
theorem two_run2 (p : Nat → Bool) (d : Nat → List Int) (m : Nat) (k l : Nat → Int) : runF gt 900 [.br true] 3 [.agg (svF (List.replicate 32 .u8) k 0), .agg (svF (List.replicate 32 .u8) l 0), .ro 2 m (rowY p d)] [] [] =
    some (.bool true, [], [Fits .i64 (m : Int), decide ((400 : Int) < (m : Int)) = true]) :=
  run_parts (by kernel_rfl) (by kernel_rfl) (by kernel_rfl)
theorem KB_kk {k : Nat → Int} (h : KB k) : KB (kk k) := fun j hj => by rw [show kk k j = k j from atLF hj]; exact h j hj
theorem key_bytes {k : Nat → Int} (hf : factsC (.agg (svF (List.replicate 32 .u8) k 0))) : KB k := fun j hj => by
  have e : (List.replicate 32 IntKind.u8)[j]? = some .u8 := by rw [List.getElem?_replicate, if_pos hj]
  have f1 := facts_svF hf j .u8 e
  rw [Nat.zero_add] at f1
  exact ⟨f1.1, Int.lt_of_le_of_lt f1.2 (by decide)⟩
theorem tag_eq' {k : Nat → Int} {x : List Int} {a : Nat → Int} (hk : KB k) (h : MK k x a) : decide (Tg a = Dg k x) = true := by
  have := tag_eq hk h
  cases e : decide (Tg a = Dg k x) with
  | true => rfl
  | false => rw [e] at this; simp at this
theorem two_ok (k l : Nat → Int) (m : Nat) (a : Nat → Nat → Int) (d : Nat → Nat → List Int) (Fm : Fits .i64 (m : Int)) (hl : ∀ i j, Fits .i64 ((d i j).length : Int)) (hf : ∀ i, i < m → factsC (.agg (svY [.b, .s .u8] (a i) (d i) 0))) :
    FnOk gt 3 [.agg (svF (List.replicate 32 .u8) k 0), .agg (svF (List.replicate 32 .u8) l 0), .ro 2 m fun i => .agg (svY [.b, .s .u8] (a i) (d i) 0)] [] { val := .bool true } := by
  show FnOk gt 3 [.agg (svF (List.replicate 32 .u8) k 0), .agg (svF (List.replicate 32 .u8) l 0), .ro 2 m (rowY (fun i => decide (a i 0 = 1)) (fun i => d i 1))] [] { val := .bool true }
  have hf' : ∀ i, i < m → factsC (rowY (fun i => decide (a i 0 = 1)) (fun i => d i 1) i) := hf
  have hl' : ∀ i, Fits .i64 (((fun i => d i 1) i).length : Int) := fun i => hl i 1
  generalize (fun i => decide (a i 0 = 1)) = p at *
  generalize (fun i => d i 1) = e at *
  have hL0 := tw_loop0
  have hL1 := tw_loop1
  refine FnOk.facts fun ⟨f1, f2, _⟩ => ?_
  have k1 := key_bytes f1
  have k2 := key_bytes f2
  by_cases h4 : 400 < m
  · exact FnOk.pure gt_ok (two_run2 p e m k l) (by simp only [allC_cons, allC_nil, and_true]; exact ⟨Fm, decide_eq_true (by omega)⟩)
  · have hc : AllC (twF p e m k l) := by
      simp only [twF, allC_cons, allC_nil, and_true]
      exact ⟨rfl, Fm, hf', by omega, KB_kk k1, KB_kk k2, MK_new k1, MK_new k2⟩
    have h0 : decide ((400 : Int) < (m : Int)) = false := decide_eq_false (by omega)
    have hle := sp2_le e m
    by_cases hs : sp2 e m = m
    · refine FnOk.ofSb (b := true) (FnOk.pure gt_ok (two_run0 p e m k l) ?_) rfl
      refine allC_append.2 ⟨?_, allC_append.2 ⟨hc, ?_⟩⟩
      · simp only [allC_cons, allC_nil, and_true]; exact ⟨Fm, h0, hL0⟩
      · have hd := rowY_bytes (f := rowY p e) rfl hf'
        have A : MK k (xQ 0 e m) (a2E 0 k e m) := by
          have := MS_Q 0 (MK_new k1) hd m (Nat.le_refl _)
          rw [kk_kk] at this; exact this
        have B : MK l (xQ 1 e m) (a2E 1 l e m) := by
          have := MS_Q 1 (MK_new k2) hd m (Nat.le_refl _)
          rw [kk_kk] at this; exact this
        have hx := xQ_len (d := e) (m := m) m (by omega)
        simp only [allC_cons, allC_nil, and_true]
        exact ⟨hs, tag_eq' k2 B, trivial, by omega, MS_h (MS_43 B), tag_eq' k1 A, trivial, by omega, MS_h (MS_43 A)⟩
    · refine FnOk.pure gt_ok (two_run1 p e m k l) ?_
      refine allC_append.2 ⟨?_, allC_append.2 ⟨hc, ?_⟩⟩
      · simp only [allC_cons, allC_nil, and_true]; exact ⟨Fm, h0, hL1⟩
      · simp only [allC_cons, allC_nil, and_true]; exact ⟨by omega, hl' _⟩
end Go.Proofs.Ytejcjdhplpjpjaa

namespace Go.Proofs.Ytejcjdhplpjpjaa
open Go Go.Vx
/-! ### Of of one piece -/
noncomputable abbrev ofO1 (k : Nat → Int) (x : List Int) : Nat → Int := n43 (wrA (atL (nwL (kk k))) x)
theorem of1_run (k : Nat → Int) (x : List Int) : runF gn 900 [.br true, .fix 0, .br false] 16 [nilR, .agg (svF (List.replicate 32 .u8) k 0), .sl 0 1 0 1 0 1 true] [.cells [.roi .u8 x]] [] =
    some (.agg (svF (List.replicate 16 .u8) (tgN (ofO1 k x)) 0), [some (.cells [.roi .u8 x])], [true = true, 0 ≤ atL (nwL (kk k)) 42 ∧ atL (nwL (kk k)) 42 < 16, x.length ≤ 140737488355328, (0 : Int) = 0, false = false, 0 ≤ ofO1 k x 42 ∧ ofO1 k x 42 < 16]) :=
  run_parts (by kernel_rfl) (by kernel_rfl) (by kernel_rfl)
noncomputable def F16s : SumF := fun args B => match args, B with
  | [.raw (.pointer none), .agg ks, .sl 0 1 0 1 0 1 true], [.cells [.roi K x]] => match numsAs (List.replicate 32 .u8) ks, sameK K .u8 with
    | some lk, true => some { val := .agg (svF (List.replicate 16 .u8) (atL (DT (atL lk) x)) 0), C := [x.length ≤ 140737488355328, Bytes x] }
    | _, _ => none
  | _, _ => none
theorem acc16s : Acc gn 16 F16s := by
  intro args B out h hC
  unfold F16s at h
  split at h
  · rename_i ks K x
    split at h
    · rename_i lk hk hK
      obtain rfl := kidx_inj hK
      simp only [Option.some.injEq] at h; subst h
      simp only [allC_cons, allC_nil, and_true] at hC
      obtain ⟨hx, hb⟩ := hC
      refine FnOk.imp (args' := [nilR, .agg (svF (List.replicate 32 .u8) (atL lk) 0), .sl 0 1 0 1 0 1 true]) ?_ ⟨DenImp.refl _, nums_imp hk, DenImp.refl _, trivial⟩
      refine FnOk.facts fun ⟨_, f1, _⟩ => ?_
      have k1 := key_bytes f1
      have M0 := MS_new (KB_kk k1)
      have M := MS_43 (MS_write M0 hb)
      have hT := MS_tag M (hiB k1)
      refine FnOk.val (v := .agg (svF (List.replicate 16 .u8) (tgN (ofO1 (atL lk) x)) 0)) (C := []) (rd := []) ?_ (fun w0 O ρ u h => ?_)
      · exact FnOk.run (new := []) gn_ok (of1_run (atL lk) x) (by simp only [allC_cons, allC_nil, and_true]; exact ⟨trivial, MS_h M0, hx, trivial, trivial, MS_h M⟩) (by simp [upto]) rfl (by simp) (by simp) (fun j hj => by
          match j, hj with
          | 0, _ => rfl)
      · have e : svF (List.replicate 16 .u8) (atL (DT (atL lk) x)) 0 = svF (List.replicate 16 .u8) (tgN (ofO1 (atL lk) x)) 0 := svF_cg _ 0 fun j hj => by
          rw [List.length_replicate] at hj
          have hT2 : listF 16 (tgN (ofO1 (atL lk) x)) 0 = dTag (kT (kk (atL lk))) (atL (hiK (kk (atL lk)))) x := hT
          rw [Nat.zero_add, DT, ← hT2]
          exact atLF hj
        rw [e]; exact h
    · simp at h
  · simp at h
noncomputable abbrev gz : Ctx := gs.add [(16, oneOf F16 F16s)]
theorem gz_ok : CtxU gz := gs_ok.add mixed noGo (by
  intro x hx
  simp only [List.mem_cons, List.not_mem_nil, or_false] at hx
  rcases hx with rfl
  exact Acc.of (g := gn) rfl rfl (acc_one acc16 acc16s))
end Go.Proofs.Ytejcjdhplpjpjaa

namespace Go.Proofs.Ytejcjdhplpjpjaa
open Go Go.Vx
/-! ### MacCuts: a round -/
noncomputable abbrev cuC : Code := match Try.f5.body with | some c => c | none => .skip
abbrev cuKeep : List Nat := [1, 2, 3, 7, 8, 9, 10, 11]
noncomputable abbrev cuBody : Code := bodyAt Try.prog 5 10
noncomputable abbrev cuO (x cs : List Int) (p i : Int) : List SV := [.roi .u8 x, .roi .i64 cs, .ptr 0 0, .ptr 1 0, .ptr 2 0, .own 3, .int .i64 p, .int .i64 i]
noncomputable abbrev cuS (x cs : List Int) (p i : Nat) : List (Nat × SV) := cuKeep.zip (cuO x cs (p : Int) (i : Int))
noncomputable abbrev cuB (k t a : Nat → Int) (P : List (List Int)) : List Body := [.cells (svF (List.replicate 32 .u8) k 0), .cells (svF (List.replicate 16 .u8) t 0), macV nilR a, .lists .u8 P]
abbrev cuV (cs : List Int) (i : Nat) : Int := cs.getD (i : Int).toNat 0
abbrev cuP (x : List Int) (p : Nat) (c : Int) : List Int := (x.drop (p : Int).toNat).take (((p : Int) + c).toNat - (p : Int).toNat)
abbrev cuC0 (cs : List Int) (i : Nat) : List Prop := [decide ((i : Int) < (cs.length : Int)) = true, Fits .i64 (cs.length : Int), decide ((i : Int) < 400) = true]
abbrev cuI (cs : List Int) (i : Nat) : Prop := 0 ≤ (i : Int) ∧ (i : Int) < (cs.length : Int)
abbrev cuL (x : List Int) (p : Nat) (c : Int) : Prop := 0 ≤ (p : Int) ∧ (p : Int) ≤ (p : Int) + c ∧ (p : Int) + c ≤ (x.length : Int)
theorem cu_w (x cs : List Int) (k t a : Nat → Int) (p i : Nat) (P : List (List Int)) : runC gz 900 130 [.br true, .br true, .br false, .br false] cuBody (cuS x cs p i) (cuB k t a P) cuKeep [0, 1, 2, 5] =
    some (.normal, cuO x cs ((p : Int) + cuV cs i) ((i : Int) + 1), (cuB k t (wrA (n43 a) (cuP x p (cuV cs i))) (P ++ [cuP x p (cuV cs i)])).map some, cuC0 cs i ++ [Fits .i64 ((x.length : Int) - (p : Int)), Fits .i64 (x.length : Int), cuI cs i, decide (cuV cs i < 0) = false, cuI cs i, decide ((x.length : Int) - (p : Int) < cuV cs i) = false,
      (P ++ [cuP x p (cuV cs i)]).length * 24 ≤ 2 ^ 47, cuL x p (cuV cs i), Fits .i64 ((p : Int) + cuV cs i), cuI cs i, 0 ≤ n43 a 42 ∧ n43 a 42 < 16, (cuP x p (cuV cs i)).length ≤ 140737488355328, cuL x p (cuV cs i), Fits .i64 ((p : Int) + cuV cs i), cuI cs i, Fits .i64 ((p : Int) + cuV cs i), cuI cs i, Fits .i64 ((i : Int) + 1)]) :=
  r3_parts4 (by kernel_rfl) (by kernel_rfl) (by kernel_rfl) (by kernel_rfl)
theorem cu_n (x cs : List Int) (k t a : Nat → Int) (p i : Nat) (P : List (List Int)) : runC gz 900 130 [.br true, .br true, .br true] cuBody (cuS x cs p i) (cuB k t a P) cuKeep [0, 1, 2, 3] =
    some (.normal, cuO x cs (p : Int) ((i : Int) + 1), (cuB k t a P).map some, cuC0 cs i ++ [decide (cuV cs i < 0) = true, cuI cs i, Fits .i64 ((i : Int) + 1)]) :=
  r3_parts4 (by kernel_rfl) (by kernel_rfl) (by kernel_rfl) (by kernel_rfl)
theorem cu_b (x cs : List Int) (k t a : Nat → Int) (p i : Nat) (P : List (List Int)) : runC gz 900 130 [.br true, .br true, .br false, .br true] cuBody (cuS x cs p i) (cuB k t a P) cuKeep [0, 1, 2, 3] =
    some (.normal, cuO x cs (p : Int) ((i : Int) + 1), (cuB k t a P).map some, cuC0 cs i ++ [Fits .i64 ((x.length : Int) - (p : Int)), Fits .i64 (x.length : Int), cuI cs i, decide (cuV cs i < 0) = false, cuI cs i, decide ((x.length : Int) - (p : Int) < cuV cs i) = true, Fits .i64 ((i : Int) + 1)]) :=
  r3_parts4 (by kernel_rfl) (by kernel_rfl) (by kernel_rfl) (by kernel_rfl)
theorem cu_e (x cs : List Int) (k t a : Nat → Int) (p i : Nat) (P : List (List Int)) : runC gz 900 130 [.br false] cuBody (cuS x cs p i) (cuB k t a P) cuKeep [0, 1, 2, 3] =
    some (.exit 0, cuO x cs (p : Int) (i : Int), (cuB k t a P).map some, [decide ((i : Int) < (cs.length : Int)) = false, Fits .i64 (cs.length : Int)]) :=
  r3_parts4 (by kernel_rfl) (by kernel_rfl) (by kernel_rfl) (by kernel_rfl)
theorem cu_m (x cs : List Int) (k t a : Nat → Int) (p i : Nat) (P : List (List Int)) : runC gz 900 130 [.br true, .br false] cuBody (cuS x cs p i) (cuB k t a P) cuKeep [0, 1, 2, 3] =
    some (.exit 0, cuO x cs (p : Int) (i : Int), (cuB k t a P).map some, [decide ((i : Int) < (cs.length : Int)) = true, Fits .i64 (cs.length : Int), decide ((i : Int) < 400) = false]) :=
  r3_parts4 (by kernel_rfl) (by kernel_rfl) (by kernel_rfl) (by kernel_rfl)
/-! ### MacCuts: what lies ahead of the loop -/
abbrev preKeep : List Nat := [1, 2, 3, 7, 8, 9, 10]
theorem cu_pre (x cs : List Int) (k : Nat → Int) : runC gz 900 130 [.br false] (takeSeq 7 cuC) [(0, .agg (svF (List.replicate 32 .u8) k 0)), (1, .roi .u8 x), (2, .roi .i64 cs)] [] preKeep [0, 2, 3] =
    some (.normal, [.roi .u8 x, .roi .i64 cs, .ptr 0 0, .ptr 1 0, .ptr 2 0, .raw (.slice none 0 0), .lit .i64 0], [Body.cells (svF (List.replicate 32 .u8) k 0), .cells (svF (List.replicate 16 .u8) (atL (DT (kk k) x)) 0), nwV (kk k)].map some, [Fits .i64 (x.length : Int), decide ((131072 : Int) < (x.length : Int)) = false, x.length ≤ 140737488355328, Bytes x]) :=
  r3_parts4 (by kernel_rfl) (by kernel_rfl) (by kernel_rfl) (by kernel_rfl)
end Go.Proofs.Ytejcjdhplpjpjaa

namespace Go.Proofs.Ytejcjdhplpjpjaa
open Go Go.Vx
/-! ### MacCuts: behind the loop -/
abbrev cuR (x : List Int) (p : Nat) : List Int := (x.drop (p : Int).toNat).take ((x.length : Int).toNat - (p : Int).toNat)
abbrev cuLR (x : List Int) (p : Nat) : Prop := 0 ≤ (p : Int) ∧ (p : Int) ≤ (x.length : Int) ∧ (x.length : Int) ≤ (x.length : Int)
theorem cu_c (x cs : List Int) (k t a : Nat → Int) (p i : Nat) (P : List (List Int)) : runC gz 900 130 [] (takeSeq 2 (dropSeq 8 cuC)) (cuS x cs p i) (cuB k t a P) [1, 3, 7, 8, 9] [0, 1, 2, 5] =
    some (.normal, [.roi .u8 x, .ptr 0 0, .ptr 1 0, .ptr 2 0, .own 3], (cuB k t (wrA (n43 a) (cuR x p)) (P ++ [cuR x p])).map some, [(P ++ [cuR x p]).length * 24 ≤ 2 ^ 47, cuLR x p, 0 ≤ n43 a 42 ∧ n43 a 42 < 16, (cuR x p).length ≤ 140737488355328, cuLR x p]) :=
  r3_parts4 (by kernel_rfl) (by kernel_rfl) (by kernel_rfl) (by kernel_rfl)
noncomputable abbrev cuT (x : List Int) (n : Nat) (d : Nat → List Int) : List (Nat × SV) := [1, 3, 7, 8, 9].zip [.roi .u8 x, .ptr 0 0, .ptr 1 0, .ptr 2 0, .ro 1 n (rowL d)]
noncomputable abbrev cuB3 (k t a : Nat → Int) : List Body := [.cells (svF (List.replicate 32 .u8) k 0), .cells (svF (List.replicate 16 .u8) t 0), macV nilR a]
noncomputable abbrev cuE (x : List Int) (k t a : Nat → Int) (n : Nat) (d : Nat → List Int) (b : Bool) : List Prop := [0 ≤ n43 a 42 ∧ n43 a 42 < 16, (!decide (listF 16 (atL (DT (kk k) (xZ d n))) 0 = listF 16 t 0)) = false] ++ (oC (rowL d) n ++ [(!decide (listF 16 (tgN (n43 a)) 0 = listF 16 t 0)) = false, Fits .i64 (x.length : Int), decide ((300 : Int) < (x.length : Int)) = b])
theorem cu_d1 (x : List Int) (k t a : Nat → Int) (n : Nat) (d : Nat → List Int) : runC gz 900 130 [.br false, .br false, .br true] (dropSeq 2 (dropSeq 8 cuC)) (cuT x n d) (cuB3 k t a) [6] [0, 1, 2] =
    some (.ret, [.sbool true], (cuB3 k t (n43 a)).map some, cuE x k t a n d true) :=
  r3_parts4 (by kernel_rfl) (by kernel_rfl) (by kernel_rfl) (by kernel_rfl)
/-! ### byte by byte -/
abbrev byKeep : List Nat := [1, 7, 12, 13]
noncomputable abbrev byBody : Code := bodyAt Try.prog 5 24
noncomputable abbrev byO (x : List Int) (i : Int) : List SV := [.roi .u8 x, .ptr 0 0, .ptr 1 0, .int .i64 i]
noncomputable abbrev byS (x : List Int) (i : Nat) : List (Nat × SV) := byKeep.zip (byO x (i : Int))
noncomputable abbrev byB (t a : Nat → Int) : List Body := [.cells (svF (List.replicate 16 .u8) t 0), macV nilR a]
abbrev byP (x : List Int) (i : Nat) : List Int := (x.drop (i : Int).toNat).take (((i : Int) + 1).toNat - (i : Int).toNat)
noncomputable def byA (x : List Int) (a : Nat → Int) : Nat → (Nat → Int)
  | 0 => a
  | i + 1 => n43 (wrA (n43 (byA x a i)) (byP x i))
theorem by_go (x : List Int) (t a : Nat → Int) (i : Nat) : runC gz 900 130 [.br true] byBody (byS x i) (byB t a) byKeep [0, 1] =
    some (.normal, byO x ((i : Int) + 1), (byB t (n43 (wrA (n43 a) (byP x i)))).map some, [Fits .i64 (x.length : Int), decide ((i : Int) < (x.length : Int)) = true, 0 ≤ n43 a 42 ∧ n43 a 42 < 16, (byP x i).length ≤ 140737488355328, 0 ≤ (i : Int) ∧ (i : Int) ≤ (i : Int) + 1 ∧ (i : Int) + 1 ≤ (x.length : Int), Fits .i64 ((i : Int) + 1),
      0 ≤ n43 (wrA (n43 a) (byP x i)) 42 ∧ n43 (wrA (n43 a) (byP x i)) 42 < 16, Fits .i64 ((i : Int) + 1)]) :=
  r3_parts4 (by kernel_rfl) (by kernel_rfl) (by kernel_rfl) (by kernel_rfl)
theorem by_end (x : List Int) (t a : Nat → Int) (i : Nat) : runC gz 900 130 [.br false] byBody (byS x i) (byB t a) byKeep [0, 1] =
    some (.exit 2, byO x (i : Int), (byB t a).map some, [Fits .i64 (x.length : Int), decide ((i : Int) < (x.length : Int)) = false]) :=
  r3_parts4 (by kernel_rfl) (by kernel_rfl) (by kernel_rfl) (by kernel_rfl)
theorem take_more (x : List Int) {p c q : Nat} (h : q = p + c) : x.take q = x.take p ++ (x.drop p).take c := by
  subst h; exact List.take_add
theorem byP_eq (x : List Int) (i : Nat) : byP x i = (x.drop i).take 1 := by
  show (x.drop ((i : Int)).toNat).take (((i : Int) + 1).toNat - (i : Int).toNat) = _
  rw [show ((i : Int)).toNat = i by omega, show ((i : Int) + 1).toNat - i = 1 by omega]
theorem sub_bytes {x : List Int} (h : Bytes x) (p c : Nat) : Bytes ((x.drop p).take c) := fun n => by
  rw [List.getD_eq_getElem?_getD, List.getElem?_take]
  split
  · rw [List.getElem?_drop, ← List.getD_eq_getElem?_getD]; exact h _
  · exact ⟨by decide, by decide⟩
theorem MS_by {T : Int} {mk : Nat → Int} {x : List Int} {a : Nat → Int} (h0 : MS T mk [] a) (hx : Bytes x) : ∀ i, MS T mk (x.take i) (byA x a i)
  | 0 => by simpa [byA] using h0
  | i + 1 => by
    have ih := MS_by h0 hx i
    have hb : Bytes (byP x i) := by rw [byP_eq]; exact sub_bytes hx _ _
    have := MS_43 (MS_write (MS_43 ih) hb)
    rw [byP_eq, ← take_more x (p := i) (c := 1) rfl] at this
    show MS T mk (x.take (i + 1)) (n43 (wrA (n43 (byA x a i)) (byP x i)))
    rw [byP_eq]; exact this
noncomputable def byG : LoopF := fun vals B => match vals, B with
  | [.roi K x, .ptr 0 0, .ptr 1 0, .int .i64 0], [.cells ts, .cells ms] => match sameK K .u8, numsAs (List.replicate 16 .u8) ts, macAs ms, headK (ms.take 1) with
    | true, some lt, some la, .nil => some ([(7, .ptr 0 0), (12, .ptr 1 0)], byB (atL lt) (byA x (atL la) x.length), [x.length ≤ 300, Bytes x, ∃ T mk, MS T mk [] (atL la)])
    | _, _, _, _ => none
  | _, _ => none
theorem by_loop : LoopGood gz 130 (.loop byBody) byKeep 2 (.exit 2) (mkLoopN byG) := by
  refine LoopGood.mkN (by decide) fun vals B S' B' C hG hC hlen w0 O hgl => ?_
  clear hlen
  unfold byG at hG
  split at hG
  · rename_i K x ts ms
    split at hG
    · rename_i lt la hK ht ha hr
      obtain rfl := kidx_inj hK
      have hr := head_nil hr
      simp only [Option.some.injEq, Prod.mk.injEq] at hG
      obtain ⟨rfl, rfl, rfl⟩ := hG
      simp only [allC_cons, allC_nil, and_true] at hC
      obtain ⟨hx, hb, T, mk, h0⟩ := hC
      refine SimC.preI (B1 := byB (atL lt) (atL la)) ?_ ⟨cells_nums ht, cells_mac ha hr rfl, trivial⟩
      show SimC _ _ _ _ _ (byS x 0) (byB (atL lt) (byA x (atL la) 0)) _ _ _ _
      refine SimC.iter (g := gz) (e := .exit 2) (S := fun i => byS x i) (B := fun i => byB (atL lt) (byA x (atL la) i)) (N := x.length) (fun i hi => ?_) ?_ (by simp) 0 (by omega)
      · have M := MS_43 (MS_by h0 hb i)
        have M2 := MS_by h0 hb (i + 1)
        have e := byP_eq x i
        have hl : (byP x i).length ≤ 1 := by rw [e, List.length_take]; omega
        have F1 : Fits .i64 ((i : Int) + 1) := fits_of (by omega) (by omega)
        refine SimC.run (B' := byB (atL lt) (byA x (atL la) (i + 1))) gz_ok (by decide) (by_go x _ _ i) ?_ (by decide) idB (by decide) (by simp) hgl
        simp only [allC_cons, allC_nil, and_true]
        exact ⟨fits_of (by omega) (by omega), decide_eq_true (by omega), MS_h M, by omega, ⟨by omega, by omega, by omega⟩, F1, MS_h M2, F1⟩
      · exact SimC.weaken (SimC.run (B' := byB (atL lt) (byA x (atL la) x.length)) gz_ok (by decide) (by_end x _ _ x.length) (by simp only [allC_cons, allC_nil, and_true]; exact ⟨fits_of (by omega) (by omega), decide_eq_false (by omega)⟩) (by decide) idB (by decide) (by simp) hgl) (sub_mkT (by simp; exact ⟨rfl, rfl⟩))
    · simp at hG
  · simp at hG
noncomputable abbrev byE (k : Nat → Int) (x : List Int) : Nat → Int := n43 (byA x (atL (nwL (kk k))) x.length)
theorem cu_d2 (x : List Int) (k t a : Nat → Int) (n : Nat) (d : Nat → List Int) : runC gz 900 130 [.br false, .br false, .br false, .loop 24 byKeep 2 (.exit 2) (mkLoopN byG), .br true] (dropSeq 2 (dropSeq 8 cuC)) (cuT x n d) (cuB3 k t a) [6] [0, 1, 2] =
    some (.ret, [.sbool true], (cuB3 k (atL (listF 16 t 0)) (n43 a)).map some, cuE x k t a n d false ++ ([LoopGood gz 130 (.loop byBody) byKeep 2 (.exit 2) (mkLoopN byG), x.length ≤ 300, Bytes x, ∃ T mk, MS T mk [] (atL (nwL (kk k))), decide (listF 16 (tgN (byE k x)) 0 = listF 16 t 0) = true, 0 ≤ byE k x 42 ∧ byE k x 42 < 16])) :=
  r3_parts4 (by kernel_rfl) (by kernel_rfl) (by kernel_rfl) (by kernel_rfl)
end Go.Proofs.Ytejcjdhplpjpjaa

namespace Go.Proofs.Ytejcjdhplpjpjaa
open Go Go.Vx
/-! ### MacCuts: what holds between the rounds -/
noncomputable def cuN (x cs : List Int) (a : Nat → Int) : Nat → Nat × (Nat → Int) × List (List Int)
  | 0 => (0, a, [])
  | i + 1 => if 0 ≤ cuV cs i ∧ cuV cs i ≤ (x.length : Int) - ((cuN x cs a i).1 : Int) then ((cuN x cs a i).1 + (cuV cs i).toNat, wrA (n43 (cuN x cs a i).2.1) (cuP x (cuN x cs a i).1 (cuV cs i)), (cuN x cs a i).2.2 ++ [cuP x (cuN x cs a i).1 (cuV cs i)]) else cuN x cs a i
structure CI (x : List Int) (T : Int) (mk : Nat → Int) (i : Nat) (s : Nat × (Nat → Int) × List (List Int)) : Prop where
  le : s.1 ≤ x.length
  fl : s.2.2.flatten = x.take s.1
  ms : MS T mk (x.take s.1) s.2.1
  cnt : s.2.2.length ≤ i
  mem : ∀ r ∈ s.2.2, r.length ≤ x.length ∧ ∀ n ∈ r, n ∈ x
theorem cuP_eq (x : List Int) {p : Nat} {c : Int} (h : 0 ≤ c) : cuP x p c = (x.drop p).take c.toNat := by
  show (x.drop ((p : Int)).toNat).take (((p : Int) + c).toNat - (p : Int).toNat) = _
  rw [show ((p : Int)).toNat = p by omega, show ((p : Int) + c).toNat - p = c.toNat by omega]
theorem cuR_eq (x : List Int) (p : Nat) : cuR x p = x.drop p := by
  show (x.drop ((p : Int)).toNat).take ((x.length : Int).toNat - (p : Int).toNat) = _
  rw [show ((p : Int)).toNat = p by omega, show ((x.length : Int)).toNat = x.length by omega]
  exact List.take_of_length_le (by rw [List.length_drop]; exact Nat.le_refl _)
theorem sub_mem {x : List Int} (p c : Nat) : ((x.drop p).take c).length ≤ x.length ∧ ∀ n ∈ (x.drop p).take c, n ∈ x :=
  ⟨by rw [List.length_take, List.length_drop]; omega, fun n hn => List.mem_of_mem_drop (List.mem_of_mem_take hn)⟩
theorem CI_N {x cs : List Int} {a : Nat → Int} {T : Int} {mk : Nat → Int} (h0 : MS T mk [] a) (hx : Bytes x) : ∀ i, CI x T mk i (cuN x cs a i)
  | 0 => ⟨Nat.zero_le _, by simp [cuN], by simpa [cuN] using h0, by simp [cuN], by simp [cuN]⟩
  | i + 1 => by
    obtain ⟨h1, h2, h3, h4, h5⟩ := CI_N (cs := cs) h0 hx i
    simp only [cuN]
    split
    · rename_i c
      have e := cuP_eq x (p := (cuN x cs a i).1) c.1
      have m := sub_mem (x := x) (cuN x cs a i).1 (cuV cs i).toNat
      have tm := take_more x (p := (cuN x cs a i).1) (c := (cuV cs i).toNat) rfl
      refine ⟨by show (cuN x cs a i).1 + (cuV cs i).toNat ≤ x.length; omega, ?_, ?_, ?_, ?_⟩
      · show ((cuN x cs a i).2.2 ++ [cuP x (cuN x cs a i).1 (cuV cs i)]).flatten = x.take ((cuN x cs a i).1 + (cuV cs i).toNat)
        rw [List.flatten_append, h2, e, tm]; simp
      · show MS T mk (x.take ((cuN x cs a i).1 + (cuV cs i).toNat)) (wrA (n43 (cuN x cs a i).2.1) (cuP x (cuN x cs a i).1 (cuV cs i)))
        rw [tm, e]
        exact MS_write (MS_43 h3) (sub_bytes hx _ _)
      · show ((cuN x cs a i).2.2 ++ [cuP x (cuN x cs a i).1 (cuV cs i)]).length ≤ i + 1
        rw [List.length_append, List.length_singleton]; omega
      · intro r hr
        rcases List.mem_append.1 hr with hr | hr
        · exact h5 r hr
        · simp only [List.mem_singleton] at hr; subst hr; rw [e]; exact m
    · exact ⟨h1, h2, h3, by omega, h5⟩
theorem xZ_flat (P : List (List Int)) : ∀ i, xZ (fun j => P.getD j []) i = (P.take i).flatten
  | 0 => by simp [xZ]
  | i + 1 => by
    simp only [xZ]
    rw [xZ_flat P i, List.take_add_one, List.flatten_append, List.getD_eq_getElem?_getD]
    congr 1
    cases h : P[i]? with
    | none => simp
    | some r => simp
theorem cu_round {W : World} {OW : Go.Vx.Own} (x cs : List Int) (k t a : Nat → Int) {T : Int} {mk : Nat → Int} (h0 : MS T mk [] a) (hx : Bytes x) (hl : x.length ≤ 131072) (Fc : Fits .i64 (cs.length : Int)) (i : Nat) (hi : i < cs.length) (h4 : i < 400) (b : Act) (w : World)
    (h : StG gz W OW 130 (cuS x cs (cuN x cs a i).1 i) (cuB k t (cuN x cs a i).2.1 (cuN x cs a i).2.2) b w) (Q : Exit → Act → World → Prop)
    (hq : ∀ b' w', StG gz W OW 130 (cuS x cs (cuN x cs a (i + 1)).1 (i + 1)) (cuB k t (cuN x cs a (i + 1)).2.1 (cuN x cs a (i + 1)).2.2) b' w' → Q .normal b' w') : cuBody.wp gz.P Q b w := by
  obtain ⟨c1, c2, c3, c4, c5⟩ := CI_N (cs := cs) h0 hx i
  have F1 : Fits .i64 ((i : Int) + 1) := fits_of (by omega) (by omega)
  have F2 : Fits .i64 (x.length : Int) := fits_of (by omega) (by omega)
  have Mh := MS_h (MS_43 c3)
  have hC0 : AllC (cuC0 cs i) := by
    simp only [cuC0, allC_cons, allC_nil, and_true]; exact ⟨decide_eq_true (by omega), Fc, decide_eq_true (by omega)⟩
  have hI : cuI cs i := ⟨by omega, by omega⟩
  by_cases ok : 0 ≤ cuV cs i ∧ cuV cs i ≤ (x.length : Int) - ((cuN x cs a i).1 : Int)
  · have e : cuN x cs a (i + 1) = ((cuN x cs a i).1 + (cuV cs i).toNat, wrA (n43 (cuN x cs a i).2.1) (cuP x (cuN x cs a i).1 (cuV cs i)), (cuN x cs a i).2.2 ++ [cuP x (cuN x cs a i).1 (cuV cs i)]) := by simp only [cuN]; rw [if_pos ok]
    rw [e] at hq
    have ep := cuP_eq x (p := (cuN x cs a i).1) ok.1
    have m := (sub_mem (x := x) (cuN x cs a i).1 (cuV cs i).toNat).1
    rw [← ep] at m
    have hL : cuL x (cuN x cs a i).1 (cuV cs i) := ⟨by omega, by omega, by omega⟩
    have F3 : Fits .i64 (((cuN x cs a i).1 : Int) + cuV cs i) := fits_of (by omega) (by omega)
    refine StG.run h gz_ok (by decide) (cu_w x cs k t _ _ i _) (allC_append.2 ⟨hC0, ?_⟩) (by decide) (by decide) (by simp) fun b' w' h' => hq b' w' ?_
    · simp only [allC_cons, allC_nil, and_true]
      exact ⟨fits_of (by omega) (by omega), F2, hI, decide_eq_false (by omega), hI, decide_eq_false (by omega), by rw [List.length_append, List.length_singleton]; omega, hL, F3, hI, Mh, by omega, hL, F3, hI, F3, hI, F1⟩
    · have e2 : (((cuN x cs a i).1 + (cuV cs i).toNat : Nat) : Int) = ((cuN x cs a i).1 : Int) + cuV cs i := by omega
      show StG gz W OW 130 (cuKeep.zip (cuO x cs (((cuN x cs a i).1 + (cuV cs i).toNat : Nat) : Int) (((i + 1 : Nat) : Int)))) _ b' w'
      rw [e2]; exact h'
  · have e : cuN x cs a (i + 1) = cuN x cs a i := by simp only [cuN]; rw [if_neg ok]
    rw [e] at hq
    by_cases hn : cuV cs i < 0
    · exact StG.run h gz_ok (by decide) (cu_n x cs k t _ _ i _) (allC_append.2 ⟨hC0, by simp only [allC_cons, allC_nil, and_true]; exact ⟨decide_eq_true hn, hI, F1⟩⟩) (by decide) (by decide) (by simp) fun b' w' h' => hq b' w' h'
    · exact StG.run h gz_ok (by decide) (cu_b x cs k t _ _ i _) (allC_append.2 ⟨hC0, by simp only [allC_cons, allC_nil, and_true]; exact ⟨fits_of (by omega) (by omega), F2, hI, decide_eq_false hn, hI, decide_eq_true (by omega), F1⟩⟩) (by decide) (by decide) (by simp) fun b' w' h' => hq b' w' h'
end Go.Proofs.Ytejcjdhplpjpjaa
