/- Accounts of this seat's functions: lemmas, no statement of their own. No conditions. -/
import Derived.Test.YtejcjdhplpjpjaaTSs
import Derived.Test.YtejcjdhplpjpjaaTSe
import Derived.Test.YtejcjdhplpjpjaaV5
namespace Go.Proofs.Ytejcjdhplpjpjaa
open Go Go.Vx
/-! ### Of, Check -/
noncomputable abbrev oC (f : Nat → SV) (m : Nat) : List Prop := lC f m ++ [∀ i, i < m → factsC (f i)]
noncomputable def ofG : LoopF := fun vals B => match vals, B with
  | [.raw (.pointer none), .ro 1 m f, .ptr 0 0, .ptr 1 0, .int .i64 0], [.cells zs, .cells ms] => match numsAs (List.replicate 16 .u8) zs, macAs ms, headK (ms.take 1) with
    | some lz, some la, .nil => some ([(6, .ptr 0 0), (7, .ptr 1 0)], ofB (atL lz) (aZ (atL la) (lOf f) m), oC f m ++ [∃ T mk, MS T mk [] (atL la)])
    | _, _, _ => none
  | _, _ => none
theorem rowL_bytes {f : Nat → SV} {m : Nat} (h : f = rowL (lOf f)) (hf : ∀ i, i < m → factsC (f i)) : YB (lOf f) m := fun i hi => by
  have := hf i hi
  rw [h] at this
  exact bytes_of this
theorem idB : ∀ j : Nat, j < 2 → ([0, 1] : List Nat)[j]? = some j := fun j hj => by
  match j, hj with
  | 0, _ => rfl
  | 1, _ => rfl
theorem of_loop : LoopGood gn 30 (.loop ofBody) ofKeep 2 (.exit 0) (mkLoopN ofG) := by
  refine LoopGood.mkN (by decide) fun vals B S' B' C hG hC hlen w0 O hgl => ?_
  clear hlen
  unfold ofG at hG
  split at hG
  · rename_i m f zs ms
    split at hG
    · rename_i lz la hz ha hr
      have hr := head_nil hr
      simp only [Option.some.injEq, Prod.mk.injEq] at hG
      obtain ⟨rfl, rfl, rfl⟩ := hG
      simp only [oC, lC, allC_append, allC_cons, allC_nil, and_true] at hC
      obtain ⟨⟨⟨hf, Fm, hl⟩, hff⟩, T, mk, h0⟩ := hC
      have hd := rowL_bytes hf hff
      generalize lOf f = d at *
      rw [hf]
      clear hf hff
      have hm : (m : Int) ≤ 9223372036854775807 := Fm.2
      refine SimC.preI (B1 := ofB (atL lz) (atL la)) ?_ ⟨cells_nums hz, cells_mac ha hr rfl, trivial⟩
      show SimC _ _ _ _ _ (ofS d m 0) (ofB (atL lz) (aZ (atL la) d 0)) _ _ _ _
      refine SimC.iter (g := gn) (e := .exit 0) (S := fun i => ofS d m i) (B := fun i => ofB (atL lz) (aZ (atL la) d i)) (N := m) (fun i hi => ?_) ?_ (by simp) 0 (by omega)
      · have hli := hl i hi
        refine SimC.run (B' := ofB (atL lz) (aZ (atL la) d (i + 1))) gn_ok (by decide) (of_go d m i _ _) ?_ (by decide) (idB) (by decide) (by simp) hgl
        simp only [allC_cons, allC_nil, and_true]
        exact ⟨Fm, decide_eq_true (by omega), MS_h (MS_43 (MS_Z h0 hd i (by omega))), by omega, ⟨by omega, by omega⟩, fits_of (by omega) (by omega)⟩
      · exact SimC.weaken (SimC.run (B' := ofB (atL lz) (aZ (atL la) d m)) gn_ok (by decide) (of_end d m m _ _) (by simp only [allC_cons, allC_nil, and_true]; exact ⟨Fm, decide_eq_false (by omega)⟩) (by decide) (idB) (by decide) (by simp) hgl) (sub_mkT (by simp; exact ⟨rfl, rfl⟩))
    · simp at hG
  · simp at hG
noncomputable abbrev ofN (k : Nat → Int) (d : Nat → List Int) (m : Nat) : Nat → Int := n43 (aZ (atL (nwL (kk k))) d m)
theorem of_run (k : Nat → Int) (d : Nat → List Int) (m : Nat) : runF gn 900 [.loop 3 ofKeep 2 (.exit 0) (mkLoopN ofG)] 16 [nilR, .agg (svF (List.replicate 32 .u8) k 0), .ro 1 m (rowL d)] [] [] =
    some (.agg (svF (List.replicate 16 .u8) (tgN (ofN k d m)) 0), [], [LoopGood gn 30 (.loop ofBody) ofKeep 2 (.exit 0) (mkLoopN ofG)] ++ (oC (rowL d) m ++ [∃ T mk, MS T mk [] (atL (nwL (kk k))), 0 ≤ ofN k d m 42 ∧ ofN k d m 42 < 16])) :=
  run_parts (by kernel_rfl) (by kernel_rfl) (by kernel_rfl)
def DT (k : Nat → Int) (x : List Int) : List Int := dTag (kT (kk k)) (atL (hiK (kk k))) x
theorem DT_L (k : Nat → Int) (x : List Int) : listF 16 (atL (DT k x)) 0 = DT k x := dTag_L _ _ _
noncomputable def F16 : SumF := fun args B => match args, B with
  | [.raw (.pointer none), .agg ks, .ro 1 m f], [] => match numsAs (List.replicate 32 .u8) ks with
    | some lk => some { val := .agg (svF (List.replicate 16 .u8) (atL (DT (atL lk) (xZ (lOf f) m))) 0), C := oC f m }
    | _ => none
  | _, _ => none
theorem acc16 : Acc gn 16 F16 := by
  intro args B out h hC
  unfold F16 at h
  split at h
  · rename_i ks m f
    split at h
    · rename_i lk hk
      simp only [Option.some.injEq] at h; subst h
      have hC2 := hC
      simp only [oC, lC, allC_append, allC_cons, allC_nil, and_true] at hC2
      obtain ⟨⟨hf, Fm, hl⟩, hff⟩ := hC2
      have hd := rowL_bytes hf hff
      rw [hf] at hff
      generalize lOf f = d at *
      have hc : AllC (oC (rowL d) m) := by
        simp only [oC, lC, allC_append, allC_cons, allC_nil, and_true]; exact ⟨⟨rfl, Fm, hl⟩, hff⟩
      have hL := of_loop
      refine FnOk.imp (args' := [nilR, .agg (svF (List.replicate 32 .u8) (atL lk) 0), .ro 1 m (rowL d)]) ?_ ⟨DenImp.refl _, nums_imp hk, by rw [hf]; exact DenImp.refl _, trivial⟩
      refine FnOk.facts fun ⟨_, f1, _⟩ => ?_
      have k1 : KB (atL lk) := fun j hj => by
        have e : (List.replicate 32 IntKind.u8)[j]? = some .u8 := by rw [List.getElem?_replicate, if_pos hj]
        have f1 := facts_svF f1 j .u8 e
        rw [Nat.zero_add] at f1
        exact ⟨f1.1, Int.lt_of_le_of_lt f1.2 (by decide)⟩
      have k2 : KB (kk (atL lk)) := fun j hj => by rw [show kk (atL lk) j = atL lk j from atLF hj]; exact k1 j hj
      have M0 := MS_new k2
      have M := MS_43 (MS_Z M0 hd m (Nat.le_refl _))
      have hi : ∀ j, j < 16 → Byte (atL (hiK (kk (atL lk))) j) := hiB k1
      have hT := MS_tag M hi
      refine FnOk.val (v := .agg (svF (List.replicate 16 .u8) (tgN (ofN (atL lk) d m)) 0)) (C := []) (rd := []) (FnOk.pure gn_ok (of_run (atL lk) d m) ?_) (fun w0 O ρ u h => ?_)
      · refine allC_append.2 ⟨?_, allC_append.2 ⟨hc, ?_⟩⟩
        · simp only [allC_cons, allC_nil, and_true]; exact hL
        · simp only [allC_cons, allC_nil, and_true]; exact ⟨⟨_, _, M0⟩, MS_h M⟩
      · have e : svF (List.replicate 16 .u8) (atL (DT (atL lk) (xZ d m))) 0 = svF (List.replicate 16 .u8) (tgN (ofN (atL lk) d m)) 0 := svF_cg _ 0 fun j hj => by
          rw [List.length_replicate] at hj
          rw [Nat.zero_add, DT, ← hT]
          exact atLF hj
        rw [e]; exact h
    · simp at h
  · simp at h
noncomputable abbrev gs : Ctx := gn.add [(16, F16), (17, F17), (47, eqArrF 16)]
theorem gs_ok : CtxU gs := gn_ok.add mixed noGo (by
  intro x hx
  simp only [List.mem_cons, List.not_mem_nil, or_false] at hx
  rcases hx with rfl | rfl | rfl
  · exact acc16
  · exact acc17
  · exact Acc.of (g := g0) rfl rfl acc47)
theorem check_run (k t : Nat → Int) (d : Nat → List Int) (m : Nat) : runF gs 900 [] 18 [nilR, .agg (svF (List.replicate 32 .u8) k 0), .agg (svF (List.replicate 16 .u8) t 0), .ro 1 m (rowL d)] [] [] =
    some (.sbool (decide ((if listF 16 (atL (DT (kk k) (xZ d m))) 0 = listF 16 t 0 then (1 : Int) else 0) = 1)), [], oC (rowL d) m) :=
  run_parts (by kernel_rfl) (by kernel_rfl) (by kernel_rfl)
end Go.Proofs.Ytejcjdhplpjpjaa

namespace Go.Proofs.Ytejcjdhplpjpjaa
open Go Go.Vx
/-! ### MacTwo: the account -/
abbrev n32 (k : Nat → Int) : List Int := listF 32 k 0
noncomputable abbrev a2E (q : Nat) (k : Nat → Int) (d : Nat → List Int) (m : Nat) : Nat → Int := aQ q (atL (nwL (kk k))) d m
noncomputable abbrev twF (p : Nat → Bool) (d : Nat → List Int) (m : Nat) (k l : Nat → Int) : List Prop :=
  [rowY p d = rowY (pOf (rowY p d)) (dOf (rowY p d)), Fits .i64 (m : Int), ∀ i, i < m → factsC (rowY p d i), m ≤ 400, KB (kk k), KB (kk l), MK (kk k) [] (atL (nwL (kk k))), MK (kk l) [] (atL (nwL (kk l)))]
theorem two_run0 (p : Nat → Bool) (d : Nat → List Int) (m : Nat) (k l : Nat → Int) : runF gt 900 [.br false, .loop 10 twKeep 4 (.exit 0) (mkLoopN twG0), .br true, .br true] 3 [.agg (svF (List.replicate 32 .u8) k 0), .agg (svF (List.replicate 32 .u8) l 0), .ro 2 m (rowY p d)] [] [] =
    some (.sbool true, [], [Fits .i64 (m : Int), decide ((400 : Int) < (m : Int)) = false, LoopGood gt 109 (.loop twBody) twKeep 4 (.exit 0) (mkLoopN twG0)] ++ (twF p d m k l ++ [sp2 d m = m, decide (Tg (a2E 1 l d m) = Dg l (xQ 1 d m)) = true, (xQ 1 d m).length = (xQ 1 d m).length, (xQ 1 d m).length ≤ 140737488355328, 0 ≤ n43 (a2E 1 l d m) 42 ∧ n43 (a2E 1 l d m) 42 < 16,
      decide (Tg (a2E 0 k d m) = Dg k (xQ 0 d m)) = true, (xQ 0 d m).length = (xQ 0 d m).length, (xQ 0 d m).length ≤ 140737488355328, 0 ≤ n43 (a2E 0 k d m) 42 ∧ n43 (a2E 0 k d m) 42 < 16])) :=
  run_parts (by kernel_rfl) (by kernel_rfl) (by kernel_rfl)
theorem two_run1 (p : Nat → Bool) (d : Nat → List Int) (m : Nat) (k l : Nat → Int) : runF gt 900 [.br false, .loop 10 twKeep 4 .ret (mkLoopN twG1)] 3 [.agg (svF (List.replicate 32 .u8) k 0), .agg (svF (List.replicate 32 .u8) l 0), .ro 2 m (rowY p d)] [] [] =
    some (.bool true, [], [Fits .i64 (m : Int), decide ((400 : Int) < (m : Int)) = false, LoopGood gt 109 (.loop twBody) twKeep 4 .ret (mkLoopN twG1)] ++ (twF p d m k l ++ [sp2 d m < m, Fits .i64 ((d (sp2 d m)).length : Int)])) :=
  run_parts (by kernel_rfl) (by kernel_rfl) (by kernel_rfl)
theorem two_run2 (p : Nat → Bool) (d : Nat → List Int) (m : Nat) (k l : Nat → Int) : runF gt 900 [.br true] 3 [.agg (svF (List.replicate 32 .u8) k 0), .agg (svF (List.replicate 32 .u8) l 0), .ro 2 m (rowY p d)] [] [] =
    some (.bool true, [], [Fits .i64 (m : Int), decide ((400 : Int) < (m : Int)) = true]) :=
  run_parts (by kernel_rfl) (by kernel_rfl) (by kernel_rfl)
theorem KB_kk {k : Nat → Int} (h : KB k) : KB (kk k) := fun j hj => by rw [show kk k j = k j from atLF hj]; exact h j hj
theorem key_bytes {k : Nat → Int} (hf : factsC (.agg (svF (List.replicate 32 .u8) k 0))) : KB k := fun j hj => by
  have e : (List.replicate 32 IntKind.u8)[j]? = some .u8 := by rw [List.getElem?_replicate, if_pos hj]
  have f1 := facts_svF hf j .u8 e
  rw [Nat.zero_add] at f1
  exact ⟨f1.1, Int.lt_of_le_of_lt f1.2 (by decide)⟩
theorem tag_eq' {k : Nat → Int} {x : List Int} {a : Nat → Int} (hk : KB k) (h : MK k x a) : decide (Tg a = Dg k x) = true := by
  have := tag_eq hk h
  cases e : decide (Tg a = Dg k x) with
  | true => rfl
  | false => rw [e] at this; simp at this
theorem two_ok (k l : Nat → Int) (m : Nat) (a : Nat → Nat → Int) (d : Nat → Nat → List Int) (Fm : Fits .i64 (m : Int)) (hl : ∀ i j, Fits .i64 ((d i j).length : Int)) (hf : ∀ i, i < m → factsC (.agg (svY [.b, .s .u8] (a i) (d i) 0))) :
    FnOk gt 3 [.agg (svF (List.replicate 32 .u8) k 0), .agg (svF (List.replicate 32 .u8) l 0), .ro 2 m fun i => .agg (svY [.b, .s .u8] (a i) (d i) 0)] [] { val := .bool true } := by
  show FnOk gt 3 [.agg (svF (List.replicate 32 .u8) k 0), .agg (svF (List.replicate 32 .u8) l 0), .ro 2 m (rowY (fun i => decide (a i 0 = 1)) (fun i => d i 1))] [] { val := .bool true }
  have hf' : ∀ i, i < m → factsC (rowY (fun i => decide (a i 0 = 1)) (fun i => d i 1) i) := hf
  have hl' : ∀ i, Fits .i64 (((fun i => d i 1) i).length : Int) := fun i => hl i 1
  generalize (fun i => decide (a i 0 = 1)) = p at *
  generalize (fun i => d i 1) = e at *
  have hL0 := tw_loop0
  have hL1 := tw_loop1
  refine FnOk.facts fun ⟨f1, f2, _⟩ => ?_
  have k1 := key_bytes f1
  have k2 := key_bytes f2
  by_cases h4 : 400 < m
  · exact FnOk.pure gt_ok (two_run2 p e m k l) (by simp only [allC_cons, allC_nil, and_true]; exact ⟨Fm, decide_eq_true (by omega)⟩)
  · have hc : AllC (twF p e m k l) := by
      simp only [twF, allC_cons, allC_nil, and_true]
      exact ⟨rfl, Fm, hf', by omega, KB_kk k1, KB_kk k2, MK_new k1, MK_new k2⟩
    have h0 : decide ((400 : Int) < (m : Int)) = false := decide_eq_false (by omega)
    have hle := sp2_le e m
    by_cases hs : sp2 e m = m
    · refine FnOk.ofSb (b := true) (FnOk.pure gt_ok (two_run0 p e m k l) ?_) rfl
      refine allC_append.2 ⟨?_, allC_append.2 ⟨hc, ?_⟩⟩
      · simp only [allC_cons, allC_nil, and_true]; exact ⟨Fm, h0, hL0⟩
      · have hd := rowY_bytes (f := rowY p e) rfl hf'
        have A : MK k (xQ 0 e m) (a2E 0 k e m) := by
          have := MS_Q 0 (MK_new k1) hd m (Nat.le_refl _)
          rw [kk_kk] at this; exact this
        have B : MK l (xQ 1 e m) (a2E 1 l e m) := by
          have := MS_Q 1 (MK_new k2) hd m (Nat.le_refl _)
          rw [kk_kk] at this; exact this
        have hx := xQ_len (d := e) (m := m) m (by omega)
        simp only [allC_cons, allC_nil, and_true]
        exact ⟨hs, tag_eq' k2 B, trivial, by omega, MS_h (MS_43 B), tag_eq' k1 A, trivial, by omega, MS_h (MS_43 A)⟩
    · refine FnOk.pure gt_ok (two_run1 p e m k l) ?_
      refine allC_append.2 ⟨?_, allC_append.2 ⟨hc, ?_⟩⟩
      · simp only [allC_cons, allC_nil, and_true]; exact ⟨Fm, h0, hL1⟩
      · simp only [allC_cons, allC_nil, and_true]; exact ⟨by omega, hl' _⟩
end Go.Proofs.Ytejcjdhplpjpjaa

namespace Go.Proofs.Ytejcjdhplpjpjaa
open Go Go.Vx
/-! ### Of of one piece -/
noncomputable abbrev ofO1 (k : Nat → Int) (x : List Int) : Nat → Int := n43 (wrA (atL (nwL (kk k))) x)
theorem of1_run (k : Nat → Int) (x : List Int) : runF gn 900 [.br true, .fix 0, .br false] 16 [nilR, .agg (svF (List.replicate 32 .u8) k 0), .sl 0 1 0 1 0 1 true] [.cells [.roi .u8 x]] [] =
    some (.agg (svF (List.replicate 16 .u8) (tgN (ofO1 k x)) 0), [some (.cells [.roi .u8 x])], [true = true, 0 ≤ atL (nwL (kk k)) 42 ∧ atL (nwL (kk k)) 42 < 16, x.length ≤ 140737488355328, (0 : Int) = 0, false = false, 0 ≤ ofO1 k x 42 ∧ ofO1 k x 42 < 16]) :=
  run_parts (by kernel_rfl) (by kernel_rfl) (by kernel_rfl)
noncomputable def F16s : SumF := fun args B => match args, B with
  | [.raw (.pointer none), .agg ks, .sl 0 1 0 1 0 1 true], [.cells [.roi K x]] => match numsAs (List.replicate 32 .u8) ks, sameK K .u8 with
    | some lk, true => some { val := .agg (svF (List.replicate 16 .u8) (atL (DT (atL lk) x)) 0), C := [x.length ≤ 140737488355328, Bytes x] }
    | _, _ => none
  | _, _ => none
theorem acc16s : Acc gn 16 F16s := by
  intro args B out h hC
  unfold F16s at h
  split at h
  · rename_i ks K x
    split at h
    · rename_i lk hk hK
      obtain rfl := kidx_inj hK
      simp only [Option.some.injEq] at h; subst h
      simp only [allC_cons, allC_nil, and_true] at hC
      obtain ⟨hx, hb⟩ := hC
      refine FnOk.imp (args' := [nilR, .agg (svF (List.replicate 32 .u8) (atL lk) 0), .sl 0 1 0 1 0 1 true]) ?_ ⟨DenImp.refl _, nums_imp hk, DenImp.refl _, trivial⟩
      refine FnOk.facts fun ⟨_, f1, _⟩ => ?_
      have k1 := key_bytes f1
      have M0 := MS_new (KB_kk k1)
      have M := MS_43 (MS_write M0 hb)
      have hT := MS_tag M (hiB k1)
      refine FnOk.val (v := .agg (svF (List.replicate 16 .u8) (tgN (ofO1 (atL lk) x)) 0)) (C := []) (rd := []) ?_ (fun w0 O ρ u h => ?_)
      · exact FnOk.run (new := []) gn_ok (of1_run (atL lk) x) (by simp only [allC_cons, allC_nil, and_true]; exact ⟨trivial, MS_h M0, hx, trivial, trivial, MS_h M⟩) (by simp [upto]) rfl (by simp) (by simp) (fun j hj => by
          match j, hj with
          | 0, _ => rfl)
      · have e : svF (List.replicate 16 .u8) (atL (DT (atL lk) x)) 0 = svF (List.replicate 16 .u8) (tgN (ofO1 (atL lk) x)) 0 := svF_cg _ 0 fun j hj => by
          rw [List.length_replicate] at hj
          have hT2 : listF 16 (tgN (ofO1 (atL lk) x)) 0 = dTag (kT (kk (atL lk))) (atL (hiK (kk (atL lk)))) x := hT
          rw [Nat.zero_add, DT, ← hT2]
          exact atLF hj
        rw [e]; exact h
    · simp at h
  · simp at h
noncomputable abbrev gz : Ctx := gs.add [(16, oneOf F16 F16s)]
theorem gz_ok : CtxU gz := gs_ok.add mixed noGo (by
  intro x hx
  simp only [List.mem_cons, List.not_mem_nil, or_false] at hx
  rcases hx with rfl
  exact Acc.of (g := gn) rfl rfl (acc_one acc16 acc16s))
end Go.Proofs.Ytejcjdhplpjpjaa

namespace Go.Proofs.Ytejcjdhplpjpjaa
open Go Go.Vx
/-! ### Of with a Recorder -/
noncomputable abbrev gv : Ctx := gy.add [(12, oneOf F12 F12r)]
theorem gv_ok : CtxU gv := gy_ok.add mixed noGo (by
  intro x hx
  simp only [List.mem_cons, List.not_mem_nil, or_false] at hx
  rcases hx with rfl
  exact acc_one (Acc.of (g := gw) rfl rfl acc12) (Acc.of (g := gwr) rfl rfl acc12r))
noncomputable abbrev olO (d : Nat → List Int) (m : Nat) (i : Int) : List SV := [.ptr 0 0, .ro 1 m (rowL d), .ptr 1 0, .ptr 2 0, .int .i64 i]
noncomputable abbrev olB (w : List (List Int)) (z a : Nat → Int) : List Body := [.log w, .cells (svF (List.replicate 16 .u8) z 0), macV (.ptr 0 0) a]
noncomputable abbrev olS (d : Nat → List Int) (m i : Nat) : List (Nat × SV) := ofKeep.zip (olO d m (i : Int))
abbrev ol1 (w : List (List Int)) (m i : Nat) : List (List Int) := w ++ [[1, bI (decide ((i : Int) < (m : Int)))]]
theorem ol_go (d : Nat → List Int) (m i : Nat) (w : List (List Int)) (z a : Nat → Int) : runC gv 400 30 [.br true] ofBody (olS d m i) (olB w z a) ofKeep [0, 1, 2] =
    some (.normal, olO d m ((i : Int) + 1), (olB ((ol1 w m i ++ [[2, (i : Int)]]) ++ evW (n43 a 42) ((d i).length : Int)) z (wrA (n43 a) (d i))).map some,
      [w.length < 1099511627776, Fits .i64 (m : Int), decide ((i : Int) < (m : Int)) = true, 0 ≤ n43 a 42 ∧ n43 a 42 < 16, (d i).length ≤ 131072, (ol1 w m i ++ [[2, (i : Int)]]).length < 900000000, (0 : Int) ≤ (i : Int) ∧ (i : Int) < (m : Int), (ol1 w m i).length < 1099511627776, Fits .i64 ((i : Int) + 1)]) :=
  r3_parts4 (by kernel_rfl) (by kernel_rfl) (by kernel_rfl) (by kernel_rfl)
theorem ol_end (d : Nat → List Int) (m i : Nat) (w : List (List Int)) (z a : Nat → Int) : runC gv 400 30 [.br false] ofBody (olS d m i) (olB w z a) ofKeep [0, 1, 2] =
    some (.exit 0, olO d m (i : Int), (olB (ol1 w m i) z a).map some, [w.length < 1099511627776, Fits .i64 (m : Int), decide ((i : Int) < (m : Int)) = false]) :=
  r3_parts4 (by kernel_rfl) (by kernel_rfl) (by kernel_rfl) (by kernel_rfl)
/-- what is held behind so many pieces of these lengths, and what is logged -/
def ofH (d : Nat → List Int) : Nat → Int
  | 0 => 0
  | i + 1 => ewH (ofH d i) ((d i).length : Int)
def ofE (d : Nat → List Int) : Nat → List (List Int)
  | 0 => []
  | i + 1 => ((ofE d i ++ [[1, 1]]) ++ [[2, (i : Int)]]) ++ evW (ofH d i) ((d i).length : Int)
def ofT (d : Nat → List Int) (m : Nat) : List (List Int) := (ofE d m ++ [[1, 0]]) ++ evT (ofH d m)
theorem ofH_eq {T : Int} {mk : Nat → Int} {d : Nat → List Int} {m : Nat} {a : Nat → Int} (h0 : MS T mk [] a) (hd : YB d m) : ∀ i, i ≤ m → ofH d i = n43 (aZ a d i) 42
  | 0, _ => ((MS_43 h0).held).symm
  | i + 1, h => by
    have ih := ofH_eq h0 hd i (by omega)
    show ewH (ofH d i) ((d i).length : Int) = n43 (wrA (n43 (aZ a d i)) (d i)) 42
    rw [ih]
    exact held_next (MS_Z h0 hd i (by omega)) (hd i (by omega))
theorem ofE_len {T : Int} {mk : Nat → Int} {d : Nat → List Int} {m : Nat} {a : Nat → Int} (h0 : MS T mk [] a) (hd : YB d m) (hl : ∀ i, i < m → (d i).length ≤ 131072) : ∀ i, i ≤ m → (ofE d i).length ≤ 131090 * i
  | 0, _ => by simp [ofE]
  | i + 1, h => by
    have ih := ofE_len h0 hd hl i (by omega)
    have hi := hl i (by omega)
    have M := MS_h (MS_43 (MS_Z h0 hd i (by omega)))
    rw [← ofH_eq h0 hd i (by omega)] at M
    have := evW_len M (Int.natCast_nonneg (d i).length)
    rw [Int.toNat_natCast] at this
    simp only [ofE, List.length_append, List.length_cons, List.length_nil]
    omega
def headZ (l : List SV) : Bool := match l with
  | [.ptr 0 0] => true
  | _ => false
theorem head_z {l : List SV} (h : headZ l = true) : l = [.ptr 0 0] := by
  unfold headZ at h; split at h <;> first | rfl | simp at h
noncomputable abbrev olC (f : Nat → SV) (m : Nat) (w : List (List Int)) : List Prop := [f = rowL (lOf f), m ≤ 1000, ∀ i, i < m → (lOf f i).length ≤ 131072, ∀ i, i < m → factsC (f i), w.length ≤ 100000000]
noncomputable def olG : LoopF := fun vals B => match vals, B with
  | [.ptr 0 0, .ro 1 m f, .ptr 1 0, .ptr 2 0, .int .i64 0], [.log w, .cells zs, .cells ms] => match numsAs (List.replicate 16 .u8) zs, macAs ms, headZ (ms.take 1) with
    | some lz, some la, true => some ([(6, .ptr 1 0), (7, .ptr 2 0)], olB (w ++ (ofE (lOf f) m ++ [[1, 0]])) (atL lz) (aZ (atL la) (lOf f) m), olC f m w ++ [∃ T mk, MS T mk [] (atL la)])
    | _, _, _ => none
  | _, _ => none
theorem ol_loop : LoopGood gv 30 (.loop ofBody) ofKeep 3 (.exit 0) (mkLoopN olG) := by
  refine LoopGood.mkN (by decide) fun vals B S' B' C hG hC hlen w0 O hgl => ?_
  clear hlen
  unfold olG at hG
  split at hG
  · rename_i m f w zs ms
    split at hG
    · rename_i lz la hz ha hr
      have hr := head_z hr
      simp only [Option.some.injEq, Prod.mk.injEq] at hG
      obtain ⟨rfl, rfl, rfl⟩ := hG
      simp only [olC, allC_append, allC_cons, allC_nil, and_true] at hC
      obtain ⟨⟨hf, hm, hl, hff, hw⟩, T, mk, h0⟩ := hC
      have hd := rowL_bytes hf hff
      generalize lOf f = d at *
      rw [hf]
      clear hf hff
      have Fm : Fits .i64 (m : Int) := fits_of (by omega) (by omega)
      refine SimC.preI (B1 := olB w (atL lz) (atL la)) ?_ ⟨⟨BImp.refl _, fun _ h => by simp at h⟩, cells_nums hz, cells_mac ha hr rfl, trivial⟩
      have e0 : w = w ++ ofE d 0 := (List.append_nil w).symm
      rw [e0]
      show SimC _ _ _ _ _ (olS d m 0) (olB (w ++ ofE d 0) (atL lz) (aZ (atL la) d 0)) _ _ _ _
      rw [show w ++ ofE d 0 ++ (ofE d m ++ [[1, 0]]) = w ++ (ofE d m ++ [[1, 0]]) by rw [← e0]]
      refine SimC.iter (g := gv) (e := .exit 0) (S := fun i => olS d m i) (B := fun i => olB (w ++ ofE d i) (atL lz) (aZ (atL la) d i)) (N := m) (fun i hi => ?_) ?_ (by simp) 0 (by omega)
      · have hli := hl i hi
        have hE := ofE_len h0 hd hl i (by omega)
        have M := MS_h (MS_43 (MS_Z h0 hd i (by omega)))
        have hh := ofH_eq h0 hd i (by omega)
        have hr := ol_go d m i (w ++ ofE d i) (atL lz) (aZ (atL la) d i)
        have e1 : bI (decide ((i : Int) < (m : Int))) = 1 := bI_t (by omega)
        have e2 : (ol1 (w ++ ofE d i) m i ++ [[2, (i : Int)]]) ++ evW (n43 (aZ (atL la) d i) 42) ((d i).length : Int) = w ++ ofE d (i + 1) := by
          rw [ol1, e1, ← hh]
          simp only [ofE, List.append_assoc]
        rw [e2] at hr
        refine SimC.run (B' := olB (w ++ ofE d (i + 1)) (atL lz) (aZ (atL la) d (i + 1))) gv_ok (by decide) hr ?_ (by decide) idT (by decide) (by simp) hgl
        simp only [allC_cons, allC_nil, and_true, List.length_append, List.length_cons, List.length_nil]
        exact ⟨by omega, Fm, decide_eq_true (by omega), M, hli, by omega, ⟨by omega, by omega⟩, by omega, fits_of (by omega) (by omega)⟩
      · have hE := ofE_len h0 hd hl m (Nat.le_refl _)
        have hr := ol_end d m m (w ++ ofE d m) (atL lz) (aZ (atL la) d m)
        have e1 : ol1 (w ++ ofE d m) m m = w ++ (ofE d m ++ [[1, 0]]) := by
          rw [ol1, bI_f (by omega), List.append_assoc]
        rw [e1] at hr
        exact SimC.weaken (SimC.run (B' := olB (w ++ (ofE d m ++ [[1, 0]])) (atL lz) (aZ (atL la) d m)) gv_ok (by decide) hr (by simp only [allC_cons, allC_nil, and_true, List.length_append]; exact ⟨by omega, Fm, decide_eq_false (by omega)⟩) (by decide) idT (by decide) (by simp) hgl) (sub_mkT (by simp; exact ⟨rfl, rfl⟩))
    · simp at hG
  · simp at hG
theorem ol_run (k : Nat → Int) (d : Nat → List Int) (m : Nat) (w : List (List Int)) : runF gv 900 [.loop 3 ofKeep 3 (.exit 0) (mkLoopN olG)] 16 [.ptr 0 0, .agg (svF (List.replicate 32 .u8) k 0), .ro 1 m (rowL d)] [.log w] [] =
    some (.agg (svF (List.replicate 16 .u8) (tgN (ofN k d m)) 0), [some (.log ((w ++ (ofE d m ++ [[1, 0]])) ++ evT (ofN k d m 42)))], [LoopGood gv 30 (.loop ofBody) ofKeep 3 (.exit 0) (mkLoopN olG)] ++ (olC (rowL d) m w ++ [∃ T mk, MS T mk [] (atL (nwL (kk k))), 0 ≤ ofN k d m 42 ∧ ofN k d m 42 < 16, (w ++ (ofE d m ++ [[1, 0]])).length < 1000000000])) :=
  run_parts (by kernel_rfl) (by kernel_rfl) (by kernel_rfl)
noncomputable def F16l : SumF := fun args B => match args, B with
  | [.ptr 0 0, .agg ks, .ro 1 m f], [.log w] => match numsAs (List.replicate 32 .u8) ks with
    | some lk => some { val := .agg (svF (List.replicate 16 .u8) (atL (DT (atL lk) (xZ (lOf f) m))) 0), upd := [(0, some (.log (w ++ ofT (lOf f) m)))], C := olC f m w }
    | _ => none
  | _, _ => none
theorem acc16l : Acc gv 16 F16l := by
  intro args B out h hC
  unfold F16l at h
  split at h
  · rename_i ks m f w
    split at h
    · rename_i lk hk
      simp only [Option.some.injEq] at h; subst h
      have hC2 := hC
      simp only [olC, allC_append, allC_cons, allC_nil, and_true] at hC2
      obtain ⟨hf, hm, hl, hff, hw⟩ := hC2
      have hd := rowL_bytes hf hff
      rw [hf] at hff
      generalize lOf f = d at *
      have hc : AllC (olC (rowL d) m w) := by
        simp only [olC, allC_append, allC_cons, allC_nil, and_true]; exact ⟨rfl, hm, hl, hff, hw⟩
      have hL := ol_loop
      refine FnOk.imp (args' := [.ptr 0 0, .agg (svF (List.replicate 32 .u8) (atL lk) 0), .ro 1 m (rowL d)]) ?_ ⟨DenImp.refl _, nums_imp hk, by rw [hf]; exact DenImp.refl _, trivial⟩
      refine FnOk.facts fun ⟨_, f1, _⟩ => ?_
      have k1 := key_bytes f1
      have M0 := MS_new (KB_kk k1)
      have M := MS_43 (MS_Z M0 hd m (Nat.le_refl _))
      have hi : ∀ j, j < 16 → Byte (atL (hiK (kk (atL lk))) j) := hiB k1
      have hT := MS_tag M hi
      have hE := ofE_len M0 hd hl m (Nat.le_refl _)
      have hh : ofH d m = ofN (atL lk) d m 42 := ofH_eq M0 hd m (Nat.le_refl _)
      have hr := ol_run (atL lk) d m w
      have e3 : (w ++ (ofE d m ++ [[1, 0]])) ++ evT (ofN (atL lk) d m 42) = w ++ ofT d m := by
        rw [ofT, hh, List.append_assoc]
      rw [e3] at hr
      refine FnOk.val (v := .agg (svF (List.replicate 16 .u8) (tgN (ofN (atL lk) d m)) 0)) (C := []) (rd := []) (FnOk.run (out := { val := .agg (svF (List.replicate 16 .u8) (tgN (ofN (atL lk) d m)) 0), upd := [(0, some (.log (w ++ ofT d m)))] }) (new := []) gv_ok hr ?_ (by simp [upto]) rfl (by simp) (by simp) (fun j hj => by
          match j, hj with
          | 0, _ => rfl)) (fun w0 O ρ u h => ?_)
      · refine allC_append.2 ⟨?_, allC_append.2 ⟨hc, ?_⟩⟩
        · simp only [allC_cons, allC_nil, and_true]; exact hL
        · simp only [allC_cons, allC_nil, and_true, List.length_append, List.length_cons, List.length_nil]; exact ⟨⟨_, _, M0⟩, MS_h M, by omega⟩
      · have e : svF (List.replicate 16 .u8) (atL (DT (atL lk) (xZ d m))) 0 = svF (List.replicate 16 .u8) (tgN (ofN (atL lk) d m)) 0 := svF_cg _ 0 fun j hj => by
          rw [List.length_replicate] at hj
          rw [Nat.zero_add, DT, ← hT]
          exact atLF hj
        rw [e]; exact h
    · simp at h
  · simp at h
end Go.Proofs.Ytejcjdhplpjpjaa

namespace Go.Proofs.Ytejcjdhplpjpjaa
open Go Go.Vx
/-! ### MacRight -/
def CK (k t : Nat → Int) (x : List Int) : Bool := decide ((if listF 16 (atL (DT (kk k) x)) 0 = listF 16 t 0 then (1 : Int) else 0) = 1)
noncomputable def F18c : SumF := fun args B => match args, B with
  | [.raw (.pointer none), .agg ks, .agg ts, .ro 1 m f], [] => match numsAs (List.replicate 32 .u8) ks, numsAs (List.replicate 16 .u8) ts with
    | some lk, some lt => some { val := .sbool (CK (atL lk) (atL lt) (xZ (lOf f) m)), C := oC f m }
    | _, _ => none
  | _, _ => none
theorem acc18c : Acc gs 18 F18c := by
  intro args B out h hC
  unfold F18c at h
  split at h
  · rename_i ks ts m f
    split at h
    · rename_i lk lt hk ht
      simp only [Option.some.injEq] at h; subst h
      have hC2 := hC
      simp only [oC, lC, allC_append, allC_cons, allC_nil, and_true] at hC2
      obtain ⟨⟨hf, Fm, hl⟩, hff⟩ := hC2
      rw [hf] at hff
      generalize lOf f = d at *
      have hc : AllC (oC (rowL d) m) := by
        simp only [oC, lC, allC_append, allC_cons, allC_nil, and_true]; exact ⟨⟨rfl, Fm, hl⟩, hff⟩
      refine FnOk.imp (args' := [nilR, .agg (svF (List.replicate 32 .u8) (atL lk) 0), .agg (svF (List.replicate 16 .u8) (atL lt) 0), .ro 1 m (rowL d)]) ?_ ⟨DenImp.refl _, nums_imp hk, nums_imp ht, by rw [hf]; exact DenImp.refl _, trivial⟩
      exact FnOk.val (C := oC (rowL d) m) (rd := []) (FnOk.pure gs_ok (check_run (atL lk) (atL lt) d m) hc) (fun _ _ _ _ h => h)
    · simp at h
  · simp at h
noncomputable abbrev gu : Ctx := gs.add [(18, F18c)]
theorem gu_ok : CtxU gu := gs_ok.add mixed noGo (by
  intro x hx
  simp only [List.mem_cons, List.not_mem_nil, or_false] at hx
  rcases hx with rfl
  exact acc18c)
end Go.Proofs.Ytejcjdhplpjpjaa

namespace Go.Proofs.Ytejcjdhplpjpjaa
open Go Go.Vx
/-! ### Check with a Recorder -/
noncomputable abbrev gv1 : Ctx := gv.add [(16, oneOf (oneOf F16 F16s) F16l), (17, F17), (47, eqArrF 16)]
theorem gv1_ok : CtxU gv1 := gv_ok.add mixed noGo (by
  intro x hx
  simp only [List.mem_cons, List.not_mem_nil, or_false] at hx
  rcases hx with rfl | rfl | rfl
  · exact acc_one (Acc.of (g := gn) rfl rfl (acc_one acc16 acc16s)) acc16l
  · exact Acc.of (g := gn) rfl rfl acc17
  · exact Acc.of (g := g0) rfl rfl acc47)
theorem chl_run (k t : Nat → Int) (d : Nat → List Int) (m : Nat) (w : List (List Int)) : runF gv1 900 [] 18 [.ptr 0 0, .agg (svF (List.replicate 32 .u8) k 0), .agg (svF (List.replicate 16 .u8) t 0), .ro 1 m (rowL d)] [.log w] [] =
    some (.sbool (CK k t (xZ d m)), [some (.log ((w ++ ofT d m) ++ [[1, bI (CK k t (xZ d m))]]))], [(w ++ ofT d m).length < 1099511627776] ++ olC (rowL d) m w) :=
  run_parts (by kernel_rfl) (by kernel_rfl) (by kernel_rfl)
noncomputable def F18l : SumF := fun args B => match args, B with
  | [.ptr 0 0, .agg ks, .agg ts, .ro 1 m f], [.log w] => match numsAs (List.replicate 32 .u8) ks, numsAs (List.replicate 16 .u8) ts with
    | some lk, some lt => some { val := .sbool (CK (atL lk) (atL lt) (xZ (lOf f) m)), upd := [(0, some (.log ((w ++ ofT (lOf f) m) ++ [[1, bI (CK (atL lk) (atL lt) (xZ (lOf f) m))]])))], C := ((w ++ ofT (lOf f) m).length < 1099511627776) :: olC f m w }
    | _, _ => none
  | _, _ => none
theorem acc18l : Acc gv1 18 F18l := by
  intro args B out h hC
  unfold F18l at h
  split at h
  · rename_i ks ts m f w
    split at h
    · rename_i lk lt hk ht
      simp only [Option.some.injEq] at h; subst h
      have hC2 := hC
      simp only [olC, allC_append, allC_cons, allC_nil, and_true] at hC2
      obtain ⟨hlen, hf, hm, hl, hff, hw⟩ := hC2
      rw [hf] at hff
      generalize lOf f = d at *
      have hc : AllC (olC (rowL d) m w) := by
        simp only [olC, allC_append, allC_cons, allC_nil, and_true]; exact ⟨rfl, hm, hl, hff, hw⟩
      refine FnOk.imp (args' := [.ptr 0 0, .agg (svF (List.replicate 32 .u8) (atL lk) 0), .agg (svF (List.replicate 16 .u8) (atL lt) 0), .ro 1 m (rowL d)]) ?_ ⟨DenImp.refl _, nums_imp hk, nums_imp ht, by rw [hf]; exact DenImp.refl _, trivial⟩
      exact FnOk.val (C := []) (rd := []) (FnOk.run (out := { val := .sbool (CK (atL lk) (atL lt) (xZ d m)), upd := [(0, some (.log ((w ++ ofT d m) ++ [[1, bI (CK (atL lk) (atL lt) (xZ d m))]])))] }) (new := []) gv1_ok (chl_run (atL lk) (atL lt) d m w) (allC_append.2 ⟨by simp only [allC_cons, allC_nil, and_true]; exact hlen, hc⟩) (by simp [upto]) rfl (by simp) (by simp) (fun j hj => by
          match j, hj with
          | 0, _ => rfl)) (fun _ _ _ _ h => h)
    · simp at h
  · simp at h
noncomputable abbrev gV : Ctx := gv1.add [(18, oneOf F18c F18l)]
theorem gV_ok : CtxU gV := gv1_ok.add mixed noGo (by
  intro x hx
  simp only [List.mem_cons, List.not_mem_nil, or_false] at hx
  rcases hx with rfl
  exact acc_one (Acc.of (g := gs) rfl rfl acc18c) acc18l)
end Go.Proofs.Ytejcjdhplpjpjaa

namespace Go.Proofs.Ytejcjdhplpjpjaa
open Go Go.Vx
/-! ### two lists of events: are they one? -/
abbrev rwP (l : List (List Int)) (i : Nat) : List Int := [(l.getD i []).getD 0 0, (l.getD i []).getD 1 0]
def fdD (la lb : List (List Int)) : Nat := firstI (fun i => !decide (rwP la i = rwP lb i)) la.length
abbrev sqKeep : List Nat := [0, 1, 12, 13]
noncomputable abbrev sqBody : Code := bodyAt Try.prog 53 4
abbrev sqO (n i : Int) : List SV := [.own 0, .own 1, .int .i64 n, .int .i64 i]
abbrev sqS (n i : Nat) : List (Nat × SV) := sqKeep.zip (sqO (n : Int) (i : Int))
abbrev sqB (la lb : List (List Int)) : List Body := [.rows [.i64, .i64] la, .rows [.i64, .i64] lb]
abbrev sqC (n i : Nat) (la lb : List (List Int)) (b : Bool) : List Prop := [decide ((i : Int) < (n : Int)) = true, i < lb.length, i < lb.length, (0 : Int) ≤ (i : Int) ∧ (i : Int) < (lb.length : Int), i < la.length, i < la.length, (0 : Int) ≤ (i : Int) ∧ (i : Int) < (la.length : Int), (!decide (rwP la i = rwP lb i)) = b]
theorem sq_go (n i : Nat) (la lb : List (List Int)) : runC gn 200 26 [.br true, .br false] sqBody (sqS n i) (sqB la lb) sqKeep [0, 1] =
    some (.normal, sqO (n : Int) ((i : Int) + 1), (sqB la lb).map some, sqC n i la lb false ++ [Fits .i64 ((i : Int) + 1)]) :=
  r3_parts4 (by kernel_rfl) (by kernel_rfl) (by kernel_rfl) (by kernel_rfl)
theorem sq_ne (n i : Nat) (la lb : List (List Int)) : runC gn 200 26 [.br true, .br true] sqBody (sqS n i) (sqB la lb) [4] [0, 1] =
    some (.ret, [.bool false], (sqB la lb).map some, sqC n i la lb true) :=
  r3_parts4 (by kernel_rfl) (by kernel_rfl) (by kernel_rfl) (by kernel_rfl)
theorem sq_end (n i : Nat) (la lb : List (List Int)) : runC gn 200 26 [.br false] sqBody (sqS n i) (sqB la lb) sqKeep [0, 1] =
    some (.exit 0, sqO (n : Int) (i : Int), (sqB la lb).map some, [decide ((i : Int) < (n : Int)) = false]) :=
  r3_parts4 (by kernel_rfl) (by kernel_rfl) (by kernel_rfl) (by kernel_rfl)
abbrev sqL (la lb : List (List Int)) (n i : Int) : List Prop := [la.length = lb.length, n = (la.length : Int), i = 0, la.length ≤ 140737488355328]
def sqG0 : LoopF := fun vals B => match vals, B with
  | [.own 0, .own 1, .int .i64 n, .int .i64 i], [.rows K la, .rows K2 lb] => match sameKs K [.i64, .i64], sameKs K2 [.i64, .i64] with
    | true, true => some ([], sqB la lb, sqL la lb n i ++ [fdD la lb = la.length])
    | _, _ => none
  | _, _ => none
def sqG1 : LoopF := fun vals B => match vals, B with
  | [.own 0, .own 1, .int .i64 n, .int .i64 i], [.rows K la, .rows K2 lb] => match sameKs K [.i64, .i64], sameKs K2 [.i64, .i64] with
    | true, true => some ([(4, .bool false)], sqB la lb, sqL la lb n i ++ [fdD la lb < la.length])
    | _, _ => none
  | _, _ => none
theorem sqC_ok {la lb : List (List Int)} {i : Nat} {b : Bool} (he : la.length = lb.length) (hi : i < la.length) (hb : (!decide (rwP la i = rwP lb i)) = b) : AllC (sqC la.length i la lb b) := by
  simp only [sqC, allC_cons, allC_nil, and_true]
  exact ⟨decide_eq_true (by omega), by omega, by omega, ⟨by omega, by omega⟩, hi, hi, ⟨by omega, by omega⟩, hb⟩
theorem sq_round {w0 : World} {O : Go.Vx.Own} (hgl : GlobOk gn w0 O) (la lb : List (List Int)) (he : la.length = lb.length) (hl : la.length ≤ 140737488355328) (i : Nat) (hi : i < fdD la lb) :
    SimC gn.P w0 O 26 sqBody (sqS la.length i) (sqB la lb) .normal (sqS la.length (i + 1)) (sqB la lb) 2 := by
  have hs := (firstI_spec (fun i => !decide (rwP la i = rwP lb i)) la.length).2.1 i hi
  have hle := (firstI_spec (fun i => !decide (rwP la i = rwP lb i)) la.length).1
  have hi2 : i < la.length := Nat.lt_of_lt_of_le hi hle
  refine SimC.run (B' := sqB la lb) gn_ok (by decide) (sq_go la.length i la lb) (allC_append.2 ⟨sqC_ok he hi2 hs, ?_⟩) (by decide) idB (by decide) (by simp) hgl
  simp only [allC_cons, allC_nil, and_true]
  exact fits_of (by omega) (by omega)
theorem sq_loop0 : LoopGood gn 26 (.loop sqBody) sqKeep 2 (.exit 0) (mkLoopN sqG0) := by
  refine LoopGood.mkN (by decide) fun vals B S' B' C hG hC hlen w0 O hgl => ?_
  clear hlen
  unfold sqG0 at hG
  split at hG
  · rename_i n i K la K2 lb
    split at hG
    · rename_i hK hK2
      obtain rfl := sameKs_eq hK
      obtain rfl := sameKs_eq hK2
      simp only [Option.some.injEq, Prod.mk.injEq] at hG
      obtain ⟨rfl, rfl, rfl⟩ := hG
      simp only [sqL, allC_append, allC_cons, allC_nil, and_true] at hC
      obtain ⟨⟨he, rfl, rfl, hl⟩, hN⟩ := hC
      refine SimC.iter (g := gn) (e := .exit 0) (S := fun i => sqS la.length i) (B := fun _ => sqB la lb) (N := la.length) (fun i hi => sq_round hgl la lb he hl i (by omega)) ?_ (by simp) 0 (by omega)
      exact SimC.weaken (SimC.run (B' := sqB la lb) gn_ok (by decide) (sq_end la.length la.length la lb) (by simp only [allC_cons, allC_nil, and_true]; exact decide_eq_false (by omega)) (by decide) idB (by decide) (by simp) hgl) (fun t => .inr (by simp [mkT, tget, Tr.get_lf]))
    · simp at hG
  · simp at hG
theorem sq_loop1 : LoopGood gn 26 (.loop sqBody) sqKeep 2 .ret (mkLoopN sqG1) := by
  refine LoopGood.mkN (by decide) fun vals B S' B' C hG hC hlen w0 O hgl => ?_
  clear hlen
  unfold sqG1 at hG
  split at hG
  · rename_i n i K la K2 lb
    split at hG
    · rename_i hK hK2
      obtain rfl := sameKs_eq hK
      obtain rfl := sameKs_eq hK2
      simp only [Option.some.injEq, Prod.mk.injEq] at hG
      obtain ⟨rfl, rfl, rfl⟩ := hG
      simp only [sqL, allC_append, allC_cons, allC_nil, and_true] at hC
      obtain ⟨⟨he, rfl, rfl, hl⟩, hN⟩ := hC
      have hat := (firstI_spec (fun i => !decide (rwP la i = rwP lb i)) la.length).2.2 hN
      refine SimC.iter (g := gn) (e := .ret) (S := fun i => sqS la.length i) (B := fun _ => sqB la lb) (N := fdD la lb) (fun i hi => sq_round hgl la lb he hl i hi) ?_ (by simp) 0 (by omega)
      exact SimC.weaken (SimC.run (B' := sqB la lb) gn_ok (by decide) (sq_ne la.length (fdD la lb) la lb) (sqC_ok he hN hat) (by decide) idB (by decide) (by simp) hgl) (sub_mkT (by simp; exact rfl))
    · simp at hG
  · simp at hG
abbrev sqF (la lb : List (List Int)) (b : Bool) : List Prop := [Fits .i64 (lb.length : Int), Fits .i64 (la.length : Int), (!decide ((la.length : Int) = (lb.length : Int))) = b]
theorem sq_run2 (la lb : List (List Int)) : runF gn 200 [.br true] 53 [.own 0, .own 1] (sqB la lb) [] = some (.bool false, (sqB la lb).map some, sqF la lb true) := run_parts (by kernel_rfl) (by kernel_rfl) (by kernel_rfl)
theorem sq_run0 (la lb : List (List Int)) : runF gn 200 [.br false, .loop 4 sqKeep 2 (.exit 0) (mkLoopN sqG0)] 53 [.own 0, .own 1] (sqB la lb) [] =
    some (.bool true, (sqB la lb).map some, [Fits .i64 (lb.length : Int), Fits .i64 (la.length : Int), (!decide ((la.length : Int) = (lb.length : Int))) = false, Fits .i64 (la.length : Int), LoopGood gn 26 (.loop sqBody) sqKeep 2 (.exit 0) (mkLoopN sqG0), la.length = lb.length, (la.length : Int) = (la.length : Int), (0 : Int) = 0, la.length ≤ 140737488355328, fdD la lb = la.length]) := run_parts (by kernel_rfl) (by kernel_rfl) (by kernel_rfl)
theorem sq_run1 (la lb : List (List Int)) : runF gn 200 [.br false, .loop 4 sqKeep 2 .ret (mkLoopN sqG1)] 53 [.own 0, .own 1] (sqB la lb) [] =
    some (.bool false, (sqB la lb).map some, [Fits .i64 (lb.length : Int), Fits .i64 (la.length : Int), (!decide ((la.length : Int) = (lb.length : Int))) = false, Fits .i64 (la.length : Int), LoopGood gn 26 (.loop sqBody) sqKeep 2 .ret (mkLoopN sqG1), la.length = lb.length, (la.length : Int) = (la.length : Int), (0 : Int) = 0, la.length ≤ 140737488355328, fdD la lb < la.length]) := run_parts (by kernel_rfl) (by kernel_rfl) (by kernel_rfl)
theorem rows_ext {la lb : List (List Int)} (h : la.length = lb.length) (ha : ∀ r ∈ la, r.length = 2) (hb : ∀ r ∈ lb, r.length = 2) (he : ∀ i, i < la.length → rwP la i = rwP lb i) : la = lb := by
  refine List.ext_getElem h fun i h1 h2 => ?_
  have e := he i h1
  have ga : la.getD i [] = la[i] := by rw [List.getD_eq_getElem?_getD, List.getElem?_eq_getElem h1]; rfl
  have gb : lb.getD i [] = lb[i] := by rw [List.getD_eq_getElem?_getD, List.getElem?_eq_getElem h2]; rfl
  rw [rwP, rwP, ga, gb] at e
  have la2 := ha _ (List.getElem_mem h1)
  have lb2 := hb _ (List.getElem_mem h2)
  generalize la[i] = x at e la2
  generalize lb[i] = y at e lb2
  match x, y, la2, lb2 with
  | [a, b], [c, d], _, _ => simpa using e
def F53 : SumF := fun args B => match args, B with
  | [.own 0, .own 1], [.rows K la, .rows K2 lb] => match sameKs K [.i64, .i64], sameKs K2 [.i64, .i64] with
    | true, true => some { val := .sbool (decide (la = lb)), C := [la.length ≤ 140737488355328, lb.length ≤ 140737488355328] }
    | _, _ => none
  | _, _ => none
theorem sqB_at (la lb : List (List Int)) {v : SV} (j : Nat) (hj : j < (sqB la lb).length + ([] : List Body).length) : (((sqB la lb).map some)[j]?).getD none = afterH (sqB la lb) { val := v } j := by
  match j, hj with
  | 0, _ => rfl
  | 1, _ => rfl
theorem acc53 : Acc gn 53 F53 := by
  intro args B out h hC
  unfold F53 at h
  split at h
  · rename_i K la K2 lb
    split at h
    · rename_i hK hK2
      obtain rfl := sameKs_eq hK
      obtain rfl := sameKs_eq hK2
      simp only [Option.some.injEq] at h; subst h
      simp only [allC_cons, allC_nil, and_true] at hC
      obtain ⟨h1, h2⟩ := hC
      refine FnOk.factsB fun hf => ?_
      have ra : ∀ r ∈ la, r.length = 2 := fun r hr => (hf (.rows [.i64, .i64] la) (by simp) r hr).1
      have rb : ∀ r ∈ lb, r.length = 2 := fun r hr => (hf (.rows [.i64, .i64] lb) (by simp) r hr).1
      have Fa : Fits .i64 (la.length : Int) := Go.Vx.fits_small h1
      have Fb : Fits .i64 (lb.length : Int) := Go.Vx.fits_small h2
      have g0 := sq_loop0
      have g1 := sq_loop1
      by_cases he : la.length = lb.length
      · obtain ⟨f1, f2, f3⟩ := firstI_spec (fun i => !decide (rwP la i = rwP lb i)) la.length
        by_cases hd : fdD la lb = la.length
        · have e : la = lb := rows_ext he ra rb fun i hi => by
            have := f2 i (by show i < fdD la lb; omega)
            simpa using this
          refine FnOk.toSb (b := true) ?_ (decide_eq_true e).symm
          exact FnOk.run (out := { val := .bool true }) (new := []) gn_ok (sq_run0 la lb) (by simp only [allC_cons, allC_nil, and_true]; exact ⟨Fb, Fa, by rw [decide_eq_true (by omega)]; rfl, Fa, g0, he, trivial, trivial, h1, hd⟩) (by simp [upto]) rfl (by simp) (by simp) (sqB_at la lb)
        · have hlt : fdD la lb < la.length := by have : fdD la lb ≤ la.length := f1; omega
          have e : ¬ la = lb := fun e => by
            have := f3 hlt
            rw [e] at this
            simp at this
          refine FnOk.toSb (b := false) ?_ (decide_eq_false e).symm
          exact FnOk.run (out := { val := .bool false }) (new := []) gn_ok (sq_run1 la lb) (by simp only [allC_cons, allC_nil, and_true]; exact ⟨Fb, Fa, by rw [decide_eq_true (by omega)]; rfl, Fa, g1, he, trivial, trivial, h1, hlt⟩) (by simp [upto]) rfl (by simp) (by simp) (sqB_at la lb)
      · have e : ¬ la = lb := fun e => he (by rw [e])
        refine FnOk.toSb (b := false) ?_ (decide_eq_false e).symm
        exact FnOk.run (out := { val := .bool false }) (new := []) gn_ok (sq_run2 la lb) (by simp only [allC_cons, allC_nil, and_true]; exact ⟨Fb, Fa, by rw [decide_eq_false (by omega)]; rfl⟩) (by simp [upto]) rfl (by simp) (by simp) (sqB_at la lb)
    · simp at h
  · simp at h
noncomputable abbrev gsq : Ctx := gn.add [(53, F53)]
theorem gsq_ok : CtxU gsq := gn_ok.add mixed noGo (by
  intro x hx
  simp only [List.mem_cons, List.not_mem_nil, or_false] at hx
  rcases hx with rfl
  exact acc53)
abbrev tsB (n m : Int) (la lb : List (List Int)) : List Body := [.cells [.int .i64 n, .own 2], .cells [.int .i64 m, .own 3], .rows [.i64, .i64] la, .rows [.i64, .i64] lb]
theorem ts_run (n m : Int) (la lb : List (List Int)) : runF gsq 200 [] 33 [.ptr 0 0, .ptr 1 0] (tsB n m la lb) [] =
    some (.sbool (decide (la = lb)), (tsB n m la lb).map some, [la.length ≤ 140737488355328, lb.length ≤ 140737488355328]) :=
  run_parts (by kernel_rfl) (by kernel_rfl) (by kernel_rfl)
def F33 : SumF := fun args B => match args, B with
  | [.ptr 0 0, .ptr 1 0], [.log a, .log b] => some { val := .sbool (decide (a = b)), C := [a.length ≤ 140737488355328, b.length ≤ 140737488355328] }
  | _, _ => none
theorem acc33 : Acc gsq 33 F33 := by
  intro args B out h hC
  unfold F33 at h
  split at h
  · rename_i a b
    simp only [Option.some.injEq] at h; subst h
    refine FnOk.unlogAt (k := 0) (l := a) (new := []) rfl (FnOk.unlogAt (k := 1) (l := b) (new := []) rfl (v := .sbool (decide (a = b))) ?_ rfl (by simp [mapB, mapL, mapC, idx, idxF, skipIds, upto]) (by simp)) (by simp [mapC]) (by simp [mapB]) (by simp)
    refine FnOk.run (out := { val := .sbool (decide (a = b)) }) (new := []) gsq_ok (ts_run _ _ _ _) hC (by simp [upto]) rfl (by simp) (by simp) fun j hj => ?_
    match j, hj with
    | 0, _ => rfl
    | 1, _ => rfl
    | 2, _ => rfl
    | 3, _ => rfl
  · simp at h
end Go.Proofs.Ytejcjdhplpjpjaa
