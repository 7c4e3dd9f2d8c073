/- Accounts of this seat's functions: lemmas, no statement of their own. No conditions. -/
import Derived.Test.YtejcjdhplpjpjaaTUa
import Derived.Test.YtejcjdhplpjpjaaTUf
namespace Go.Proofs.Ytejcjdhplpjpjaa
open Go Go.Vx
/-! ### Of with a Recorder -/
noncomputable abbrev gv : Ctx := gy.add [(12, oneOf F12 F12r)]
theorem gv_ok : CtxU gv := gy_ok.add mixed noGo (by
  intro x hx
  simp only [List.mem_cons, List.not_mem_nil, or_false] at hx
  rcases hx with rfl
  exact acc_one (Acc.of (g := gw) rfl rfl acc12) (Acc.of (g := gwr) rfl rfl acc12r))
noncomputable abbrev olO (d : Nat → List Int) (m : Nat) (i : Int) : List SV := [.ptr 0 0, .ro 1 m (rowL d), .ptr 1 0, .ptr 2 0, .int .i64 i]
noncomputable abbrev olB (w : List (List Int)) (z a : Nat → Int) : List Body := [.log w, .cells (svF (List.replicate 16 .u8) z 0), macV (.ptr 0 0) a]
noncomputable abbrev olS (d : Nat → List Int) (m i : Nat) : List (Nat × SV) := ofKeep.zip (olO d m (i : Int))
abbrev ol1 (w : List (List Int)) (m i : Nat) : List (List Int) := w ++ [[1, bI (decide ((i : Int) < (m : Int)))]]
theorem ol_go (d : Nat → List Int) (m i : Nat) (w : List (List Int)) (z a : Nat → Int) : runC gv 400 30 [.br true] ofBody (olS d m i) (olB w z a) ofKeep [0, 1, 2] =
    some (.normal, olO d m ((i : Int) + 1), (olB ((ol1 w m i ++ [[2, (i : Int)]]) ++ evW (n43 a 42) ((d i).length : Int)) z (wrA (n43 a) (d i))).map some,
      [w.length < 1099511627776, Fits .i64 (m : Int), decide ((i : Int) < (m : Int)) = true, 0 ≤ n43 a 42 ∧ n43 a 42 < 16, (d i).length ≤ 131072, (ol1 w m i ++ [[2, (i : Int)]]).length < 900000000, (0 : Int) ≤ (i : Int) ∧ (i : Int) < (m : Int), (ol1 w m i).length < 1099511627776, Fits .i64 ((i : Int) + 1)]) :=
  r3_parts4 (by kernel_rfl) (by kernel_rfl) (by kernel_rfl) (by kernel_rfl)
theorem ol_end (d : Nat → List Int) (m i : Nat) (w : List (List Int)) (z a : Nat → Int) : runC gv 400 30 [.br false] ofBody (olS d m i) (olB w z a) ofKeep [0, 1, 2] =
    some (.exit 0, olO d m (i : Int), (olB (ol1 w m i) z a).map some, [w.length < 1099511627776, Fits .i64 (m : Int), decide ((i : Int) < (m : Int)) = false]) :=
  r3_parts4 (by kernel_rfl) (by kernel_rfl) (by kernel_rfl) (by kernel_rfl)
/-- what is held behind so many pieces of these lengths, and what is logged -/
def ofH (d : Nat → List Int) : Nat → Int
  | 0 => 0
  | i + 1 => ewH (ofH d i) ((d i).length : Int)
def ofE (d : Nat → List Int) : Nat → List (List Int)
  | 0 => []
  | i + 1 => ((ofE d i ++ [[1, 1]]) ++ [[2, (i : Int)]]) ++ evW (ofH d i) ((d i).length : Int)
def ofT (d : Nat → List Int) (m : Nat) : List (List Int) := (ofE d m ++ [[1, 0]]) ++ evT (ofH d m)
theorem ofH_eq {T : Int} {mk : Nat → Int} {d : Nat → List Int} {m : Nat} {a : Nat → Int} (h0 : MS T mk [] a) (hd : YB d m) : ∀ i, i ≤ m → ofH d i = n43 (aZ a d i) 42
  | 0, _ => ((MS_43 h0).held).symm
  | i + 1, h => by
    have ih := ofH_eq h0 hd i (by omega)
    show ewH (ofH d i) ((d i).length : Int) = n43 (wrA (n43 (aZ a d i)) (d i)) 42
    rw [ih]
    exact held_next (MS_Z h0 hd i (by omega)) (hd i (by omega))
theorem ofE_len {T : Int} {mk : Nat → Int} {d : Nat → List Int} {m : Nat} {a : Nat → Int} (h0 : MS T mk [] a) (hd : YB d m) (hl : ∀ i, i < m → (d i).length ≤ 131072) : ∀ i, i ≤ m → (ofE d i).length ≤ 131090 * i
  | 0, _ => by simp [ofE]
  | i + 1, h => by
    have ih := ofE_len h0 hd hl i (by omega)
    have hi := hl i (by omega)
    have M := MS_h (MS_43 (MS_Z h0 hd i (by omega)))
    rw [← ofH_eq h0 hd i (by omega)] at M
    have := evW_len M (Int.natCast_nonneg (d i).length)
    rw [Int.toNat_natCast] at this
    simp only [ofE, List.length_append, List.length_cons, List.length_nil]
    omega
def headZ (l : List SV) : Bool := match l with
  | [.ptr 0 0] => true
  | _ => false
theorem head_z {l : List SV} (h : headZ l = true) : l = [.ptr 0 0] := by
  unfold headZ at h; split at h <;> first | rfl | simp at h
noncomputable abbrev olC (f : Nat → SV) (m : Nat) (w : List (List Int)) : List Prop := [f = rowL (lOf f), m ≤ 1000, ∀ i, i < m → (lOf f i).length ≤ 131072, ∀ i, i < m → factsC (f i), w.length ≤ 100000000]
noncomputable def olG : LoopF := fun vals B => match vals, B with
  | [.ptr 0 0, .ro 1 m f, .ptr 1 0, .ptr 2 0, .int .i64 0], [.log w, .cells zs, .cells ms] => match numsAs (List.replicate 16 .u8) zs, macAs ms, headZ (ms.take 1) with
    | some lz, some la, true => some ([(6, .ptr 1 0), (7, .ptr 2 0)], olB (w ++ (ofE (lOf f) m ++ [[1, 0]])) (atL lz) (aZ (atL la) (lOf f) m), olC f m w ++ [∃ T mk, MS T mk [] (atL la)])
    | _, _, _ => none
  | _, _ => none
theorem ol_loop : LoopGood gv 30 (.loop ofBody) ofKeep 3 (.exit 0) (mkLoopN olG) := by
  refine LoopGood.mkN (by decide) fun vals B S' B' C hG hC hlen w0 O hgl => ?_
  clear hlen
  unfold olG at hG
  split at hG
  · rename_i m f w zs ms
    split at hG
    · rename_i lz la hz ha hr
      have hr := head_z hr
      simp only [Option.some.injEq, Prod.mk.injEq] at hG
      obtain ⟨rfl, rfl, rfl⟩ := hG
      simp only [olC, allC_append, allC_cons, allC_nil, and_true] at hC
      obtain ⟨⟨hf, hm, hl, hff, hw⟩, T, mk, h0⟩ := hC
      have hd := rowL_bytes hf hff
      generalize lOf f = d at *
      rw [hf]
      clear hf hff
      have Fm : Fits .i64 (m : Int) := fits_of (by omega) (by omega)
      refine SimC.preI (B1 := olB w (atL lz) (atL la)) ?_ ⟨⟨BImp.refl _, fun _ h => by simp at h⟩, cells_nums hz, cells_mac ha hr rfl, trivial⟩
      have e0 : w = w ++ ofE d 0 := (List.append_nil w).symm
      rw [e0]
      show SimC _ _ _ _ _ (olS d m 0) (olB (w ++ ofE d 0) (atL lz) (aZ (atL la) d 0)) _ _ _ _
      rw [show w ++ ofE d 0 ++ (ofE d m ++ [[1, 0]]) = w ++ (ofE d m ++ [[1, 0]]) by rw [← e0]]
      refine SimC.iter (g := gv) (e := .exit 0) (S := fun i => olS d m i) (B := fun i => olB (w ++ ofE d i) (atL lz) (aZ (atL la) d i)) (N := m) (fun i hi => ?_) ?_ (by simp) 0 (by omega)
      · have hli := hl i hi
        have hE := ofE_len h0 hd hl i (by omega)
        have M := MS_h (MS_43 (MS_Z h0 hd i (by omega)))
        have hh := ofH_eq h0 hd i (by omega)
        have hr := ol_go d m i (w ++ ofE d i) (atL lz) (aZ (atL la) d i)
        have e1 : bI (decide ((i : Int) < (m : Int))) = 1 := bI_t (by omega)
        have e2 : (ol1 (w ++ ofE d i) m i ++ [[2, (i : Int)]]) ++ evW (n43 (aZ (atL la) d i) 42) ((d i).length : Int) = w ++ ofE d (i + 1) := by
          rw [ol1, e1, ← hh]
          simp only [ofE, List.append_assoc]
        rw [e2] at hr
        refine SimC.run (B' := olB (w ++ ofE d (i + 1)) (atL lz) (aZ (atL la) d (i + 1))) gv_ok (by decide) hr ?_ (by decide) idT (by decide) (by simp) hgl
        simp only [allC_cons, allC_nil, and_true, List.length_append, List.length_cons, List.length_nil]
        exact ⟨by omega, Fm, decide_eq_true (by omega), M, hli, by omega, ⟨by omega, by omega⟩, by omega, fits_of (by omega) (by omega)⟩
      · have hE := ofE_len h0 hd hl m (Nat.le_refl _)
        have hr := ol_end d m m (w ++ ofE d m) (atL lz) (aZ (atL la) d m)
        have e1 : ol1 (w ++ ofE d m) m m = w ++ (ofE d m ++ [[1, 0]]) := by
          rw [ol1, bI_f (by omega), List.append_assoc]
        rw [e1] at hr
        exact SimC.weaken (SimC.run (B' := olB (w ++ (ofE d m ++ [[1, 0]])) (atL lz) (aZ (atL la) d m)) gv_ok (by decide) hr (by simp only [allC_cons, allC_nil, and_true, List.length_append]; exact ⟨by omega, Fm, decide_eq_false (by omega)⟩) (by decide) idT (by decide) (by simp) hgl) (sub_mkT (by simp; exact ⟨rfl, rfl⟩))
    · simp at hG
  · simp at hG
theorem ol_run (k : Nat → Int) (d : Nat → List Int) (m : Nat) (w : List (List Int)) : runF gv 900 [.loop 3 ofKeep 3 (.exit 0) (mkLoopN olG)] 16 [.ptr 0 0, .agg (svF (List.replicate 32 .u8) k 0), .ro 1 m (rowL d)] [.log w] [] =
    some (.agg (svF (List.replicate 16 .u8) (tgN (ofN k d m)) 0), [some (.log ((w ++ (ofE d m ++ [[1, 0]])) ++ evT (ofN k d m 42)))], [LoopGood gv 30 (.loop ofBody) ofKeep 3 (.exit 0) (mkLoopN olG)] ++ (olC (rowL d) m w ++ [∃ T mk, MS T mk [] (atL (nwL (kk k))), 0 ≤ ofN k d m 42 ∧ ofN k d m 42 < 16, (w ++ (ofE d m ++ [[1, 0]])).length < 1000000000])) :=
  run_parts (by kernel_rfl) (by kernel_rfl) (by kernel_rfl)
noncomputable def F16l : SumF := fun args B => match args, B with
  | [.ptr 0 0, .agg ks, .ro 1 m f], [.log w] => match numsAs (List.replicate 32 .u8) ks with
    | some lk => some { val := .agg (svF (List.replicate 16 .u8) (atL (DT (atL lk) (xZ (lOf f) m))) 0), upd := [(0, some (.log (w ++ ofT (lOf f) m)))], C := olC f m w }
    | _ => none
  | _, _ => none
theorem acc16l : Acc gv 16 F16l := by
  intro args B out h hC
  unfold F16l at h
  split at h
  · rename_i ks m f w
    split at h
    · rename_i lk hk
      simp only [Option.some.injEq] at h; subst h
      have hC2 := hC
      simp only [olC, allC_append, allC_cons, allC_nil, and_true] at hC2
      obtain ⟨hf, hm, hl, hff, hw⟩ := hC2
      have hd := rowL_bytes hf hff
      rw [hf] at hff
      generalize lOf f = d at *
      have hc : AllC (olC (rowL d) m w) := by
        simp only [olC, allC_append, allC_cons, allC_nil, and_true]; exact ⟨rfl, hm, hl, hff, hw⟩
      have hL := ol_loop
      refine FnOk.imp (args' := [.ptr 0 0, .agg (svF (List.replicate 32 .u8) (atL lk) 0), .ro 1 m (rowL d)]) ?_ ⟨DenImp.refl _, nums_imp hk, by rw [hf]; exact DenImp.refl _, trivial⟩
      refine FnOk.facts fun ⟨_, f1, _⟩ => ?_
      have k1 := key_bytes f1
      have M0 := MS_new (KB_kk k1)
      have M := MS_43 (MS_Z M0 hd m (Nat.le_refl _))
      have hi : ∀ j, j < 16 → Byte (atL (hiK (kk (atL lk))) j) := hiB k1
      have hT := MS_tag M hi
      have hE := ofE_len M0 hd hl m (Nat.le_refl _)
      have hh : ofH d m = ofN (atL lk) d m 42 := ofH_eq M0 hd m (Nat.le_refl _)
      have hr := ol_run (atL lk) d m w
      have e3 : (w ++ (ofE d m ++ [[1, 0]])) ++ evT (ofN (atL lk) d m 42) = w ++ ofT d m := by
        rw [ofT, hh, List.append_assoc]
      rw [e3] at hr
      refine FnOk.val (v := .agg (svF (List.replicate 16 .u8) (tgN (ofN (atL lk) d m)) 0)) (C := []) (rd := []) (FnOk.run (out := { val := .agg (svF (List.replicate 16 .u8) (tgN (ofN (atL lk) d m)) 0), upd := [(0, some (.log (w ++ ofT d m)))] }) (new := []) gv_ok hr ?_ (by simp [upto]) rfl (by simp) (by simp) (fun j hj => by
          match j, hj with
          | 0, _ => rfl)) (fun w0 O ρ u h => ?_)
      · refine allC_append.2 ⟨?_, allC_append.2 ⟨hc, ?_⟩⟩
        · simp only [allC_cons, allC_nil, and_true]; exact hL
        · simp only [allC_cons, allC_nil, and_true, List.length_append, List.length_cons, List.length_nil]; exact ⟨⟨_, _, M0⟩, MS_h M, by omega⟩
      · have e : svF (List.replicate 16 .u8) (atL (DT (atL lk) (xZ d m))) 0 = svF (List.replicate 16 .u8) (tgN (ofN (atL lk) d m)) 0 := svF_cg _ 0 fun j hj => by
          rw [List.length_replicate] at hj
          rw [Nat.zero_add, DT, ← hT]
          exact atLF hj
        rw [e]; exact h
    · simp at h
  · simp at h
end Go.Proofs.Ytejcjdhplpjpjaa

namespace Go.Proofs.Ytejcjdhplpjpjaa
open Go Go.Vx
/-! ### MacRight -/
def CK (k t : Nat → Int) (x : List Int) : Bool := decide ((if listF 16 (atL (DT (kk k) x)) 0 = listF 16 t 0 then (1 : Int) else 0) = 1)
noncomputable def F18c : SumF := fun args B => match args, B with
  | [.raw (.pointer none), .agg ks, .agg ts, .ro 1 m f], [] => match numsAs (List.replicate 32 .u8) ks, numsAs (List.replicate 16 .u8) ts with
    | some lk, some lt => some { val := .sbool (CK (atL lk) (atL lt) (xZ (lOf f) m)), C := oC f m }
    | _, _ => none
  | _, _ => none
theorem acc18c : Acc gs 18 F18c := by
  intro args B out h hC
  unfold F18c at h
  split at h
  · rename_i ks ts m f
    split at h
    · rename_i lk lt hk ht
      simp only [Option.some.injEq] at h; subst h
      have hC2 := hC
      simp only [oC, lC, allC_append, allC_cons, allC_nil, and_true] at hC2
      obtain ⟨⟨hf, Fm, hl⟩, hff⟩ := hC2
      rw [hf] at hff
      generalize lOf f = d at *
      have hc : AllC (oC (rowL d) m) := by
        simp only [oC, lC, allC_append, allC_cons, allC_nil, and_true]; exact ⟨⟨rfl, Fm, hl⟩, hff⟩
      refine FnOk.imp (args' := [nilR, .agg (svF (List.replicate 32 .u8) (atL lk) 0), .agg (svF (List.replicate 16 .u8) (atL lt) 0), .ro 1 m (rowL d)]) ?_ ⟨DenImp.refl _, nums_imp hk, nums_imp ht, by rw [hf]; exact DenImp.refl _, trivial⟩
      exact FnOk.val (C := oC (rowL d) m) (rd := []) (FnOk.pure gs_ok (check_run (atL lk) (atL lt) d m) hc) (fun _ _ _ _ h => h)
    · simp at h
  · simp at h
noncomputable abbrev gu : Ctx := gs.add [(18, F18c)]
theorem gu_ok : CtxU gu := gs_ok.add mixed noGo (by
  intro x hx
  simp only [List.mem_cons, List.not_mem_nil, or_false] at hx
  rcases hx with rfl
  exact acc18c)
end Go.Proofs.Ytejcjdhplpjpjaa

namespace Go.Proofs.Ytejcjdhplpjpjaa
open Go Go.Vx
/-! ### Check with a Recorder -/
noncomputable abbrev gv1 : Ctx := gv.add [(16, oneOf (oneOf F16 F16s) F16l), (17, F17), (47, eqArrF 16)]
theorem gv1_ok : CtxU gv1 := gv_ok.add mixed noGo (by
  intro x hx
  simp only [List.mem_cons, List.not_mem_nil, or_false] at hx
  rcases hx with rfl | rfl | rfl
  · exact acc_one (Acc.of (g := gn) rfl rfl (acc_one acc16 acc16s)) acc16l
  · exact Acc.of (g := gn) rfl rfl acc17
  · exact Acc.of (g := g0) rfl rfl acc47)
theorem chl_run (k t : Nat → Int) (d : Nat → List Int) (m : Nat) (w : List (List Int)) : runF gv1 900 [] 18 [.ptr 0 0, .agg (svF (List.replicate 32 .u8) k 0), .agg (svF (List.replicate 16 .u8) t 0), .ro 1 m (rowL d)] [.log w] [] =
    some (.sbool (CK k t (xZ d m)), [some (.log ((w ++ ofT d m) ++ [[1, bI (CK k t (xZ d m))]]))], [(w ++ ofT d m).length < 1099511627776] ++ olC (rowL d) m w) :=
  run_parts (by kernel_rfl) (by kernel_rfl) (by kernel_rfl)
noncomputable def F18l : SumF := fun args B => match args, B with
  | [.ptr 0 0, .agg ks, .agg ts, .ro 1 m f], [.log w] => match numsAs (List.replicate 32 .u8) ks, numsAs (List.replicate 16 .u8) ts with
    | some lk, some lt => some { val := .sbool (CK (atL lk) (atL lt) (xZ (lOf f) m)), upd := [(0, some (.log ((w ++ ofT (lOf f) m) ++ [[1, bI (CK (atL lk) (atL lt) (xZ (lOf f) m))]])))], C := ((w ++ ofT (lOf f) m).length < 1099511627776) :: olC f m w }
    | _, _ => none
  | _, _ => none
theorem acc18l : Acc gv1 18 F18l := by
  intro args B out h hC
  unfold F18l at h
  split at h
  · rename_i ks ts m f w
    split at h
    · rename_i lk lt hk ht
      simp only [Option.some.injEq] at h; subst h
      have hC2 := hC
      simp only [olC, allC_append, allC_cons, allC_nil, and_true] at hC2
      obtain ⟨hlen, hf, hm, hl, hff, hw⟩ := hC2
      rw [hf] at hff
      generalize lOf f = d at *
      have hc : AllC (olC (rowL d) m w) := by
        simp only [olC, allC_append, allC_cons, allC_nil, and_true]; exact ⟨rfl, hm, hl, hff, hw⟩
      refine FnOk.imp (args' := [.ptr 0 0, .agg (svF (List.replicate 32 .u8) (atL lk) 0), .agg (svF (List.replicate 16 .u8) (atL lt) 0), .ro 1 m (rowL d)]) ?_ ⟨DenImp.refl _, nums_imp hk, nums_imp ht, by rw [hf]; exact DenImp.refl _, trivial⟩
      exact FnOk.val (C := []) (rd := []) (FnOk.run (out := { val := .sbool (CK (atL lk) (atL lt) (xZ d m)), upd := [(0, some (.log ((w ++ ofT d m) ++ [[1, bI (CK (atL lk) (atL lt) (xZ d m))]])))] }) (new := []) gv1_ok (chl_run (atL lk) (atL lt) d m w) (allC_append.2 ⟨by simp only [allC_cons, allC_nil, and_true]; exact hlen, hc⟩) (by simp [upto]) rfl (by simp) (by simp) (fun j hj => by
          match j, hj with
          | 0, _ => rfl)) (fun _ _ _ _ h => h)
    · simp at h
  · simp at h
noncomputable abbrev gV : Ctx := gv1.add [(18, oneOf F18c F18l)]
theorem gV_ok : CtxU gV := gv1_ok.add mixed noGo (by
  intro x hx
  simp only [List.mem_cons, List.not_mem_nil, or_false] at hx
  rcases hx with rfl
  exact acc_one (Acc.of (g := gs) rfl rfl acc18c) acc18l)
end Go.Proofs.Ytejcjdhplpjpjaa

namespace Go.Proofs.Ytejcjdhplpjpjaa
open Go Go.Vx
/-! ### stands, of constant lists -/
abbrev srO (w l : List Int) (i : Int) : List SV := [.roi .u8 w, .roi .u8 l, .int .i64 i]
abbrev srS (w l : List Int) (i : Nat) : List (Nat × SV) := sdKeep.zip (srO w l (i : Int))
theorem sr_go1 (i : Nat) (l w : List Int) : runC gn 300 44 [.br true, .br true, .br false, .br false, .br false] sdBody (srS w l i) [] sdKeep [] =
    some (.normal, srO w l ((i : Int) + 1), [], [Fits .i64 (w.length : Int), decide ((i : Int) < (w.length : Int)) = true, decide ((l.length : Int) ≤ (i : Int)) = false, Fits .i64 (l.length : Int), (!decide (w.getD i 0 = l.getD i 0)) = false, (0 : Int) ≤ (i : Int) ∧ (i : Int) < (l.length : Int), (0 : Int) ≤ (i : Int) ∧ (i : Int) < (w.length : Int), decide ((i : Int) < (l.length : Int)) = true, Fits .i64 (l.length : Int), Fits .i64 ((i : Int) + 1)]) :=
  r3_parts4 (by kernel_rfl) (by kernel_rfl) (by kernel_rfl) (by kernel_rfl)
theorem sr_go0 (i : Nat) (l w : List Int) : runC gn 300 44 [.br true, .br false, .br true, .br false, .br false] sdBody (srS w l i) [] sdKeep [] =
    some (.normal, srO w l ((i : Int) + 1), [], [Fits .i64 (w.length : Int), decide ((i : Int) < (w.length : Int)) = true, Fits .i64 (161 + (i : Int).tmod 7), (0 : Int) ≤ (i : Int) ∧ (i : Int) < (w.length : Int), decide ((l.length : Int) ≤ (i : Int)) = true, Fits .i64 (l.length : Int), decide ((i : Int) < (l.length : Int)) = false, Fits .i64 (l.length : Int), (!decide (w.getD i 0 = markN i)) = false, Fits .i64 ((i : Int) + 1)]) :=
  r3_parts4 (by kernel_rfl) (by kernel_rfl) (by kernel_rfl) (by kernel_rfl)
theorem sr_end (i : Nat) (l w : List Int) : runC gn 300 44 [.br false] sdBody (srS w l i) [] sdKeep [] =
    some (.exit 0, srO w l (i : Int), [], [Fits .i64 (w.length : Int), decide ((i : Int) < (w.length : Int)) = false]) :=
  r3_parts4 (by kernel_rfl) (by kernel_rfl) (by kernel_rfl) (by kernel_rfl)
def srG : LoopF := fun vals B => match vals, B with
  | [.roi K w, .roi K2 l, .int .i64 0], [] => match sameK K .u8, sameK K2 .u8 with
    | true, true => some ([], [], [l.length ≤ 1000000000, w = roomL l])
    | _, _ => none
  | _, _ => none
theorem sr_loop : LoopGood gn 44 (.loop sdBody) sdKeep 0 (.exit 0) (mkLoopN srG) := by
  refine LoopGood.mkN (by decide) fun vals B S' B' C hG hC hlen w0 O hgl => ?_
  clear hlen
  unfold srG at hG
  split at hG
  · rename_i K w K2 l
    split at hG
    · rename_i hK hK2
      obtain rfl := kidx_inj hK
      obtain rfl := kidx_inj hK2
      simp only [Option.some.injEq, Prod.mk.injEq] at hG
      obtain ⟨rfl, rfl, rfl⟩ := hG
      simp only [allC_cons, allC_nil, and_true] at hC
      obtain ⟨h3, hw⟩ := hC
      have hl : w.length = l.length + 70 := by rw [hw, roomL_len]
      have F1 : Fits .i64 (w.length : Int) := fits_of (by omega) (by omega)
      have F3 : Fits .i64 (l.length : Int) := fits_of (by omega) (by omega)
      refine SimC.iter (g := gn) (S := srS w l) (B := fun _ => []) (N := w.length) (fun i hi => ?_) ?_ (by simp) 0 (by omega)
      · have F2 : Fits .i64 ((i : Int) + 1) := fits_of (by omega) (by omega)
        have e : w.getD i 0 = if i < l.length then l.getD i 0 else markN i := by
          rw [hw]; exact roomL_get l (by omega)
        by_cases c : i < l.length
        · rw [if_pos c] at e
          refine SimC.run (B' := []) gn_ok (by decide) (sr_go1 i l w) ?_ (by decide) (q00 _) (by decide) (by simp) hgl
          simp only [allC_cons, allC_nil, and_true]
          exact ⟨F1, decide_eq_true (by omega), decide_eq_false (by omega), F3, by rw [decide_eq_true e]; rfl, ⟨by omega, by omega⟩, ⟨by omega, by omega⟩, decide_eq_true (by omega), F3, F2⟩
        · rw [if_neg c] at e
          refine SimC.run (B' := []) gn_ok (by decide) (sr_go0 i l w) ?_ (by decide) (q00 _) (by decide) (by simp) hgl
          simp only [allC_cons, allC_nil, and_true]
          exact ⟨F1, decide_eq_true (by omega), tmod_fits i, ⟨by omega, by omega⟩, decide_eq_true (by omega), F3, decide_eq_false (by omega), F3, by rw [decide_eq_true e]; rfl, F2⟩
      · exact SimC.weaken (SimC.run (B' := []) gn_ok (by decide) (sr_end w.length l w) (by simp only [allC_cons, allC_nil, and_true]; exact ⟨F1, decide_eq_false (by omega)⟩) (by decide) (q00 _) (by decide) (by simp) hgl) (fun t => .inr (by simp [mkT, tget, Tr.get_lf]))
    · simp at hG
  · simp at hG
theorem sr_run (l w : List Int) : runF gn 300 [.loop 2 sdKeep 0 (.exit 0) (mkLoopN srG)] 23 [.roi .u8 w, .roi .u8 l] [] [] =
    some (.bool true, [], [LoopGood gn 44 (.loop sdBody) sdKeep 0 (.exit 0) (mkLoopN srG), l.length ≤ 1000000000, w = roomL l]) :=
  run_parts (by kernel_rfl) (by kernel_rfl) (by kernel_rfl)
def F23r : SumF := fun args B => match args, B with
  | [.roi K w, .roi K2 l], [] => match sameK K .u8, sameK K2 .u8 with
    | true, true => some { val := .sbool true, C := [l.length ≤ 1000000000, w = roomL l] }
    | _, _ => none
  | _, _ => none
theorem acc23r : Acc gn 23 F23r := by
  intro args B out h hC
  unfold F23r at h
  split at h
  · rename_i K w K2 l
    split at h
    · rename_i hK hK2
      obtain rfl := kidx_inj hK
      obtain rfl := kidx_inj hK2
      simp only [Option.some.injEq] at h; subst h
      have hL := sr_loop
      exact FnOk.toSb (b := true) (FnOk.pure gn_ok (sr_run l w) (allC_cons.2 ⟨hL, hC⟩)) rfl
    · simp at h
  · simp at h
/-! ### joined -/
noncomputable abbrev pC (f : Nat → SV) (m : Nat) : List Prop := [f = rowL (lOf f), m ≤ 1000, ∀ i, i < m → (lOf f i).length ≤ 131072]
abbrev jnKeep : List Nat := [0, 3, 4]
noncomputable abbrev jnBody : Code := bodyAt Try.prog 28 3
noncomputable abbrev jnO (d : Nat → List Int) (m : Nat) (i : Int) : List SV := [.ro 1 m (rowL d), .own 0, .int .i64 i]
noncomputable abbrev jnS (d : Nat → List Int) (m i : Nat) : List (Nat × SV) := jnKeep.zip (jnO d m (i : Int))
theorem jn_go (d : Nat → List Int) (m i : Nat) (x : List Int) : runC gn 300 18 [.br true] jnBody (jnS d m i) [.ints .u8 x] jnKeep [1] =
    some (.normal, jnO d m ((i : Int) + 1), [some (.ints .u8 (x ++ d i))], [Fits .i64 (m : Int), decide ((i : Int) < (m : Int)) = true, (x ++ d i).length * 1 ≤ 2 ^ 47, (0 : Int) ≤ (i : Int) ∧ (i : Int) < (m : Int), Fits .i64 ((i : Int) + 1)]) :=
  r3_parts4 (by kernel_rfl) (by kernel_rfl) (by kernel_rfl) (by kernel_rfl)
theorem jn_end (d : Nat → List Int) (m i : Nat) (x : List Int) : runC gn 300 18 [.br false] jnBody (jnS d m i) [.ints .u8 x] jnKeep [0] =
    some (.exit 0, jnO d m (i : Int), [some (.ints .u8 x)], [Fits .i64 (m : Int), decide ((i : Int) < (m : Int)) = false]) :=
  r3_parts4 (by kernel_rfl) (by kernel_rfl) (by kernel_rfl) (by kernel_rfl)
noncomputable def jnG : LoopF := fun vals B => match vals, B with
  | [.ro 1 m f, .raw (.slice none 0 0), .int .i64 0], [] => some ([(3, .own 0)], [.ints .u8 (xZ (lOf f) m)], pC f m)
  | _, _ => none
theorem xZ_le {d : Nat → List Int} {m : Nat} (hl : ∀ i, i < m → (d i).length ≤ 131072) : ∀ i, i ≤ m → (xZ d i).length ≤ 131072 * i
  | 0, _ => by simp [xZ]
  | i + 1, h => by
    have := xZ_le hl i (by omega)
    have := hl i (by omega)
    simp only [xZ, List.length_append]; omega
theorem jn_loop : LoopGood gn 18 (.loop jnBody) jnKeep 0 (.exit 0) (mkLoopN jnG) := by
  refine LoopGood.mkN (by decide) fun vals B S' B' C hG hC hlen w0 O hgl => ?_
  clear hlen
  unfold jnG at hG
  split at hG
  · rename_i m f
    simp only [Option.some.injEq, Prod.mk.injEq] at hG
    obtain ⟨rfl, rfl, rfl⟩ := hG
    simp only [pC, allC_cons, allC_nil, and_true] at hC
    obtain ⟨hf, hm, hl⟩ := hC
    generalize lOf f = d at *
    rw [hf]
    clear hf
    have Fm : Fits .i64 (m : Int) := fits_of (by omega) (by omega)
    refine SimC.adoptS (.ints .u8 []) 3 rfl rfl (by simp) (by simp) ?_
    show SimC _ _ _ _ _ (jnS d m 0) [.ints .u8 (xZ d 0)] _ _ _ _
    refine SimC.iter (g := gn) (e := .exit 0) (S := fun i => jnS d m i) (B := fun i => [.ints .u8 (xZ d i)]) (N := m) (fun i hi => ?_) ?_ (by simp) 0 (by omega)
    · have h1 := xZ_le hl i (by omega)
      have h2 := hl i hi
      refine SimC.run (B' := [.ints .u8 (xZ d (i + 1))]) gn_ok (by decide) (jn_go d m i (xZ d i)) ?_ (by decide) (q00 _) (by decide) (by simp) hgl
      simp only [allC_cons, allC_nil, and_true, List.length_append]
      exact ⟨Fm, decide_eq_true (by omega), by omega, ⟨by omega, by omega⟩, fits_of (by omega) (by omega)⟩
    · exact SimC.weaken (SimC.run (B' := [.ints .u8 (xZ d m)]) gn_ok (by decide) (jn_end d m m _) (by simp only [allC_cons, allC_nil, and_true]; exact ⟨Fm, decide_eq_false (by omega)⟩) (by decide) (q00 _) (by decide) (by simp) hgl) (sub_mkT (by simp; exact rfl))
  · simp at hG
theorem jn_run (d : Nat → List Int) (m : Nat) : runF gn 300 [.loop 3 jnKeep 0 (.exit 0) (mkLoopN jnG)] 28 [.ro 1 m (rowL d)] [] [0] =
    some (.own 0, [some (.ints .u8 (xZ d m))], LoopGood gn 18 (.loop jnBody) jnKeep 0 (.exit 0) (mkLoopN jnG) :: pC (rowL d) m) :=
  run_parts (by kernel_rfl) (by kernel_rfl) (by kernel_rfl)
noncomputable def F28 : SumF := fun args B => match args, B with
  | [.ro 1 m f], [] => some { val := .own 0, new := [.ints .u8 (xZ (lOf f) m)], C := pC f m }
  | _, _ => none
theorem acc28 : Acc gn 28 F28 := by
  intro args B out h hC
  unfold F28 at h
  split at h
  · rename_i m f
    simp only [Option.some.injEq] at h; subst h
    have hC2 := hC
    simp only [pC, allC_cons, allC_nil, and_true] at hC2
    obtain ⟨hf, hm, hl⟩ := hC2
    generalize lOf f = d at *
    have hL := jn_loop
    rw [hf]
    exact FnOk.val (C := []) (rd := []) (FnOk.run (out := { val := .own 0, new := [.ints .u8 (xZ d m)] }) (new := [0]) gn_ok (jn_run d m) (allC_cons.2 ⟨hL, by simp only [pC, allC_cons, allC_nil, and_true]; exact ⟨rfl, hm, hl⟩⟩) (by simp [upto]) rfl (by simp) (by simp) (fun j hj => by
      match j, hj with
      | 0, _ => rfl)) (fun _ _ _ _ h => h)
  · simp at h
/-! ### lens -/
def lnL (d : Nat → List Int) : Nat → List Int
  | 0 => []
  | i + 1 => lnL d i ++ [((d i).length : Int)]
theorem lnL_len (d : Nat → List Int) : ∀ i, (lnL d i).length = i
  | 0 => rfl
  | i + 1 => by simp [lnL, lnL_len d i]
theorem lnL_get (d : Nat → List Int) : ∀ {m i : Nat}, i < m → (lnL d m).getD i 0 = ((d i).length : Int)
  | m + 1, i, h => by
    simp only [lnL]
    rw [List.getD_eq_getElem?_getD]
    by_cases c : i < m
    · rw [List.getElem?_append_left (by rw [lnL_len]; exact c), ← List.getD_eq_getElem?_getD]
      exact lnL_get d c
    · have e : i = m := by omega
      subst e
      rw [List.getElem?_append_right (by rw [lnL_len]; exact Nat.le_refl _), lnL_len]
      simp
noncomputable abbrev lnBody : Code := bodyAt Try.prog 30 3
theorem ln_go (d : Nat → List Int) (m i : Nat) (L : List Int) : runC gn 300 20 [.br true] lnBody (jnS d m i) [.ints .i64 L] jnKeep [2] =
    some (.normal, jnO d m ((i : Int) + 1), [some (.ints .i64 (L ++ [((d i).length : Int)]))], [Fits .i64 (m : Int), decide ((i : Int) < (m : Int)) = true, (L ++ [((d i).length : Int)]).length * 8 ≤ 2 ^ 47, Fits .i64 ((d i).length : Int), (0 : Int) ≤ (i : Int) ∧ (i : Int) < (m : Int), Fits .i64 ((i : Int) + 1)]) :=
  r3_parts4 (by kernel_rfl) (by kernel_rfl) (by kernel_rfl) (by kernel_rfl)
theorem ln_end (d : Nat → List Int) (m i : Nat) (L : List Int) : runC gn 300 20 [.br false] lnBody (jnS d m i) [.ints .i64 L] jnKeep [0] =
    some (.exit 0, jnO d m (i : Int), [some (.ints .i64 L)], [Fits .i64 (m : Int), decide ((i : Int) < (m : Int)) = false]) :=
  r3_parts4 (by kernel_rfl) (by kernel_rfl) (by kernel_rfl) (by kernel_rfl)
noncomputable def lnG : LoopF := fun vals B => match vals, B with
  | [.ro 1 m f, .raw (.slice none 0 0), .int .i64 0], [] => some ([(3, .own 0)], [.ints .i64 (lnL (lOf f) m)], pC f m)
  | _, _ => none
theorem ln_loop : LoopGood gn 20 (.loop lnBody) jnKeep 0 (.exit 0) (mkLoopN lnG) := by
  refine LoopGood.mkN (by decide) fun vals B S' B' C hG hC hlen w0 O hgl => ?_
  clear hlen
  unfold lnG at hG
  split at hG
  · rename_i m f
    simp only [Option.some.injEq, Prod.mk.injEq] at hG
    obtain ⟨rfl, rfl, rfl⟩ := hG
    simp only [pC, allC_cons, allC_nil, and_true] at hC
    obtain ⟨hf, hm, hl⟩ := hC
    generalize lOf f = d at *
    rw [hf]
    clear hf
    have Fm : Fits .i64 (m : Int) := fits_of (by omega) (by omega)
    refine SimC.adoptS (.ints .i64 []) 3 rfl rfl (by simp) (by simp) ?_
    show SimC _ _ _ _ _ (jnS d m 0) [.ints .i64 (lnL d 0)] _ _ _ _
    refine SimC.iter (g := gn) (e := .exit 0) (S := fun i => jnS d m i) (B := fun i => [.ints .i64 (lnL d i)]) (N := m) (fun i hi => ?_) ?_ (by simp) 0 (by omega)
    · have h1 := lnL_len d i
      have h2 := hl i hi
      refine SimC.run (B' := [.ints .i64 (lnL d (i + 1))]) gn_ok (by decide) (ln_go d m i (lnL d i)) ?_ (by decide) (q00 _) (by decide) (by simp) hgl
      simp only [allC_cons, allC_nil, and_true, List.length_append, List.length_singleton]
      exact ⟨Fm, decide_eq_true (by omega), by omega, fits_of (by omega) (by omega), ⟨by omega, by omega⟩, fits_of (by omega) (by omega)⟩
    · exact SimC.weaken (SimC.run (B' := [.ints .i64 (lnL d m)]) gn_ok (by decide) (ln_end d m m _) (by simp only [allC_cons, allC_nil, and_true]; exact ⟨Fm, decide_eq_false (by omega)⟩) (by decide) (q00 _) (by decide) (by simp) hgl) (sub_mkT (by simp; exact rfl))
  · simp at hG
theorem ln_run (d : Nat → List Int) (m : Nat) : runF gn 300 [.loop 3 jnKeep 0 (.exit 0) (mkLoopN lnG)] 30 [.ro 1 m (rowL d)] [] [0] =
    some (.own 0, [some (.ints .i64 (lnL d m))], LoopGood gn 20 (.loop lnBody) jnKeep 0 (.exit 0) (mkLoopN lnG) :: pC (rowL d) m) :=
  run_parts (by kernel_rfl) (by kernel_rfl) (by kernel_rfl)
noncomputable def F30 : SumF := fun args B => match args, B with
  | [.ro 1 m f], [] => some { val := .own 0, new := [.ints .i64 (lnL (lOf f) m)], C := pC f m }
  | _, _ => none
theorem acc30 : Acc gn 30 F30 := by
  intro args B out h hC
  unfold F30 at h
  split at h
  · rename_i m f
    simp only [Option.some.injEq] at h; subst h
    have hC2 := hC
    simp only [pC, allC_cons, allC_nil, and_true] at hC2
    obtain ⟨hf, hm, hl⟩ := hC2
    generalize lOf f = d at *
    have hL := ln_loop
    rw [hf]
    exact FnOk.val (C := []) (rd := []) (FnOk.run (out := { val := .own 0, new := [.ints .i64 (lnL d m)] }) (new := [0]) gn_ok (ln_run d m) (allC_cons.2 ⟨hL, by simp only [pC, allC_cons, allC_nil, and_true]; exact ⟨rfl, hm, hl⟩⟩) (by simp [upto]) rfl (by simp) (by simp) (fun j hj => by
      match j, hj with
      | 0, _ => rfl)) (fun _ _ _ _ h => h)
  · simp at h
end Go.Proofs.Ytejcjdhplpjpjaa

namespace Go.Proofs.Ytejcjdhplpjpjaa
open Go Go.Vx
/-! ### the document's events of Of and of Check -/
def eoH (L : List Int) : Nat → Int
  | 0 => 0
  | i + 1 => ewH (eoH L i) (L.getD i 0)
def eoE (L : List Int) : Nat → List (List Int)
  | 0 => []
  | i + 1 => (eoE L i ++ [[1, 1], [2, (i : Int)]]) ++ evW (eoH L i) (L.getD i 0)
def eoT (L : List Int) : List (List Int) := (eoE L L.length ++ [[1, 0]]) ++ evT (eoH L L.length)
abbrev LnC (L : List Int) : Prop := ∀ i, i < L.length → 0 ≤ L.getD i 0 ∧ L.getD i 0 ≤ 131072
theorem eoH_ok {L : List Int} (h : LnC L) : ∀ i, i ≤ L.length → 0 ≤ eoH L i ∧ eoH L i < 16
  | 0, _ => ⟨Int.le_refl 0, by show (0 : Int) < 16; decide⟩
  | i + 1, hi => by
    have ih := eoH_ok h i (by omega)
    have := h i (by omega)
    simp only [eoH]
    rw [ewH_mod ih this.1]
    omega
theorem eoE_len {L : List Int} (h : LnC L) : ∀ i, i ≤ L.length → (eoE L i).length ≤ 131090 * i
  | 0, _ => by simp [eoE]
  | i + 1, hi => by
    have ih := eoE_len h i (by omega)
    have h1 := h i (by omega)
    have := evW_len (eoH_ok h i (by omega)) h1.1
    simp only [eoE, List.length_append, List.length_cons, List.length_nil]
    omega
abbrev eoKeep : List Nat := [0, 3, 4, 5]
noncomputable abbrev eoBody : Code := bodyAt Try.prog 29 4
abbrev eoO (h i : Int) : List SV := [.own 0, .own 1, .int .i64 h, .int .i64 i]
abbrev eoS (h : Int) (i : Nat) : List (Nat × SV) := eoKeep.zip (eoO h (i : Int))
abbrev eoB (L : List Int) (E : List (List Int)) : List Body := [.ints .i64 L, .rows evK E]
noncomputable abbrev geo : Ctx := ge.add [(21, F21), (24, F24)]
theorem geo_ok : CtxU geo := ge_ok.add mixed noGo (by
  intro x hx
  simp only [List.mem_cons, List.not_mem_nil, or_false] at hx
  rcases hx with rfl | rfl
  · exact acc21
  · exact acc24)
theorem eo_go (L : List Int) (E : List (List Int)) (h : Int) (i : Nat) : runC geo 300 41 [.br true] eoBody (eoS h i) (eoB L E) eoKeep [0, 5] =
    some (.normal, eoO (ewH h (L.getD i 0)) ((i : Int) + 1), (eoB L ((E ++ [[1, bI true], [2, (i : Int)]]) ++ evW h (L.getD i 0))).map some,
      [Fits .i64 (L.length : Int), decide ((i : Int) < (L.length : Int)) = true, (E ++ [[1, bI true], [2, (i : Int)]]).length * 16 ≤ 2 ^ 47, 0 ≤ h ∧ h < 16, 0 ≤ L.getD i 0 ∧ L.getD i 0 ≤ 131072, i < L.length, (0 : Int) ≤ (i : Int) ∧ (i : Int) < (L.length : Int), ((E ++ [[1, bI true], [2, (i : Int)]]) ++ evW h (L.getD i 0)).length * 16 ≤ 2 ^ 47, Fits .i64 ((i : Int) + 1)]) :=
  r3_parts4 (by kernel_rfl) (by kernel_rfl) (by kernel_rfl) (by kernel_rfl)
theorem eo_end (L : List Int) (E : List (List Int)) (h : Int) (i : Nat) : runC geo 300 41 [.br false] eoBody (eoS h i) (eoB L E) eoKeep [0, 1] =
    some (.exit 0, eoO h (i : Int), (eoB L E).map some, [Fits .i64 (L.length : Int), decide ((i : Int) < (L.length : Int)) = false]) :=
  r3_parts4 (by kernel_rfl) (by kernel_rfl) (by kernel_rfl) (by kernel_rfl)
def eoG : LoopF := fun vals B => match vals, B with
  | [.own 0, .raw (.slice none 0 0), .int .i64 0, .int .i64 0], [.ints K L] => match sameK K .i64 with
    | true => some ([(3, .own 1), (4, .int .i64 (eoH L L.length))], eoB L (eoE L L.length), [L.length ≤ 1000, LnC L])
    | _ => none
  | _, _ => none
theorem eo_loop : LoopGood geo 41 (.loop eoBody) eoKeep 1 (.exit 0) (mkLoopN eoG) := by
  refine LoopGood.mkN (by decide) fun vals B S' B' C hG hC hlen w0 O hgl => ?_
  clear hlen
  unfold eoG at hG
  split at hG
  · rename_i K L
    split at hG
    · rename_i hK
      obtain rfl := kidx_inj hK
      simp only [Option.some.injEq, Prod.mk.injEq] at hG
      obtain ⟨rfl, rfl, rfl⟩ := hG
      simp only [allC_cons, allC_nil, and_true] at hC
      obtain ⟨hL, hn⟩ := hC
      refine SimC.adoptS (.rows evK []) 3 rfl rfl (by simp) (by simp) ?_
      show SimC _ _ _ _ _ (eoS (eoH L 0) 0) (eoB L (eoE L 0)) _ _ _ _
      have i0 : ∀ u : Nat, ∀ j : Nat, j < 1 → ([0, u] : List Nat)[j]? = some j := fun u j hj => by
        match j, hj with
        | 0, _ => rfl
      refine SimC.iter (g := geo) (e := .exit 0) (S := fun i => eoS (eoH L i) i) (B := fun i => eoB L (eoE L i)) (N := L.length) (fun i hi => ?_) ?_ (by simp) 0 (by omega)
      · have h1 := eoH_ok hn i (by omega)
        have h2 := hn i hi
        have h3 := eoE_len hn i (by omega)
        have h4 := evW_len h1 h2.1
        refine SimC.run (B' := eoB L (eoE L (i + 1))) geo_ok (by decide) (eo_go L (eoE L i) (eoH L i) i) ?_ (by decide) (i0 5) (by decide) (by simp) hgl
        simp only [allC_cons, allC_nil, and_true, List.length_append, List.length_cons, List.length_nil]
        exact ⟨fits_of (by omega) (by omega), decide_eq_true (by omega), by omega, h1, h2, hi, ⟨by omega, by omega⟩, by omega, fits_of (by omega) (by omega)⟩
      · exact SimC.weaken (SimC.run (B' := eoB L (eoE L L.length)) geo_ok (by decide) (eo_end L _ _ L.length) (by simp only [allC_cons, allC_nil, and_true]; exact ⟨fits_of (by omega) (by omega), decide_eq_false (by omega)⟩) (by decide) (i0 1) (by decide) (by simp) hgl) (sub_mkT (by simp; exact ⟨rfl, rfl⟩))
    · simp at hG
  · simp at hG
theorem eo_run (L : List Int) : runF geo 400 [.loop 4 eoKeep 1 (.exit 0) (mkLoopN eoG)] 29 [.own 0] [.ints .i64 L] [5] =
    some (.own 1, [some (.ints .i64 L), some (.rows evK (eoT L))], [LoopGood geo 41 (.loop eoBody) eoKeep 1 (.exit 0) (mkLoopN eoG), L.length ≤ 1000, LnC L, (eoE L L.length ++ [[1, bI false]]).length * 16 ≤ 2 ^ 47, ((eoE L L.length ++ [[1, bI false]]) ++ evT (eoH L L.length)).length * 16 ≤ 2 ^ 47]) :=
  run_parts (by kernel_rfl) (by kernel_rfl) (by kernel_rfl)
def F29 : SumF := fun args B => match args, B with
  | [.own 0], [.ints K L] => match sameK K .i64 with
    | true => some { val := .own 1, new := [.rows evK (eoT L)], C := [L.length ≤ 1000, LnC L] }
    | _ => none
  | _, _ => none
theorem eoT_len {L : List Int} (hL : L.length ≤ 1000) (hn : LnC L) : (eoT L).length ≤ 131091000 ∧ (eoE L L.length).length ≤ 131090000 := by
  have h3 := eoE_len hn L.length (Nat.le_refl _)
  have h4 := evT_len (eoH L L.length)
  simp only [eoT, List.length_append, List.length_cons, List.length_nil]
  omega
theorem acc29 : Acc geo 29 F29 := by
  intro args B out h hC
  unfold F29 at h
  split at h
  · rename_i K L
    split at h
    · rename_i hK
      obtain rfl := kidx_inj hK
      simp only [Option.some.injEq] at h; subst h
      simp only [allC_cons, allC_nil, and_true] at hC
      obtain ⟨hL, hn⟩ := hC
      have hg := eo_loop
      have hl := eoT_len hL hn
      exact FnOk.val (C := []) (rd := []) (FnOk.run (out := { val := .own 1, new := [.rows evK (eoT L)] }) (new := [5]) geo_ok (eo_run L) (by
        simp only [allC_cons, allC_nil, and_true, List.length_append, List.length_cons, List.length_nil]
        have h4 := evT_len (eoH L L.length)
        exact ⟨hg, hL, hn, by omega, by omega⟩) (by simp [upto]) rfl (by simp) (by simp) (fun j hj => by
        match j, hj with
        | 0, _ => rfl
        | 1, _ => rfl)) (fun _ _ _ _ h => h)
    · simp at h
  · simp at h
noncomputable abbrev geo1 : Ctx := geo.add [(29, F29)]
theorem geo1_ok : CtxU geo1 := geo_ok.add mixed noGo (by
  intro x hx
  simp only [List.mem_cons, List.not_mem_nil, or_false] at hx
  rcases hx with rfl
  exact acc29)
theorem ec_run (L : List Int) (b : Bool) : runF geo1 400 [] 32 [.own 0, .sbool b] [.ints .i64 L] [3] =
    some (.own 1, [some (.ints .i64 L), some (.rows evK (eoT L ++ [[1, bI b]]))], [L.length ≤ 1000, LnC L, (eoT L ++ [[1, bI b]]).length * 16 ≤ 2 ^ 47]) :=
  run_parts (by kernel_rfl) (by kernel_rfl) (by kernel_rfl)
def F32 : SumF := fun args B => match args, B with
  | [.own 0, .sbool b], [.ints K L] => match sameK K .i64 with
    | true => some { val := .own 1, new := [.rows evK (eoT L ++ [[1, bI b]])], C := [L.length ≤ 1000, LnC L] }
    | _ => none
  | _, _ => none
theorem acc32 : Acc geo1 32 F32 := by
  intro args B out h hC
  unfold F32 at h
  split at h
  · rename_i b K L
    split at h
    · rename_i hK
      obtain rfl := kidx_inj hK
      simp only [Option.some.injEq] at h; subst h
      simp only [allC_cons, allC_nil, and_true] at hC
      obtain ⟨hL, hn⟩ := hC
      have hl := eoT_len hL hn
      exact FnOk.val (C := []) (rd := []) (FnOk.run (out := { val := .own 1, new := [.rows evK (eoT L ++ [[1, bI b]])] }) (new := [3]) geo1_ok (ec_run L b) (by
        simp only [allC_cons, allC_nil, and_true, List.length_append, List.length_cons, List.length_nil]
        exact ⟨hL, hn, by omega⟩) (by simp [upto]) rfl (by simp) (by simp) (fun j hj => by
        match j, hj with
        | 0, _ => rfl
        | 1, _ => rfl)) (fun _ _ _ _ h => h)
    · simp at h
  · simp at h
/-! ### untouched -/
noncomputable abbrev gn1 : Ctx := gn.add [(23, F23r)]
theorem gn1_ok : CtxU gn1 := gn_ok.add mixed noGo (by
  intro x hx
  simp only [List.mem_cons, List.not_mem_nil, or_false] at hx
  rcases hx with rfl
  exact acc23r)
abbrev unKeep : List Nat := [0, 1, 2, 7]
noncomputable abbrev unBody : Code := bodyAt Try.prog 31 2
noncomputable abbrev unO (d1 d2 d : Nat → List Int) (m : Nat) (i : Int) : List SV := [.ro 1 m (rowL d1), .ro 1 m (rowL d2), .ro 1 m (rowL d), .int .i64 i]
noncomputable abbrev unS (d1 d2 d : Nat → List Int) (m i : Nat) : List (Nat × SV) := unKeep.zip (unO d1 d2 d m (i : Int))
abbrev unI (m i : Nat) : Prop := (0 : Int) ≤ (i : Int) ∧ (i : Int) < (m : Int)
theorem un_go (d1 d2 d : Nat → List Int) (m i : Nat) : runC gn1 300 37 [.br true, .br false, .br false] unBody (unS d1 d2 d m i) [] unKeep [] =
    some (.normal, unO d1 d2 d m ((i : Int) + 1), [], [Fits .i64 (m : Int), decide ((i : Int) < (m : Int)) = true, Fits .i64 ((d i).length : Int), unI m i, Fits .i64 ((d2 i).length : Int), unI m i, (!true) = false, (d i).length ≤ 1000000000, d1 i = roomL (d i), unI m i, unI m i, (!decide (((d2 i).length : Int) = ((d i).length : Int))) = false, Fits .i64 ((i : Int) + 1)]) :=
  r3_parts4 (by kernel_rfl) (by kernel_rfl) (by kernel_rfl) (by kernel_rfl)
theorem un_end (d1 d2 d : Nat → List Int) (m i : Nat) : runC gn1 300 37 [.br false] unBody (unS d1 d2 d m i) [] unKeep [] =
    some (.exit 0, unO d1 d2 d m (i : Int), [], [Fits .i64 (m : Int), decide ((i : Int) < (m : Int)) = false]) :=
  r3_parts4 (by kernel_rfl) (by kernel_rfl) (by kernel_rfl) (by kernel_rfl)
noncomputable abbrev unC (f1 f2 f : Nat → SV) (m : Nat) : List Prop := [f1 = rowL (lOf f1), f2 = rowL (lOf f2), f = rowL (lOf f), m ≤ 1000, ∀ i, i < m → (lOf f i).length ≤ 131072, ∀ i, i < m → lOf f1 i = roomL (lOf f i), ∀ i, i < m → (lOf f2 i).length = (lOf f i).length]
noncomputable def unG : LoopF := fun vals B => match vals, B with
  | [.ro 1 m f1, .ro 1 m2 f2, .ro 1 m3 f, .int .i64 0], [] => some ([], [], (m2 = m) :: (m3 = m) :: unC f1 f2 f m)
  | _, _ => none
theorem un_loop : LoopGood gn1 37 (.loop unBody) unKeep 0 (.exit 0) (mkLoopN unG) := by
  refine LoopGood.mkN (by decide) fun vals B S' B' C hG hC hlen w0 O hgl => ?_
  clear hlen
  unfold unG at hG
  split at hG
  · rename_i m f1 m2 f2 m3 f
    simp only [Option.some.injEq, Prod.mk.injEq] at hG
    obtain ⟨rfl, rfl, rfl⟩ := hG
    simp only [unC, allC_cons, allC_nil, and_true] at hC
    obtain ⟨e1, e2, hf1, hf2, hf, hm, hl, h1, h2⟩ := hC
    subst e1; subst e2
    rename Nat => m
    generalize lOf f1 = d1 at *
    generalize lOf f2 = d2 at *
    generalize lOf f = d at *
    rw [hf1, hf2, hf]
    clear hf1 hf2 hf
    have Fm : Fits .i64 (m : Int) := fits_of (by omega) (by omega)
    refine SimC.iter (g := gn1) (S := unS d1 d2 d m) (B := fun _ => []) (N := m) (fun i hi => ?_) ?_ (by simp) 0 (by omega)
    · have hli := hl i hi
      have h2i := h2 i hi
      have hI : unI m i := ⟨by omega, by omega⟩
      refine SimC.run (B' := []) gn1_ok (by decide) (un_go d1 d2 d m i) ?_ (by decide) (q00 _) (by decide) (by simp) hgl
      simp only [allC_cons, allC_nil, and_true]
      exact ⟨Fm, decide_eq_true (by omega), fits_of (by omega) (by omega), hI, fits_of (by omega) (by omega), hI, rfl, by omega, h1 i hi, hI, hI, by rw [decide_eq_true (by omega)]; rfl, fits_of (by omega) (by omega)⟩
    · exact SimC.weaken (SimC.run (B' := []) gn1_ok (by decide) (un_end d1 d2 d m m) (by simp only [allC_cons, allC_nil, and_true]; exact ⟨Fm, decide_eq_false (by omega)⟩) (by decide) (q00 _) (by decide) (by simp) hgl) (fun t => .inr (by simp [mkT, tget, Tr.get_lf]))
  · simp at hG
theorem un_run (d1 d2 d : Nat → List Int) (m : Nat) : runF gn1 300 [.loop 2 unKeep 0 (.exit 0) (mkLoopN unG)] 31 [.ro 1 m (rowL d1), .ro 1 m (rowL d2), .ro 1 m (rowL d)] [] [] =
    some (.bool true, [], (LoopGood gn1 37 (.loop unBody) unKeep 0 (.exit 0) (mkLoopN unG)) :: (m = m) :: (m = m) :: unC (rowL d1) (rowL d2) (rowL d) m) :=
  run_parts (by kernel_rfl) (by kernel_rfl) (by kernel_rfl)
noncomputable def F31 : SumF := fun args B => match args, B with
  | [.ro 1 m f1, .ro 1 m2 f2, .ro 1 m3 f], [] => some { val := .sbool true, C := (m2 = m) :: (m3 = m) :: unC f1 f2 f m }
  | _, _ => none
theorem acc31 : Acc gn1 31 F31 := by
  intro args B out h hC
  unfold F31 at h
  split at h
  · rename_i m f1 m2 f2 m3 f
    simp only [Option.some.injEq] at h; subst h
    have hC2 := hC
    simp only [unC, allC_cons, allC_nil, and_true] at hC2
    obtain ⟨rfl, rfl, hf1, hf2, hf, _⟩ := hC2
    have hL := un_loop
    have hC3 := (allC_cons.1 (allC_cons.1 hC).2).2
    rw [hf1, hf2, hf] at hC3
    rw [hf1, hf2, hf]
    exact FnOk.val (v := .sbool true) (C := []) (rd := []) (FnOk.toSb (b := true) (FnOk.pure gn1_ok (un_run _ _ _ _) (allC_cons.2 ⟨hL, allC_cons.2 ⟨rfl, allC_cons.2 ⟨rfl, hC3⟩⟩⟩)) rfl) (fun _ _ _ _ h => h)
  · simp at h
/-- the document's events and the code's -/
theorem eoT_eq (d : Nat → List Int) (m : Nat) : eoT (lnL d m) = ofT d m := by
  have key : ∀ i, i ≤ m → eoH (lnL d m) i = ofH d i ∧ eoE (lnL d m) i = ofE d i := by
    intro i
    induction i with
    | zero => intro _; exact ⟨rfl, rfl⟩
    | succ i ih =>
      intro hi
      obtain ⟨h1, h2⟩ := ih (by omega)
      have e := lnL_get d (m := m) (i := i) (by omega)
      refine ⟨by simp only [eoH, ofH]; rw [h1, e], ?_⟩
      simp only [eoE, ofE]
      rw [h1, h2, e]
      simp only [List.append_assoc]
      rfl
  obtain ⟨h1, h2⟩ := key m (Nat.le_refl _)
  rw [eoT, ofT, lnL_len, h1, h2]
theorem lnL_ok {d : Nat → List Int} {m : Nat} (hl : ∀ i, i < m → (d i).length ≤ 131072) : LnC (lnL d m) := fun i hi => by
  rw [lnL_len] at hi
  rw [lnL_get d hi]
  have := hl i hi
  exact ⟨by omega, by omega⟩
end Go.Proofs.Ytejcjdhplpjpjaa
