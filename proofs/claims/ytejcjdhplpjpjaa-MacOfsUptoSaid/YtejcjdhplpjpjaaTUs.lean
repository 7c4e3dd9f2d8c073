/- Accounts of this seat's functions: lemmas, no statement of their own. No conditions. -/
import Derived.Test.YtejcjdhplpjpjaaTUr
namespace Go.Proofs.Ytejcjdhplpjpjaa
open Go Go.Vx
/-! ### MacOfs -/
theorem first_or (p : Nat → Bool) : ∀ m, (∀ j, j < m → p j = false) ∨ ∃ i, i < m ∧ p i = true ∧ ∀ j, j < i → p j = false
  | 0 => .inl fun j hj => absurd hj (Nat.not_lt_zero j)
  | m + 1 => by
    rcases first_or p m with h | ⟨i, h1, h2, h3⟩
    · cases hp : p m with
      | false => left; intro j hj; rcases Nat.lt_or_ge j m with h4 | h4
                 · exact h j h4
                 · rw [show j = m by omega]; exact hp
      | true => exact .inr ⟨m, by omega, hp, h⟩
    · exact .inr ⟨i, by omega, h2, h3⟩
noncomputable abbrev fsR3 : Code := match dropSeq 2 fsC with | .seq a _ => a | _ => .skip
noncomputable abbrev fsOps : Array Oper := regOps fsR3
theorem fs_3 : dropSeq 2 fsC = .seq (.region 3 fsOps false) (dropSeq 3 fsC) := by kernel_rfl
theorem fs_two {W : World} {OW : Go.Vx.Own} (m : Nat) (d : Nat → List Int) (k : Nat → Int) (hm : m ≤ 1000) (hl : ∀ i, i < m → (d i).length ≤ 131072) {a : Act} {w : World} (h : StG gX W OW 87 (fsS0 m d) (fsB k) a w) {Q : Exit → Act → World → Prop}
    (hQ : ∀ a' w', StG gX W OW 87 (fsS1 W.heap.size m d (dW d m) (dL d m)) (fsB k) a' w' → Q .normal a' w') : (Code.region 3 fsOps false).wp gX.P Q a w := by
  refine StG.two (q := W.heap.size) (S' := fsS1 W.heap.size m d (dW d m) (dL d m)) (x := 1) (t1 := 16) (t2 := 17) (t3 := 15) (t4 := 18) (t5 := 19) (t6 := 5) (t7 := 6) (f := 27) (fn := Try.f27) (c := tiC) (sz2 := 1) (n2 := m) (F := rowL d) (S0 := [(0, .ro 1 m (rowL d))])
    (o0 := fsOps[0]!) (o1 := fsOps[1]!) (o2 := fsOps[2]!) (o3 := fsOps[3]!) (o4 := fsOps[4]!) (o5 := fsOps[5]!) (o6 := fsOps[6]!) (by kernel_rfl) (by kernel_rfl) (by kernel_rfl) (by kernel_rfl) (by kernel_rfl) (by kernel_rfl) (by kernel_rfl)
    ⟨by kernel_rfl, by kernel_rfl, by kernel_rfl, by kernel_rfl, by kernel_rfl, by kernel_rfl, by kernel_rfl⟩ ⟨by kernel_rfl, by kernel_rfl, by kernel_rfl, by kernel_rfl, by kernel_rfl, by kernel_rfl, by kernel_rfl⟩ (by decide) (by decide) gX_ok Try.func27 rfl (by decide) (by decide) rfl
    (fun T hT => (show calleeV gX T (fsOps[1]!).op = some (27, [T 16]) by kernel_rfl).trans (by rw [hT])) (fun y hy => ?_) (fun W' OW' hq ho hG a w h => ti_callee W.heap.size d m hm hl W' OW' hq ho hG a w h) (Nat.le_refl _) rfl h (fun t => ?_) hQ
  · rw [show (fsOps[1]!).op.operands = #[.func 27, .tmp 16] by kernel_rfl] at hy
    simp at hy
    rcases hy with rfl | rfl
    · exact .inr ⟨_, rfl⟩
    · exact .inl rfl
  · rcases tget_mkT (fsS1 W.heap.size m d (dW d m) (dL d m)) t (by simp) with e | ⟨y, h1, h2, h3⟩
    · exact .inl e
    · right
      rw [h3]
      simp at h1
      rcases h1 with rfl | rfl | rfl | rfl <;> (simp only at h2; subst h2; rfl)
theorem xZ_same {d e : Nat → List Int} (h : ∀ j, (e j).length = (d j).length) : ∀ m, (xZ e m).length = (xZ d m).length
  | 0 => rfl
  | m + 1 => by simp only [xZ, List.length_append]; rw [xZ_same h m, h m]
theorem ofs_ok (k : Nat → Int) (m : Nat) (d : Nat → List Int) (Fm : Fits .i64 (m : Int)) (hff : ∀ i, i < m → factsC (rowL d i)) (hLB : LB d m) :
    FnOk gX 8 [.agg (svF (List.replicate 32 .u8) k 0), .ro 1 m (rowL d)] [] { val := .bool true } := by
  have hc : AllC (lC (rowL d) m) := by
    simp only [lC, allC_cons, allC_nil, and_true]; exact ⟨rfl, Fm, hLB⟩
  by_cases hX : 400 < m ∨ stp d m < m
  · exact FnOk.pure gX_ok (fs_run2 m d k) (allC_append.2 ⟨hc, by simp only [allC_cons, allC_nil, and_true]; exact decide_eq_true hX⟩)
  · have hm : m ≤ 400 := by omega
    have hs : stp d m = m := by have := stp_le d m; omega
    have hl : ∀ i, i < m → (d i).length ≤ 131072 := fun i hi => by
      have := stp_lt (d := d) (m := m) (i := i) (by omega); omega
    have hx : (xZ d m).length ≤ 131072 := xZ_len (d := d) (m := m) m (by omega)
    have hd : ∀ i, i < m → dL d m i = d i := fun i hi => llL_get d hi
    have hw : ∀ i, i < m → dW d m i = roomL (d i) := fun i hi => wlL_get d hi
    refine FnOk.ofSb (b := true) (FnOk.ofG (t := 4) (fn := Try.f8) (c := fsC) (S := [(0, .agg (svF (List.replicate 32 .u8) k 0)), (1, .ro 1 m (rowL d))]) gX_ok Try.func8 rfl (by decide) (by show 2 ≤ _; decide) rfl rfl sbool_all fun W OW hG0 a w h => ?_) rfl
    have h : StG gX W OW 87 [(0, .agg (svF (List.replicate 32 .u8) k 0)), (1, .ro 1 m (rowL d))] [] a w := h
    refine StG.cut (k := 2) h gX_ok (by decide) (fs_pre m d k) (allC_append.2 ⟨hc, by simp only [allC_cons, allC_nil, and_true]; exact decide_eq_false hX⟩) (by decide) (by decide) (by simp) fun a w h => ?_
    rw [fs_3]
    refine wp_seq (fs_two m d k (by omega) hl h fun a w h => ?_)
    show (dropSeq 3 fsC).wp _ _ a w
    have ex : xZ (dL d m) m = xZ d m := xZ_cg hd
    have eT : ofT (dL d m) m = ofT d m := ofT_cg hd
    have hln := lnL_ok hl
    have hlT := eoT_len (L := lnL d m) (by rw [lnL_len]; omega) hln
    rw [eoT_eq] at hlT
    have hpC : AllC (pC (rowL d) m) := by
      simp only [pC, allC_cons, allC_nil, and_true]; exact ⟨rfl, by omega, hl⟩
    have hU : AllC (unC (rowL (dW d m)) (rowL (dL d m)) (rowL d) m) := by
      simp only [unC, allC_cons, allC_nil, and_true]
      exact ⟨rfl, rfl, rfl, by omega, hl, fun i hi => hw i hi, fun i hi => by show (dL d m i).length = _; rw [hd i hi]; rfl⟩
    have eE : fsE (dL d m) m = ofT d m := by rw [fsE, List.nil_append, eT]
    have eD : ∀ x : List Int, DT (kk k) x = wantL k x := fun x => by unfold DT wantL; rw [kk_kk]
    refine StG.cut (k := 5) h gX_ok (by decide) (fs_mid W.heap.size m d (dW d m) (dL d m) k) ?_ (by decide) (by decide) (by simp) fun a w h => ?_
    · refine allC_append.2 ⟨?_, allC_append.2 ⟨?_, allC_append.2 ⟨hpC, allC_append.2 ⟨?_, allC_append.2 ⟨hpC, allC_append.2 ⟨?_, allC_append.2 ⟨hU, ?_⟩⟩⟩⟩⟩⟩⟩
      · simp only [olC, allC_cons, allC_nil, and_true]
        refine ⟨rfl, by omega, fun i hi => ?_, fun i hi => ?_, by simp⟩
        · show (dL d m i).length ≤ 131072
          rw [hd i hi]; exact hl i hi
        · show factsC (.roi .u8 (dL d m i))
          rw [hd i hi]; exact hff i hi
      · simp only [allC_cons, allC_nil, and_true]; exact ⟨trivial, by omega⟩
      · simp only [allC_cons, allC_nil, and_true]; exact ⟨by rw [lnL_len]; omega, hln⟩
      · simp only [allC_cons, allC_nil, and_true, eE]
        rw [eoT_eq]
        exact ⟨rfl, by omega, by omega, rfl⟩
      · simp only [allC_cons, allC_nil, and_true]
        refine ⟨?_, rfl⟩
        show (!decide (listF 16 (atL (DT (kk k) (xZ (dL d m) m))) 0 = _)) = false
        rw [ex, eD, decide_eq_true rfl]; rfl
    · show (dropSeq 8 fsC).wp _ _ a w
      rw [fs_8]
      refine wp_seq (wp_seq ?_)
      refine StG.run h gX_ok (by decide) (fs_r10 W.heap.size m (dL d m) k _) (by simp [AllC]) (by decide) (by decide) (by simp) fun a w h => ?_
      show (Code.block 0 (.loop fsL)).wp _ _ a w
      refine wp_block ?_
      have h := StG.pre h (fun t => zip_norm fsKeep _ t (by decide))
      have h : StG gX W OW 87 (fsS W.heap.size m (dL d m) 0) (fsD k (atL (wantL k (xZ d m)))) a w := h
      have go : ∀ i, i < m → (dL d m i).length = 0 → ∀ a w, StG gX W OW 87 (fsS W.heap.size m (dL d m) i) (fsD k (atL (wantL k (xZ d m)))) a w → ∀ Q' : Exit → Act → World → Prop,
          (∀ a' w', StG gX W OW 87 (fsS W.heap.size m (dL d m) (i + 1)) (fsD k (atL (wantL k (xZ d m)))) a' w' → Q' .normal a' w') → fsL.wp gX.P Q' a w := fun i hi h0 a w h Q' hq => by
        refine StG.run h gX_ok (by decide) (fs_go W.heap.size m i (dL d m) k _) ?_ (by decide) (by decide) (by simp) fun a w h => hq a w h
        have e : ((dL d m (i : Int).toNat).length : Int) = 0 := by
          show (((dL d m i).length : Nat) : Int) = 0
          rw [h0]; rfl
        simp only [allC_cons, allC_nil, and_true]
        rw [e]
        exact ⟨Fm, decide_eq_true (by omega), fits_of (by omega) (by omega), ⟨by omega, by omega⟩, rfl, fits_of (by omega) (by omega)⟩
      rcases first_or (fun i => decide (0 < (dL d m i).length)) m with hno | ⟨i, hi, hp, hpre⟩
      · refine StG.iter (S := fun i => fsS W.heap.size m (dL d m) i) (B := fun _ => fsD k (atL (wantL k (xZ d m)))) (N := m) (fun i hi a w h Q' hq => go i hi (by have := of_decide_eq_false (hno i hi); omega) a w h Q' hq) (fun a w h => ?_) 0 (Nat.zero_le _) a w h
        refine StG.run h gX_ok (by decide) (fs_end W.heap.size m m (dL d m) k _) (by simp only [allC_cons, allC_nil, and_true]; exact ⟨Fm, decide_eq_false (by omega)⟩) (by decide) (by decide) (by simp) fun a w h => ?_
        simp only [Ex.up, Exit.then, Exit.inBlock, if_true]
        exact StG.run h gX_ok (by decide) (fs_r18 W.heap.size m (dL d m) m k _) (by simp [AllC]) (by decide) (by decide) (by simp) fun a w h => ⟨rfl, _, _, h, rfl⟩
      · have hp := of_decide_eq_true hp
        refine StG.iter (S := fun i => fsS W.heap.size m (dL d m) i) (B := fun _ => fsD k (atL (wantL k (xZ d m)))) (N := i) (fun j hj a w h Q' hq => go j (by omega) (by have := of_decide_eq_false (hpre j hj); omega) a w h Q' hq) (fun a w h => ?_) 0 (Nat.zero_le _) a w h
        have hli : (dL d m i).length ≤ 131072 := by rw [hd i hi]; exact hl i hi
        rw [fsL_eq]
        refine wp_seq (StG.run h gX_ok (by decide) (fs_r11 W.heap.size m i (dL d m) k _) (by simp only [allC_cons, allC_nil, and_true]; exact ⟨Fm, decide_eq_true (by omega)⟩) (by decide) (by decide) (by simp) fun a w h => ?_)
        show (Code.seq (.block 1 (.seq fs13 (.cond (.tmp 60) (.seq fs14 fs15) .skip))) fs12).wp _ _ a w
        refine wp_seq (wp_block (wp_seq ?_))
        refine StG.run h gX_ok (by decide) (fs_r13 W.heap.size m i (dL d m) k _) ?_ (by decide) (by decide) (by simp) fun a w h => ?_
        · simp only [allC_cons, allC_nil, and_true]
          exact ⟨by show Fits .i64 (((dL d m i).length : Nat) : Int); exact fits_of (by omega) (by omega), by omega, by omega⟩
        · show (Code.cond (.tmp 60) (.seq fs14 fs15) .skip).wp _ _ a w
          have hv : a.eval (.tmp 60) = .bool true := by
            obtain ⟨w0, O, ρ, Φ, _, _, r, _⟩ := h
            have h60 := r.tmps 60
            have e60 : tget (mkT ([2, 6, 9, 11, 60].zip (fsO W.heap.size m (dL d m) (i : Int) ++ [.sbool (decide ((0 : Int) < ((dL d m (i : Int).toNat).length : Int)))]))) 60 = .sbool (decide ((0 : Int) < ((dL d m (i : Int).toNat).length : Int))) := rfl
            rw [e60] at h60
            obtain ⟨h1, _⟩ := denV_cell h60 (by simp) rfl
            simp only [DenC] at h1
            have e : decide ((0 : Int) < ((dL d m (i : Int).toNat).length : Int)) = true := decide_eq_true (by show (0 : Int) < (((dL d m i).length : Nat) : Int); omega)
            rw [e] at h1
            exact (List.cons.inj h1).1
          refine wp_cond hv ?_
          rw [if_pos rfl]
          refine wp_seq (fs_poke hG0 (Nat.le_refl _) hi hp (S := [2, 6, 9, 11, 60].zip (fsO W.heap.size m (dL d m) (i : Int) ++ [.sbool (decide ((0 : Int) < ((dL d m (i : Int).toNat).length : Int)))])) rfl rfl rfl rfl h fun e a w he hf h => ?_)
          show fs15.wp _ _ a w
          have hle : ∀ j, j < m → (e j).length ≤ 131072 := fun j hj => by rw [he, hd j hj]; exact hl j hj
          have hxe : (xZ e m).length ≤ 131072 := by rw [xZ_same he m, ex]; exact hx
          have hpe : AllC (pC (rowL e) m) := by
            simp only [pC, allC_cons, allC_nil, and_true]; exact ⟨rfl, by omega, hle⟩
          refine StG.run h gX_ok (by decide) (fs_r15 m e k _) ?_ (by decide) (by decide) (by simp) fun a w h => ⟨rfl, _, _, h, rfl⟩
          refine allC_append.2 ⟨?_, allC_append.2 ⟨?_, allC_append.2 ⟨hpe, ?_⟩⟩⟩
          · simp only [oC, lC, allC_append, allC_cons, allC_nil, and_true]
            exact ⟨⟨rfl, Fm, fun j hj => by have := hle j hj; show (e j).length ≤ _; omega⟩, fun j hj => hf j hj⟩
          · simp only [allC_cons, allC_nil, and_true]; exact ⟨trivial, by omega⟩
          · simp only [allC_cons, allC_nil, and_true]
            rw [eD]
            exact decide_eq_true rfl
end Go.Proofs.Ytejcjdhplpjpjaa
