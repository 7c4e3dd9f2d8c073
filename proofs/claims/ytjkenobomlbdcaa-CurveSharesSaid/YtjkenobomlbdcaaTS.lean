/- Accounts of this seat's functions: lemmas, no statement of their own. No conditions. -/
import Derived.Test.YtjkenobomlbdcaaTQ
namespace Go.Proofs.Ytjkenobomlbdcaa
open Go Go.Vx
abbrev InQ (N : Int) : Prop := 0 ≤ N ∧ N < Q
def LQ (L : Lz) : Prop := InQ L.a ∧ InQ L.b ∧ InQ L.c ∧ InQ L.d
theorem xA_eq {a b : Int} (ha : InQ a) (hb : InQ b) : xA a b = zA a b := by unfold xA zA hD; rw [hxL_dgQ ha, hxL_dgQ hb]
theorem xS_eq {a b : Int} (ha : InQ a) (hb : InQ b) : xS a b = zS a b := by unfold xS zS hD; rw [hxL_dgQ ha, hxL_dgQ hb]
theorem xM_eq {a b : Int} (ha : InQ a) (hb : InQ b) : xM a b = mm a b := by unfold xM mm hD; rw [hxL_dgQ ha, hxL_dgQ hb]
theorem zA_in (a b : Int) : InQ (zA a b) := modQ _
theorem zS_in (a b : Int) : InQ (zS a b) := modQ _
theorem mm_in (a b : Int) : InQ (mm a b) := modQ _
theorem stp_eq {x : Int} {L : Lz} (hx : InQ x) (h : LQ L) : stpR x L = lzStep x L := by
  obtain ⟨ha, hb, hc, hd⟩ := h
  have p := xA_eq ha hb
  have q := xS_eq ha hb
  have m := xA_eq hc hd
  have n := xS_eq hc hd
  have eP : tP L = mm (zA L.a L.b) (zA L.a L.b) := by unfold tP; rw [p]; exact xM_eq (zA_in _ _) (zA_in _ _)
  have eQ : tQ L = mm (zS L.a L.b) (zS L.a L.b) := by unfold tQ; rw [q]; exact xM_eq (zS_in _ _) (zS_in _ _)
  have eR : tR L = mm (zS L.c L.d) (zA L.a L.b) := by unfold tR; rw [n, p]; exact xM_eq (zS_in _ _) (zA_in _ _)
  have eS : tS L = mm (zA L.c L.d) (zS L.a L.b) := by unfold tS; rw [m, q]; exact xM_eq (zA_in _ _) (zS_in _ _)
  have eE : tE L = zS (mm (zA L.a L.b) (zA L.a L.b)) (mm (zS L.a L.b) (zS L.a L.b)) := by unfold tE; rw [eP, eQ]; exact xS_eq (mm_in _ _) (mm_in _ _)
  have eK : xK (tE L) = mm (zS (mm (zA L.a L.b) (zA L.a L.b)) (mm (zS L.a L.b) (zS L.a L.b))) 121665 := by rw [eE]; unfold xK mm hD; rw [hxL_dgQ (zS_in _ _)]
  have eA : xA (tR L) (tS L) = zA (mm (zS L.c L.d) (zA L.a L.b)) (mm (zA L.c L.d) (zS L.a L.b)) := by rw [eR, eS]; exact xA_eq (mm_in _ _) (mm_in _ _)
  have eD : xS (tR L) (tS L) = zS (mm (zS L.c L.d) (zA L.a L.b)) (mm (zA L.c L.d) (zS L.a L.b)) := by rw [eR, eS]; exact xS_eq (mm_in _ _) (mm_in _ _)
  unfold stpR
  rw [eA, eD, eK, eE, eP, eQ, xM_eq (mm_in _ _) (mm_in _ _), xA_eq (mm_in _ _) (mm_in _ _), xM_eq (zS_in _ _) (zA_in _ _), xM_eq (zA_in _ _) (zA_in _ _), xM_eq (zS_in _ _) (zS_in _ _), xM_eq hx (mm_in _ _)]
  rfl
theorem stp_in (x : Int) (L : Lz) : LQ (stpR x L) := ⟨modQ _, modQ _, modQ _, modQ _⟩
theorem hD_le {N : Int} (h : InQ N) : hD N ≤ Q := by unfold hD; rw [hxL_dgQ h]; omega
theorem stpC_ok {x : Int} {L : Lz} (h : LQ L) : AllC (stpC x L) := by
  obtain ⟨ha, hb, hc, hd⟩ := h
  have g : ∀ N, dGx N := fun N => DG_dg N
  have h1 := hD_le hb
  have h2 := hD_le hd
  have h3 : hD (tQ L) ≤ Q := hD_le (modQ _)
  have h4 : hD (tS L) ≤ Q := hD_le (modQ _)
  simp only [stpC, allC_cons, allC_nil, and_true]
  exact ⟨g _, g _, g _, g _, h1, g _, g _, g _, g _, h2, g _, g _, g _, g _, g _, g _, g _, g _, g _, g _, h3, g _, g _, g _, g _, h4, g _, ⟨by decide, by decide⟩, g _, g _, g _, g _, g _, g _, g _, g _, g _, g _, g _, g _⟩
def rsZ (k : Nat → Int) (x : Int) : Nat → Lz
  | 0 => ⟨1, 0, x, 1⟩
  | i + 1 => bif decide (kbZ (listF 32 k 0) (254 - (i : Int)) = 1) then sw4 (stpR x (sw4 (rsZ k x i))) else stpR x (rsZ k x i)
theorem in1 : InQ 1 := by decide
theorem in0 : InQ 0 := by decide
theorem rsZ_in (k : Nat → Int) {x : Int} (hx : InQ x) : ∀ i, LQ (rsZ k x i)
  | 0 => ⟨in1, in0, hx, in1⟩
  | i + 1 => by
    simp only [rsZ]
    cases decide (kbZ (listF 32 k 0) (254 - (i : Int)) = 1)
    · exact stp_in _ _
    · exact ⟨modQ _, modQ _, modQ _, modQ _⟩
noncomputable def rsG : LoopF := fun vals B => match vals, B with
  | [.ptr 0 0, .ptr 1 0, .ptr 2 0, .ptr 3 0, .ptr 4 0, .ptr 5 0, .ptr 6 0, .int .i64 t], [.cells ks, .cells zs, .cells xs, .cells us, .cells bs, .cells cs, .cells ds] =>
    match numsAs (List.replicate 32 .u8) ks, numsAs (List.replicate 32 .u8) zs, numsAs (List.replicate 16 .i64) xs, numsAs (List.replicate 16 .i64) us, numsAs (List.replicate 16 .i64) bs, numsAs (List.replicate 16 .i64) cs, numsAs (List.replicate 16 .i64) ds with
    | some lk, some lz, some lx, some la, some lb, some lc, some ld => some ([(4, .ptr 1 0), (6, .ptr 3 0), (7, .ptr 4 0)], rsB (atL lk) (atL lz) (hxL lx) (rsZ (atL lk) (hxL lx) 255),
        [t = 254, i16 (atL lx) = i16 (dgN (hxL lx)), i16 (atL la) = i16 (dgN 1), i16 (atL lb) = i16 (dgN 0), i16 (atL lc) = i16 (dgN (hxL lx)), i16 (atL ld) = i16 (dgN 1), InQ (hxL lx)])
    | _, _, _, _, _, _, _ => none
  | _, _ => none
theorem rs_loop : LoopGood gRh 55 (.loop rsBody) rsKeep 7 (.exit 0) (mkLoopN rsG) := by
  refine LoopGood.mkN (by decide) fun vals B S' B' C hG hC hlen w0 O hgl => ?_
  clear hlen
  unfold rsG at hG
  split at hG
  · rename_i t ks zs xs us bs cs ds
    split at hG
    · rename_i lk lz lx la lb lc ld hk hz hx ha hb hc hd
      simp only [Option.some.injEq, Prod.mk.injEq] at hG
      obtain ⟨rfl, rfl, rfl⟩ := hG
      simp only [allC_cons, allC_nil, and_true] at hC
      obtain ⟨rfl, ex, ea, eb, ec, ed, hX⟩ := hC
      have i3 : ∀ j : Nat, j < 7 → ([0, 1, 2, 3, 4, 5, 6] : List Nat)[j]? = some j := fun j hj => by
        match j, hj with
        | 0, _ => rfl
        | 1, _ => rfl
        | 2, _ => rfl
        | 3, _ => rfl
        | 4, _ => rfl
        | 5, _ => rfl
        | 6, _ => rfl
      refine SimC.preI (B1 := [.cells (b32 (atL lk)), .cells (b32 (atL lz)), .cells (i16 (atL lx)), .cells (i16 (atL la)), .cells (i16 (atL lb)), .cells (i16 (atL lc)), .cells (i16 (atL ld))]) ?_ ⟨cells_nums hk, cells_nums hz, cells_nums hx, cells_nums ha, cells_nums hb, cells_nums hc, cells_nums hd, trivial⟩
      rw [ex, ea, eb, ec, ed]
      generalize hxL lx = x at hX
      have key : SimC gRh.P w0 O 55 (.loop rsBody) (rsS (254 - ((0 : Nat) : Int))) (rsB (atL lk) (atL lz) x (rsZ (atL lk) x 0)) (.exit 0) [(4, .ptr 1 0), (6, .ptr 3 0), (7, .ptr 4 0)] (rsB (atL lk) (atL lz) x (rsZ (atL lk) x 255)) 7 := by
        refine SimC.iter (g := gRh) (e := .exit 0) (S := fun i => rsS (254 - (i : Int))) (B := fun i => rsB (atL lk) (atL lz) x (rsZ (atL lk) x i)) (N := 255) (fun i hi => ?_) ?_ (by simp) 0 (by omega)
        · have F : Fits .i64 (254 - (i : Int) - 1) := fits_of (by omega) (by omega)
          have hL := rsZ_in (atL lk) hX i
          have et : 254 - ((i + 1 : Nat) : Int) = 254 - (i : Int) - 1 := by omega
          show SimC _ _ _ _ _ (rsS (254 - (i : Int))) _ .normal (rsS (254 - ((i + 1 : Nat) : Int))) _ _
          rw [et]
          have base : ∀ b, decide (kbZ (listF 32 (atL lk) 0) (254 - (i : Int)) = 1) = b → AllC (rsC (atL lk) (254 - (i : Int)) b) ∧ AllC (rsD (atL lk) (254 - (i : Int)) b) := fun b hb => by
            simp only [rsC, rsD, allC_cons, allC_nil, and_true]
            exact ⟨⟨decide_eq_true (by omega), ⟨by omega, by omega⟩, hb⟩, ⟨by omega, by omega⟩, hb, F⟩
          cases hb : decide (kbZ (listF 32 (atL lk) 0) (254 - (i : Int)) = 1) with
          | true =>
            have e : rsZ (atL lk) x (i + 1) = sw4 (stpR x (sw4 (rsZ (atL lk) x i))) := by
              show (bif decide (kbZ (listF 32 (atL lk) 0) (254 - (i : Int)) = 1) then _ else _) = _
              rw [hb]; rfl
            rw [e]
            refine SimC.run (B' := rsB (atL lk) (atL lz) x (sw4 (stpR x (sw4 (rsZ (atL lk) x i))))) gRh_ok (by decide) (rs_go1 _ _ _ _ _) ?_ (by decide) i3 (by decide) (by simp) hgl
            rw [allC_append, allC_append]
            exact ⟨⟨(base true hb).1, stpC_ok ⟨hL.2.2.1, hL.2.2.2, hL.1, hL.2.1⟩⟩, (base true hb).2⟩
          | false =>
            have e : rsZ (atL lk) x (i + 1) = stpR x (rsZ (atL lk) x i) := by
              show (bif decide (kbZ (listF 32 (atL lk) 0) (254 - (i : Int)) = 1) then _ else _) = _
              rw [hb]; rfl
            rw [e]
            refine SimC.run (B' := rsB (atL lk) (atL lz) x (stpR x (rsZ (atL lk) x i))) gRh_ok (by decide) (rs_go0 _ _ _ _ _) ?_ (by decide) i3 (by decide) (by simp) hgl
            rw [allC_append, allC_append]
            exact ⟨⟨(base false hb).1, stpC_ok hL⟩, (base false hb).2⟩
        · exact SimC.weaken (SimC.run (B' := rsB (atL lk) (atL lz) x (rsZ (atL lk) x 255)) gRh_ok (by decide) (rs_end _ _ _ _ _) (by simp only [allC_cons, allC_nil, and_true]; exact decide_eq_false (by omega)) (by decide) i3 (by decide) (by simp) hgl) (sub_mkT (by simp; exact ⟨rfl, rfl, rfl⟩))
      exact key
    · simp at hG
  · simp at hG
abbrev rX (u : Nat → Int) : Int := leN 32 (atL (listF 32 u 0)) 0 % E255 % Q
abbrev rK (k : Nat → Int) : Nat → Int := rcN (listF 32 k 0)
abbrev rX' (u : Nat → Int) : Int := hxL (L16 (dgN (rX u)))
abbrev rEnd (k u : Nat → Int) : Lz := rsZ (atL (listF 32 (rK k) 0)) (rX' u) 255
abbrev rV (k u : Nat → Int) : Int := hD (rEnd k u).a * hxL (L16 (dgN (hD (rEnd k u).b ^ (Qn - 2) % Q))) % Q
abbrev one2 : Prop := (0 : Int) ≤ 1 ∧ (1 : Int) < 4294967296
theorem rs_run (k u : Nat → Int) : runF gRh 900 [.loop 8 rsKeep 7 (.exit 0) (mkLoopN rsG)] 22 [.agg (b32 k), .agg (b32 u)] [] [] = some (.agg (b32 (byteN (hxL (L16 (dgN (rV k u)))))), [],
    [one2, (0 : Int) ≤ 0 ∧ (0 : Int) < 4294967296, one2, LoopGood gRh 55 (.loop rsBody) rsKeep 7 (.exit 0) (mkLoopN rsG), (254 : Int) = 254, i16 (atL (L16 (dgN (rX u)))) = i16 (dgN (rX' u)), i16 (atL (L16 (dgN (1 % Q)))) = i16 (dgN 1), i16 (atL (L16 (dgN (0 % Q)))) = i16 (dgN 0), i16 (atL (L16 (dgN (rX u)))) = i16 (dgN (rX' u)), i16 (atL (L16 (dgN (1 % Q)))) = i16 (dgN 1), InQ (rX' u),
      dGx (rV k u), dGx (rEnd k u).a, dGx (hD (rEnd k u).b ^ (Qn - 2) % Q), dGx (rEnd k u).b]) :=
  run_parts (by kernel_rfl) (by kernel_rfl) (by kernel_rfl)
end Go.Proofs.Ytjkenobomlbdcaa
