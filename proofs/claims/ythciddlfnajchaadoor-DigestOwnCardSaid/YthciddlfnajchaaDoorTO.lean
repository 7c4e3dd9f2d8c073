/- Accounts of this seat's functions: lemmas, no statement of their own. No conditions. -/
import Derived.Test.YthciddlfnajchaaDoorTK
namespace Go.Proofs.Tryd
open Go Go.Vx
def fF (x : Nat → Int) (l : List Int) (o j : Nat) : Nat → (Nat → Int)
  | 0 => x
  | i + 1 => bS (fF x l o j i) i (el l o j i)
theorem zip_imp : ∀ (keep : List Nat) {vals vals' : List SV}, ImpL vals vals' → ∀ t, (∀ k ∈ keep, k < 65535) → DenImp (tget (mkT (keep.zip vals)) t) (tget (mkT (keep.zip vals')) t)
  | [], _, _, _, t, _ => by simp only [List.zip_nil_left]; exact DenImp.refl _
  | k :: ks, [], [], _, t, _ => by simp only [List.zip_nil_right]; exact DenImp.refl _
  | k :: ks, v :: vs, w :: ws, h, t, hk => by
    have h1 : tget (mkT ((k, v) :: ks.zip vs)) t = if t = k then v else tget (mkT (ks.zip vs)) t := Tr.get_set _ _ _ _ _ (hk k (by simp))
    have h2 : tget (mkT ((k, w) :: ks.zip ws)) t = if t = k then w else tget (mkT (ks.zip ws)) t := Tr.get_set _ _ _ _ _ (hk k (by simp))
    rw [List.zip_cons_cons, List.zip_cons_cons, h1, h2]
    split
    · exact h.1
    · exact zip_imp ks h.2 t fun k' h' => hk k' (by simp [h'])
theorem pw_bd {e : Int} (h : 0 ≤ e ∧ e < 256) : ∀ k, k ≤ 3 → 0 ≤ pw e k ∧ pw e k < 4294967296 := fun k hk => by
  have : pw e 0 = e := rfl
  have h1 : pw e 1 = e * 256 := rfl
  have h2 : pw e 2 = e * 256 * 256 := rfl
  have h3 : pw e 3 = e * 256 * 256 * 256 := rfl
  match k, hk with
  | 0, _ => omega
  | 1, _ => omega
  | 2, _ => omega
  | 3, _ => omega
theorem pwC_ok {e : Int} (h : 0 ≤ e ∧ e < 256) : ∀ k, k ≤ 3 → AllC (pwC e k)
  | 0, _ => by simp [pwC, AllC]
  | k + 1, hk => by
    have := pw_bd h (k + 1) hk
    exact allC_append.2 ⟨pwC_ok h k (by omega), by simp only [allC_cons, allC_nil, and_true]; exact fits_of (by omega) (by omega)⟩
theorem el_bd {l : List Int} (hl : Bytes l) (o j i : Nat) : 0 ≤ el l o j i ∧ el l o j i < 256 := hl _
theorem fF_bd {x : Nat → Int} {l : List Int} (hl : Bytes l) (o j : Nat) (hx : ∀ J, 0 ≤ x J ∧ x J < 4294967296) : ∀ i J, 0 ≤ fF x l o j i J ∧ fF x l o j i J < 4294967296 * ((i : Int) + 1)
  | 0, J => by have := hx J; simp only [fF]; omega
  | i + 1, J => by
    have h1 := fF_bd hl o j hx i J
    have h2 := fF_bd hl o j hx i (i / 4)
    have h3 := pw_bd (el_bd hl o j i) (i % 4) (by omega)
    simp only [fF, bS]
    cases Nat.beq J (i / 4) <;> simp only [cond_true, cond_false] <;> omega
theorem i4 : ∀ j : Nat, j < 4 → ([0, 1, 2, 3] : List Nat)[j]? = some j := fun j hj => by
  match j, hj with
  | 0, _ => rfl
  | 1, _ => rfl
  | 2, _ => rfl
  | 3, _ => rfl
noncomputable def fiG : LoopF := fun vals B => match vals, B with
  | [.sl 0 m o 1 j n false, .int .i64 c, .sbool b, .ptr 1 0, .ptr 2 0, .ptr 3 0, .int .i64 0], [.ints K l, .cells hs, .cells rs, .cells xs] => match sameK K .u8, numsAs (List.replicate 8 .i64) hs, numsAs (List.replicate 8 .i64) rs, numsAs (List.replicate 16 .i64) xs with
    | true, some lh, some lr, some lx => some ([(2, .int .i64 c), (3, .sbool b), (4, .ptr 1 0), (8, .ptr 2 0), (9, .ptr 3 0)], fiB l (atL lh) (atL lr) (fF (atL lx) l o j n), [n ≤ 64, o + n + j ≤ l.length, Bytes l, lx = List.replicate 16 0])
    | _, _, _, _ => none
  | _, _ => none
theorem fi_loop : LoopGood gd2 163 (.loop fiBody) fiKeep 4 (.exit 0) (mkLoopN fiG) := by
  refine LoopGood.mkN (by decide) fun vals B S' B' C hG hC hlen w0 O hgl => ?_
  clear hlen
  unfold fiG at hG
  split at hG
  · rename_i m o j n c b K l hs rs xs
    split at hG
    · rename_i lh lr lx hK hh hr hx
      obtain rfl := kidx_inj hK
      simp only [Option.some.injEq, Prod.mk.injEq] at hG
      obtain ⟨rfl, rfl, rfl⟩ := hG
      simp only [allC_cons, allC_nil, and_true] at hC
      obtain ⟨h1, h2, h3, h4⟩ := hC
      have hz : ∀ J, 0 ≤ atL lx J ∧ atL lx J < 4294967296 := fun J => by
        subst h4
        have : atL (List.replicate 16 (0 : Int)) J = 0 := by
          show (List.replicate 16 (0 : Int)).getD J 0 = 0
          rw [List.getD_eq_getElem?_getD, List.getElem?_replicate]; split <;> rfl
        rw [this]; decide
      have Fn : Fits .i64 (n : Int) := fits_of (by omega) (by omega)
      refine SimC.preI (B1 := fiB l (atL lh) (atL lr) (atL lx)) ?_ ⟨⟨BImp.refl _, fun _ h => by simp at h⟩, cells_nums hh, cells_nums hr, cells_nums hx, trivial⟩
      refine SimC.pre (S := fiKeep.zip (fiO m o j n c b 0)) ?_ (fun t => zip_imp fiKeep (vals := [.sl 0 m o 1 j n false, .int .i64 c, .sbool b, .ptr 1 0, .ptr 2 0, .ptr 3 0, .int .i64 0]) (vals' := fiO m o j n c b 0) ⟨DenImp.refl _, DenImp.refl _, DenImp.refl _, DenImp.refl _, DenImp.refl _, DenImp.refl _, DenImp.lit, trivial⟩ t (by decide))
      refine SimC.iter (g := gd2) (S := fun i => fiKeep.zip (fiO m o j n c b i)) (B := fun i => fiB l (atL lh) (atL lr) (fF (atL lx) l o j i)) (N := n) (fun i hi => ?_) ?_ (by simp) 0 (by omega)
      · have hb := fF_bd h3 o j hz i (i / 4)
        have hp := pw_bd (el_bd h3 o j i) (i % 4) (by omega)
        refine SimC.run (B' := fiB l (atL lh) (atL lr) (fF (atL lx) l o j (i + 1))) gd2_ok (by decide) (fi_go m o j n c b l _ _ _ i (by omega)) ?_ (by decide) i4 (by decide) (by simp) hgl
        simp only [fiC, allC_cons]
        exact ⟨decide_eq_true (by omega), Fn, by omega, ⟨by omega, by omega⟩, allC_append.2 ⟨pwC_ok (el_bd h3 o j i) _ (by omega), by simp only [allC_cons, allC_nil, and_true]; exact fits_of (by omega) (by omega)⟩⟩
      · exact SimC.weaken (SimC.run (B' := fiB l (atL lh) (atL lr) (fF (atL lx) l o j n)) gd2_ok (by decide) (fi_end m o j n c b l _ _ _ n) (by simp only [allC_cons, allC_nil, and_true]; exact ⟨decide_eq_false (by omega), Fn⟩) (by decide) i4 (by decide) (by simp) hgl) (sub_mkT (by simp; exact ⟨rfl, rfl, rfl, rfl, rfl⟩))
    · simp at hG
  · simp at hG
/-! ### the rounds -/
noncomputable abbrev roBody : Code := bodyAt Tryd.prog 35 23
abbrev roKeep : List Nat := [4, 8, 9, 14, 16]
abbrev roO (i : Nat) : List SV := [.ptr 0 0, .ptr 1 0, .ptr 2 0, .ptr 3 0, .lit .i64 (i : Int)]
noncomputable abbrev roB (h r m v : Nat → Int) : List Body := [.cells (a8 h), .cells (a8 r), .cells (a16 m), .cells (a16 v)]
def dV0 (v _ : Nat → Int) : Nat → Int := v
def dV1 (v X : Nat → Int) : Nat → Int := mxP 0 4 8 12 (n16 (dV0 v X)) (X 0) (X 1)
def dV2 (v X : Nat → Int) : Nat → Int := mxP 1 5 9 13 (n16 (dV1 v X)) (X 2) (X 3)
def dV3 (v X : Nat → Int) : Nat → Int := mxP 2 6 10 14 (n16 (dV2 v X)) (X 4) (X 5)
def dV4 (v X : Nat → Int) : Nat → Int := mxP 3 7 11 15 (n16 (dV3 v X)) (X 6) (X 7)
def dV5 (v X : Nat → Int) : Nat → Int := mxP 0 5 10 15 (n16 (dV4 v X)) (X 8) (X 9)
def dV6 (v X : Nat → Int) : Nat → Int := mxP 1 6 11 12 (n16 (dV5 v X)) (X 10) (X 11)
def dV7 (v X : Nat → Int) : Nat → Int := mxP 2 7 8 13 (n16 (dV6 v X)) (X 12) (X 13)
def dV8 (v X : Nat → Int) : Nat → Int := mxP 3 4 9 14 (n16 (dV7 v X)) (X 14) (X 15)
abbrev dRC (v X : Nat → Int) : List Prop := [U16 (n16 (dV0 v X)), U (X 0), U (X 1), U16 (n16 (dV1 v X)), U (X 2), U (X 3), U16 (n16 (dV2 v X)), U (X 4), U (X 5), U16 (n16 (dV3 v X)), U (X 6), U (X 7), U16 (n16 (dV4 v X)), U (X 8), U (X 9), U16 (n16 (dV5 v X)), U (X 10), U (X 11), U16 (n16 (dV6 v X)), U (X 12), U (X 13), U16 (n16 (dV7 v X)), U (X 14), U (X 15)]
abbrev rowX (m : Nat → Int) (i : Nat) : Nat → Int := atL ((rows10.getD i []).map m)
theorem ro_go (h r m v : Nat → Int) : ∀ i, i < 10 → runC gd2 3000 163 [] roBody (roKeep.zip (roO i)) (roB h r m v) roKeep [0, 1, 2, 3] = some (.normal, roO (i + 1), (roB h r m (dV8 v (rowX m i))).map some, dRC v (rowX m i))
  | 0, _ => r3_parts4 (by kernel_rfl) (by kernel_rfl) (by kernel_rfl) (by kernel_rfl)
  | 1, _ => r3_parts4 (by kernel_rfl) (by kernel_rfl) (by kernel_rfl) (by kernel_rfl)
  | 2, _ => r3_parts4 (by kernel_rfl) (by kernel_rfl) (by kernel_rfl) (by kernel_rfl)
  | 3, _ => r3_parts4 (by kernel_rfl) (by kernel_rfl) (by kernel_rfl) (by kernel_rfl)
  | 4, _ => r3_parts4 (by kernel_rfl) (by kernel_rfl) (by kernel_rfl) (by kernel_rfl)
  | 5, _ => r3_parts4 (by kernel_rfl) (by kernel_rfl) (by kernel_rfl) (by kernel_rfl)
  | 6, _ => r3_parts4 (by kernel_rfl) (by kernel_rfl) (by kernel_rfl) (by kernel_rfl)
  | 7, _ => r3_parts4 (by kernel_rfl) (by kernel_rfl) (by kernel_rfl) (by kernel_rfl)
  | 8, _ => r3_parts4 (by kernel_rfl) (by kernel_rfl) (by kernel_rfl) (by kernel_rfl)
  | 9, _ => r3_parts4 (by kernel_rfl) (by kernel_rfl) (by kernel_rfl) (by kernel_rfl)
  | i + 10, h => absurd h (by omega)
theorem ro_end (h r m v : Nat → Int) : runC gd2 3000 163 [] roBody (roKeep.zip (roO 10)) (roB h r m v) roKeep [0, 1, 2, 3] = some (.exit 6, roO 10, (roB h r m v).map some, []) :=
  r3_parts4 (by kernel_rfl) (by kernel_rfl) (by kernel_rfl) (by kernel_rfl)
theorem dV4_rd (v X : Nat → Int) : listF 16 (dV4 v X) 0 = listF 16 (rdC v X) 0 := by kernel_rfl
def dW (u X : Nat → Int) : Nat → Int := mxP 3 4 9 14 (n16 (mxP 2 7 8 13 (n16 (mxP 1 6 11 12 (n16 (mxP 0 5 10 15 (n16 u) (X 8) (X 9))) (X 10) (X 11))) (X 12) (X 13))) (X 14) (X 15)
theorem dW_rd (u X : Nat → Int) : listF 16 (dW u X) 0 = listF 16 (rdD u X) 0 := by kernel_rfl
theorem dV8_W (v X : Nat → Int) : dV8 v X = dW (dV4 v X) X := rfl
theorem rdD_75 (u X : Nat → Int) : rdD (n16 u) X = rdD u X := rfl
theorem dV_rd (v X : Nat → Int) : listF 16 (dV8 v X) 0 = listF 16 (rd v X) 0 := by
  rw [dV8_W, dW_rd, ← rdD_75]
  unfold n16
  rw [dV4_rd]
  exact congrArg (fun f => listF 16 f 0) (rdD_75 (rdC v X) X)
theorem U16_n {v : Nat → Int} (h : U16 v) : U16 (n16 v) := fun j hj => by
  have : n16 v j = v j := atLF hj
  rw [this]; exact h j hj
theorem U16_mx {a b c d : Nat} {v : Nat → Int} {x y : Int} (ha : a < 16) (hb : b < 16) (hc : c < 16) (hd : d < 16) (h : U16 v) (hx : U x) (hy : U y) : U16 (mxP a b c d v x y) := fun j hj => by
  obtain ⟨_, _, _, _, _, u1, u2, u3, u4⟩ := mix_eq (h a ha) (h b hb) (h c hc) (h d hd) hx hy
  unfold mxP
  cases Nat.beq j a with
  | true => exact u1
  | false => cases Nat.beq j b with
    | true => exact u2
    | false => cases Nat.beq j c with
      | true => exact u3
      | false => cases Nat.beq j d with
        | true => exact u4
        | false => exact h j hj
theorem dRC_ok {v X : Nat → Int} (hv : U16 v) (hX : U16 X) : AllC (dRC v X) ∧ U16 (dV8 v X) := by
  have x := fun j (hj : j < 16) => hX j hj
  have u0 : U16 (dV0 v X) := hv
  have u1 : U16 (dV1 v X) := U16_mx (by decide) (by decide) (by decide) (by decide) (U16_n u0) (x 0 (by decide)) (x 1 (by decide))
  have u2 : U16 (dV2 v X) := U16_mx (by decide) (by decide) (by decide) (by decide) (U16_n u1) (x 2 (by decide)) (x 3 (by decide))
  have u3 : U16 (dV3 v X) := U16_mx (by decide) (by decide) (by decide) (by decide) (U16_n u2) (x 4 (by decide)) (x 5 (by decide))
  have u4 : U16 (dV4 v X) := U16_mx (by decide) (by decide) (by decide) (by decide) (U16_n u3) (x 6 (by decide)) (x 7 (by decide))
  have u5 : U16 (dV5 v X) := U16_mx (by decide) (by decide) (by decide) (by decide) (U16_n u4) (x 8 (by decide)) (x 9 (by decide))
  have u6 : U16 (dV6 v X) := U16_mx (by decide) (by decide) (by decide) (by decide) (U16_n u5) (x 10 (by decide)) (x 11 (by decide))
  have u7 : U16 (dV7 v X) := U16_mx (by decide) (by decide) (by decide) (by decide) (U16_n u6) (x 12 (by decide)) (x 13 (by decide))
  have u8 : U16 (dV8 v X) := U16_mx (by decide) (by decide) (by decide) (by decide) (U16_n u7) (x 14 (by decide)) (x 15 (by decide))
  refine ⟨?_, u8⟩
  simp only [dRC, allC_cons, allC_nil, and_true]
  exact ⟨U16_n u0, x 0 (by decide), x 1 (by decide), U16_n u1, x 2 (by decide), x 3 (by decide), U16_n u2, x 4 (by decide), x 5 (by decide), U16_n u3, x 6 (by decide), x 7 (by decide), U16_n u4, x 8 (by decide), x 9 (by decide), U16_n u5, x 10 (by decide), x 11 (by decide), U16_n u6, x 12 (by decide), x 13 (by decide), U16_n u7, x 14 (by decide), x 15 (by decide)⟩
theorem map_getD {L : List Nat} {m : Nat → Int} {j : Nat} (h : j < L.length) : (L.map m).getD j 0 = m (L.getD j 0) := by
  rw [List.getD_eq_getElem?_getD, List.getD_eq_getElem?_getD, List.getElem?_map, List.getElem?_eq_getElem h]; rfl
theorem U16_row {m : Nat → Int} (h : U16 m) : ∀ i, i < 10 → U16 (rowX m i) := fun i hi j hj => by
  have hb : ∀ i, i < 10 → ∀ j, j < 16 → (rows10.getD i []).getD j 0 < 16 ∧ (rows10.getD i []).length = 16 := by decide
  obtain ⟨h1, h2⟩ := hb i hi j hj
  have : rowX m i j = m ((rows10.getD i []).getD j 0) := map_getD (by omega)
  rw [this]; exact h _ h1
def vR (v m : Nat → Int) : Nat → (Nat → Int)
  | 0 => v
  | i + 1 => dV8 (vR v m i) (rowX m i)
def sR (v m : Nat → Int) : Nat → (Nat → Int)
  | 0 => v
  | i + 1 => rd (n16 (sR v m i)) (rowX m i)
theorem sR_rds (v m : Nat → Int) : rds v m = sR v m 10 := rfl
theorem rd_n16 (v X : Nat → Int) : rd (n16 v) X = rd v X := rfl
theorem vR_sR (v m : Nat → Int) : ∀ i, listF 16 (vR v m i) 0 = listF 16 (sR v m i) 0
  | 0 => rfl
  | i + 1 => by
    have ih := vR_sR v m i
    show listF 16 (dV8 (vR v m i) (rowX m i)) 0 = listF 16 (rd (n16 (sR v m i)) (rowX m i)) 0
    rw [dV_rd, ← rd_n16 (vR v m i)]
    unfold n16
    rw [ih]
theorem vR_U {v m : Nat → Int} (hv : U16 v) (hm : U16 m) : ∀ i, i ≤ 10 → U16 (vR v m i)
  | 0, _ => hv
  | i + 1, h => (dRC_ok (vR_U hv hm i (by omega)) (U16_row hm i (by omega))).2
noncomputable def roG : LoopF := fun vals B => match vals, B with
  | [.ptr 0 0, .ptr 1 0, .ptr 2 0, .ptr 3 0, .int .i64 0], [.cells hs, .cells rs, .cells ms, .cells vs] => match numsAs (List.replicate 8 .i64) hs, numsAs (List.replicate 8 .i64) rs, numsAs (List.replicate 16 .i64) ms, numsAs (List.replicate 16 .i64) vs with
    | some lh, some lr, some lm, some lv => some ([(4, .ptr 0 0), (8, .ptr 1 0), (14, .ptr 3 0)], roB (atL lh) (atL lr) (atL lm) (vR (atL lv) (atL lm) 10), [U16 (atL lv), U16 (atL lm)])
    | _, _, _, _ => none
  | _, _ => none
theorem ro_loop : LoopGood gd2 163 (.loop roBody) roKeep 4 (.exit 6) (mkLoopN roG) := by
  refine LoopGood.mkN (by decide) fun vals B S' B' C hG hC hlen w0 O hgl => ?_
  clear hlen
  unfold roG at hG
  split at hG
  · rename_i hs rs ms vs
    split at hG
    · rename_i lh lr lm lv hh hr hm hv
      simp only [Option.some.injEq, Prod.mk.injEq] at hG
      obtain ⟨rfl, rfl, rfl⟩ := hG
      simp only [allC_cons, allC_nil, and_true] at hC
      obtain ⟨h1, h2⟩ := hC
      refine SimC.preI (B1 := roB (atL lh) (atL lr) (atL lm) (atL lv)) ?_ ⟨cells_nums hh, cells_nums hr, cells_nums hm, cells_nums hv, trivial⟩
      refine SimC.pre (S := roKeep.zip (roO 0)) ?_ (fun t => zip_imp roKeep (vals := [.ptr 0 0, .ptr 1 0, .ptr 2 0, .ptr 3 0, .int .i64 0]) (vals' := roO 0) ⟨DenImp.refl _, DenImp.refl _, DenImp.refl _, DenImp.refl _, DenImp.lit, trivial⟩ t (by decide))
      refine SimC.iter (g := gd2) (S := fun i => roKeep.zip (roO i)) (B := fun i => roB (atL lh) (atL lr) (atL lm) (vR (atL lv) (atL lm) i)) (N := 10) (fun i hi => ?_) ?_ (by simp) 0 (by omega)
      · exact SimC.run (B' := roB (atL lh) (atL lr) (atL lm) (vR (atL lv) (atL lm) (i + 1))) gd2_ok (by decide) (ro_go _ _ _ _ i hi) (dRC_ok (vR_U h1 h2 i (by omega)) (U16_row h2 i hi)).1 (by decide) i4 (by decide) (by simp) hgl
      · exact SimC.weaken (SimC.run (B' := roB (atL lh) (atL lr) (atL lm) (vR (atL lv) (atL lm) 10)) gd2_ok (by decide) (ro_end _ _ _ _) (by simp [AllC]) (by decide) i4 (by decide) (by simp) hgl) (sub_mkT (by simp; exact ⟨rfl, rfl, rfl⟩))
    · simp at hG
  · simp at hG
end Go.Proofs.Tryd

namespace Go.Proofs.Tryd
open Go Go.Vx
/-! ### the document's press -/
noncomputable abbrev prPl (b : Bool) : List Plan := [.loop 3 fiKeep 4 (.exit 0) (mkLoopN fiG), .br b, .loop 23 roKeep 4 (.exit 6) (mkLoopN roG)]
abbrev n8 (h : Nat → Int) : Nat → Int := atL (listF 8 h 0)
def mF (l : List Int) (j n : Nat) : Nat → Int := fF (atL (List.replicate 16 0)) l j 0 n
def dv0 (h : Nat → Int) (c : Int) (b : Bool) : Nat → Int := atL [n8 h 0, n8 h 1, n8 h 2, n8 h 3, n8 h 4, n8 h 5, n8 h 6, n8 h 7, 1779033703, 3144134277, 1013904242, 2773480762,
  uxor 1359893119 (c.tmod 4294967296), uxor 2600822924 ((c.tdiv 4294967296).tmod 4294967296), bif b then uxor 528734635 4294967295 else 528734635, 1541459225]
noncomputable abbrev dvT (h : Nat → Int) (l : List Int) (j n : Nat) (c : Int) (b : Bool) : Nat → Int := vR (dv0 h c b) (n16 (mF l j n)) 10
noncomputable def prD (h : Nat → Int) (l : List Int) (j n : Nat) (c : Int) (b : Bool) (i : Nat) : Int := uxor (uxor (n8 h i) (dvT h l j n c b i)) (dvT h l j n c b (8 + i))
theorem pr_false (h : Nat → Int) (l : List Int) (j n : Nat) (c : Int) : runF gd2 3000 (prPl false) 35 [.agg (a8 h), .sl 0 0 j 1 0 n false, .int .i64 c, .sbool false] [.ints .u8 l] [] =
    some (.agg (a8 (prD h l j n c false)), [some (.ints .u8 l)], [LoopGood gd2 163 (.loop fiBody) fiKeep 4 (.exit 0) (mkLoopN fiG), n ≤ 64, j + n + 0 ≤ l.length, Bytes l, List.replicate 16 (0 : Int) = List.replicate 16 0, (0 : Int) ≤ 1359893119 ∧ 0 ≤ c.tmod 4294967296, (0 : Int) ≤ 2600822924 ∧ 0 ≤ (c.tdiv 4294967296).tmod 4294967296, false = false, LoopGood gd2 163 (.loop roBody) roKeep 4 (.exit 6) (mkLoopN roG), U16 (dv0 h c false), U16 (n16 (mF l j n)), 0 ≤ uxor (n8 h 0) (dvT h l j n c false 0) ∧ 0 ≤ dvT h l j n c false 8, 0 ≤ n8 h 0 ∧ 0 ≤ dvT h l j n c false 0, 0 ≤ uxor (n8 h 1) (dvT h l j n c false 1) ∧ 0 ≤ dvT h l j n c false 9, 0 ≤ n8 h 1 ∧ 0 ≤ dvT h l j n c false 1, 0 ≤ uxor (n8 h 2) (dvT h l j n c false 2) ∧ 0 ≤ dvT h l j n c false 10, 0 ≤ n8 h 2 ∧ 0 ≤ dvT h l j n c false 2, 0 ≤ uxor (n8 h 3) (dvT h l j n c false 3) ∧ 0 ≤ dvT h l j n c false 11, 0 ≤ n8 h 3 ∧ 0 ≤ dvT h l j n c false 3, 0 ≤ uxor (n8 h 4) (dvT h l j n c false 4) ∧ 0 ≤ dvT h l j n c false 12, 0 ≤ n8 h 4 ∧ 0 ≤ dvT h l j n c false 4, 0 ≤ uxor (n8 h 5) (dvT h l j n c false 5) ∧ 0 ≤ dvT h l j n c false 13, 0 ≤ n8 h 5 ∧ 0 ≤ dvT h l j n c false 5, 0 ≤ uxor (n8 h 6) (dvT h l j n c false 6) ∧ 0 ≤ dvT h l j n c false 14, 0 ≤ n8 h 6 ∧ 0 ≤ dvT h l j n c false 6, 0 ≤ uxor (n8 h 7) (dvT h l j n c false 7) ∧ 0 ≤ dvT h l j n c false 15, 0 ≤ n8 h 7 ∧ 0 ≤ dvT h l j n c false 7]) := run_parts (by kernel_rfl) (by kernel_rfl) (by kernel_rfl)
theorem pr_true (h : Nat → Int) (l : List Int) (j n : Nat) (c : Int) : runF gd2 3000 (prPl true) 35 [.agg (a8 h), .sl 0 0 j 1 0 n false, .int .i64 c, .sbool true] [.ints .u8 l] [] =
    some (.agg (a8 (prD h l j n c true)), [some (.ints .u8 l)], [LoopGood gd2 163 (.loop fiBody) fiKeep 4 (.exit 0) (mkLoopN fiG), n ≤ 64, j + n + 0 ≤ l.length, Bytes l, List.replicate 16 (0 : Int) = List.replicate 16 0, (0 : Int) ≤ 1359893119 ∧ 0 ≤ c.tmod 4294967296, (0 : Int) ≤ 2600822924 ∧ 0 ≤ (c.tdiv 4294967296).tmod 4294967296, true = true, LoopGood gd2 163 (.loop roBody) roKeep 4 (.exit 6) (mkLoopN roG), U16 (dv0 h c true), U16 (n16 (mF l j n)), 0 ≤ uxor (n8 h 0) (dvT h l j n c true 0) ∧ 0 ≤ dvT h l j n c true 8, 0 ≤ n8 h 0 ∧ 0 ≤ dvT h l j n c true 0, 0 ≤ uxor (n8 h 1) (dvT h l j n c true 1) ∧ 0 ≤ dvT h l j n c true 9, 0 ≤ n8 h 1 ∧ 0 ≤ dvT h l j n c true 1, 0 ≤ uxor (n8 h 2) (dvT h l j n c true 2) ∧ 0 ≤ dvT h l j n c true 10, 0 ≤ n8 h 2 ∧ 0 ≤ dvT h l j n c true 2, 0 ≤ uxor (n8 h 3) (dvT h l j n c true 3) ∧ 0 ≤ dvT h l j n c true 11, 0 ≤ n8 h 3 ∧ 0 ≤ dvT h l j n c true 3, 0 ≤ uxor (n8 h 4) (dvT h l j n c true 4) ∧ 0 ≤ dvT h l j n c true 12, 0 ≤ n8 h 4 ∧ 0 ≤ dvT h l j n c true 4, 0 ≤ uxor (n8 h 5) (dvT h l j n c true 5) ∧ 0 ≤ dvT h l j n c true 13, 0 ≤ n8 h 5 ∧ 0 ≤ dvT h l j n c true 5, 0 ≤ uxor (n8 h 6) (dvT h l j n c true 6) ∧ 0 ≤ dvT h l j n c true 14, 0 ≤ n8 h 6 ∧ 0 ≤ dvT h l j n c true 6, 0 ≤ uxor (n8 h 7) (dvT h l j n c true 7) ∧ 0 ≤ dvT h l j n c true 15, 0 ≤ n8 h 7 ∧ 0 ≤ dvT h l j n c true 7]) := run_parts (by kernel_rfl) (by kernel_rfl) (by kernel_rfl)
end Go.Proofs.Tryd

namespace Go.Proofs.Tryd
open Go Go.Vx
theorem m32 : modulus .u32 = 4294967296 := rfl
theorem shl16 {c : Nat} (hc : c < 256) : c * 2 ^ 16 % 4294967296 = 2 ^ 16 * c := by
  have p : (2 : Nat) ^ 16 = 65536 := by decide
  rw [p]; exact (Nat.mod_eq_of_lt (Nat.lt_of_lt_of_le (Nat.mul_lt_mul_of_pos_right hc (by decide)) (by decide))).trans (Nat.mul_comm _ _)
theorem shl24 {c : Nat} (hc : c < 256) : c * 2 ^ 24 % 4294967296 = 2 ^ 24 * c := by
  have p : (2 : Nat) ^ 24 = 16777216 := by decide
  rw [p]; exact (Nat.mod_eq_of_lt (Nat.lt_of_lt_of_le (Nat.mul_lt_mul_of_pos_right hc (by decide)) (by decide))).trans (Nat.mul_comm _ _)
abbrev ww (a b c d : Int) : Int := a + 256 * b + 65536 * c + 16777216 * d
theorem wd_nat {a b c d : Nat} (ha : a < 256) (hb : b < 256) (hc : c < 256) (hd : d < 256) : (((a ||| b * 2 ^ 8 % 4294967296) ||| c * 2 ^ 16 % 4294967296) ||| d * 2 ^ 24 % 4294967296) = a + 256 * b + 65536 * c + 16777216 * d := by
  have p8 : (2 : Nat) ^ 8 = 256 := rfl
  have p16 : (2 : Nat) ^ 16 = 65536 := rfl
  have p24 : (2 : Nat) ^ 24 = 16777216 := rfl
  have e1 : b * 2 ^ 8 % 4294967296 = 2 ^ 8 * b := by rw [p8]; omega
  have e2 : c * 2 ^ 16 % 4294967296 = 2 ^ 16 * c := shl16 hc
  have e3 : d * 2 ^ 24 % 4294967296 = 2 ^ 24 * d := shl24 hd
  rw [e1, e2, e3, Nat.or_comm a, ← Nat.two_pow_add_eq_or_of_lt (show a < 2 ^ 8 by rw [p8]; omega), Nat.or_comm _ (2 ^ 16 * c), ← Nat.two_pow_add_eq_or_of_lt (show 2 ^ 8 * b + a < 2 ^ 16 by rw [p8, p16]; omega), Nat.or_comm _ (2 ^ 24 * d), ← Nat.two_pow_add_eq_or_of_lt (show 2 ^ 16 * c + (2 ^ 8 * b + a) < 2 ^ 24 by rw [p8, p16, p24]; omega), p8, p16, p24]
  omega
theorem wd_ww {a b c d : Int} (ha : Byte a) (hb : Byte b) (hc : Byte c) (hd : Byte d) : wd a b c d = ww a b c d := by
  obtain ⟨a, rfl⟩ := Int.eq_ofNat_of_zero_le ha.1
  obtain ⟨b, rfl⟩ := Int.eq_ofNat_of_zero_le hb.1
  obtain ⟨c, rfl⟩ := Int.eq_ofNat_of_zero_le hc.1
  obtain ⟨d, rfl⟩ := Int.eq_ofNat_of_zero_le hd.1
  have := wd_nat (a := a) (b := b) (c := c) (d := d) (by have := ha.2; omega) (by have := hb.2; omega) (by have := hc.2; omega) (by have := hd.2; omega)
  have o : ∀ x y : Nat, uor (x : Int) (y : Int) = ((x ||| y : Nat) : Int) := fun _ _ => rfl
  have e8 : ∀ x : Nat, ushl .u32 (x : Int) 8 = ((x * 2 ^ 8 % 4294967296 : Nat) : Int) := fun x => by unfold ushl; rw [m32, Int.toNat_natCast, show ((8 : Int).toNat) = 8 from rfl, Int.ofNat_eq_natCast]
  have e16 : ∀ x : Nat, ushl .u32 (x : Int) 16 = ((x * 2 ^ 16 % 4294967296 : Nat) : Int) := fun x => by unfold ushl; rw [m32, Int.toNat_natCast, show ((16 : Int).toNat) = 16 from rfl, Int.ofNat_eq_natCast]
  have e24 : ∀ x : Nat, ushl .u32 (x : Int) 24 = ((x * 2 ^ 24 % 4294967296 : Nat) : Int) := fun x => by unfold ushl; rw [m32, Int.toNat_natCast, show ((24 : Int).toNat) = 24 from rfl, Int.ofNat_eq_natCast]
  unfold wd
  rw [e8, e16, e24, o, o, o, this]
  unfold ww
  omega
/-! ### the words of a block -/
def blkF (l : List Int) (j n : Nat) (t : Nat) : Int := if t < n then l.getD (j + t) 0 else 0
theorem blkF_byte {l : List Int} (hl : Bytes l) (j n t : Nat) : Byte (blkF l j n t) := by
  unfold blkF; split
  · exact hl _
  · exact ⟨by decide, by decide⟩
def e4 (f : Nat → Int) (i J : Nat) : Int := (if 4 * J < i then f (4 * J) else 0) + (if 4 * J + 1 < i then f (4 * J + 1) * 256 else 0) + (if 4 * J + 2 < i then f (4 * J + 2) * 256 * 256 else 0) + (if 4 * J + 3 < i then f (4 * J + 3) * 256 * 256 * 256 else 0)
theorem fF_e4 {x : Nat → Int} (l : List Int) (j : Nat) (hx : ∀ J, x J = 0) : ∀ i J, fF x l j 0 i J = e4 (fun t => el l j 0 t) i J
  | 0, J => by
    simp only [fF, e4]
    rw [if_neg (by omega), if_neg (by omega), if_neg (by omega), if_neg (by omega), hx]; rfl
  | i + 1, J => by
    have ih := fF_e4 l j hx i
    simp only [fF, bS]
    cases hb : Nat.beq J (i / 4) with
    | false =>
      have hne : J ≠ i / 4 := fun h => by rw [h, Nat.beq_refl] at hb; exact Bool.noConfusion hb
      simp only [cond_false]
      rw [ih]
      unfold e4
      have h1 : (4 * J < i) = (4 * J < i + 1) := by apply propext; omega
      have h2 : (4 * J + 1 < i) = (4 * J + 1 < i + 1) := by apply propext; omega
      have h3 : (4 * J + 2 < i) = (4 * J + 2 < i + 1) := by apply propext; omega
      have h4 : (4 * J + 3 < i) = (4 * J + 3 < i + 1) := by apply propext; omega
      simp only [h1, h2, h3, h4]
    | true =>
      obtain rfl := Nat.eq_of_beq_eq_true hb
      simp only [cond_true]
      rw [ih]
      have hr : i % 4 = 0 ∨ i % 4 = 1 ∨ i % 4 = 2 ∨ i % 4 = 3 := by omega
      unfold e4
      rcases hr with hr | hr | hr | hr <;> rw [hr]
      · have hi : i = 4 * (i / 4) := by omega
        generalize i / 4 = q at *
        subst hi
        rw [if_neg (by omega), if_neg (by omega), if_neg (by omega), if_neg (by omega), if_pos (by omega), if_neg (by omega), if_neg (by omega), if_neg (by omega)]
        simp only [pw]; omega
      · have hi : i = 4 * (i / 4) + 1 := by omega
        generalize i / 4 = q at *
        subst hi
        rw [if_pos (by omega), if_neg (by omega), if_neg (by omega), if_neg (by omega), if_pos (by omega), if_pos (by omega), if_neg (by omega), if_neg (by omega)]
        simp only [pw]; omega
      · have hi : i = 4 * (i / 4) + 2 := by omega
        generalize i / 4 = q at *
        subst hi
        rw [if_pos (by omega), if_pos (by omega), if_neg (by omega), if_neg (by omega), if_pos (by omega), if_pos (by omega), if_pos (by omega), if_neg (by omega)]
        simp only [pw]; omega
      · have hi : i = 4 * (i / 4) + 3 := by omega
        generalize i / 4 = q at *
        subst hi
        rw [if_pos (by omega), if_pos (by omega), if_pos (by omega), if_neg (by omega), if_pos (by omega), if_pos (by omega), if_pos (by omega), if_pos (by omega)]
        simp only [pw]; omega
theorem zero16 (J : Nat) : atL (List.replicate 16 (0 : Int)) J = 0 := by
  show (List.replicate 16 (0 : Int)).getD J 0 = 0
  rw [List.getD_eq_getElem?_getD, List.getElem?_replicate]; split <;> rfl
theorem mW_at (b : Nat → Int) : ∀ J, J < 16 → mW b J = wd (b (4 * J)) (b (4 * J + 1)) (b (4 * J + 2)) (b (4 * J + 3))
  | 0, _ => rfl
  | 1, _ => rfl
  | 2, _ => rfl
  | 3, _ => rfl
  | 4, _ => rfl
  | 5, _ => rfl
  | 6, _ => rfl
  | 7, _ => rfl
  | 8, _ => rfl
  | 9, _ => rfl
  | 10, _ => rfl
  | 11, _ => rfl
  | 12, _ => rfl
  | 13, _ => rfl
  | 14, _ => rfl
  | 15, _ => rfl
  | J + 16, h => absurd h (by omega)
theorem mF_mW {l : List Int} (hl : Bytes l) (j n : Nat) (J : Nat) (hJ : J < 16) : mF l j n J = mW (blkF l j n) J := by
  rw [mW_at _ J hJ, wd_ww (blkF_byte hl j n _) (blkF_byte hl j n _) (blkF_byte hl j n _) (blkF_byte hl j n _)]
  unfold mF
  rw [fF_e4 l j zero16 n J]
  have hg : ∀ t, (fun t => el l j 0 t) t = el l j 0 t := fun _ => rfl
  have e : ∀ t, (if t < n then el l j 0 t else 0) = blkF l j n t := fun t => by
    unfold blkF el
    rw [show j + t + (0 + 0) = j + t by omega]
  unfold e4 ww
  rw [hg, hg, hg, hg]
  rw [← e (4 * J), ← e (4 * J + 1), ← e (4 * J + 2), ← e (4 * J + 3)]
  split <;> split <;> split <;> split <;> omega
theorem U_mW {b : Nat → Int} (hb : ∀ t, Byte (b t)) : U16 (mW b) := fun J hJ => by
  rw [mW_at _ J hJ, wd_ww (hb _) (hb _) (hb _) (hb _)]
  have h0 := hb (4 * J); have h1 := hb (4 * J + 1); have h2 := hb (4 * J + 2); have h3 := hb (4 * J + 3)
  unfold Byte at h0 h1 h2 h3
  unfold ww U
  omega
/-! ### the ten rounds look at sixteen words -/
theorem n16_congr {v v' : Nat → Int} (h : ∀ j, j < 16 → v j = v' j) : n16 v = n16 v' := by
  unfold n16; rw [listF_eq0.2 h]
theorem row_congr {m m' : Nat → Int} (h : ∀ j, j < 16 → m j = m' j) (i : Nat) : rowX m i = rowX m' i := by
  unfold rowX
  by_cases hi : i < 10
  · have hb : ∀ i, i < 10 → ∀ x ∈ rows10.getD i [], x < 16 := by decide
    rw [List.map_congr_left fun x hx => h x (hb i hi x hx)]
  · have : rows10.getD i [] = [] := by
      rw [List.getD_eq_getElem?_getD, List.getElem?_eq_none (by show 10 ≤ i; omega)]; rfl
    rw [this]; rfl
theorem sR_congr {v v' m m' : Nat → Int} (hv : ∀ j, j < 16 → v j = v' j) (hm : ∀ j, j < 16 → m j = m' j) : ∀ i, sR v m (i + 1) = sR v' m' (i + 1)
  | 0 => by
    show rd (n16 v) (rowX m 0) = rd (n16 v') (rowX m' 0)
    rw [n16_congr hv, row_congr hm]
  | i + 1 => by
    show rd (n16 (sR v m (i + 1))) (rowX m (i + 1)) = rd (n16 (sR v' m' (i + 1))) (rowX m' (i + 1))
    rw [sR_congr hv hm i, row_congr hm]
theorem rds_congr {v v' m m' : Nat → Int} (hv : ∀ j, j < 16 → v j = v' j) (hm : ∀ j, j < 16 → m j = m' j) : rds v m = rds v' m' := by
  rw [sR_rds, sR_rds, sR_congr hv hm 9]
theorem v0_congr {s s' : Nat → Int} (hs : ∀ j, j < 8 → s j = s' j) (c l : Int) : v0 s c l = v0 s' c l := by
  unfold v0
  rw [hs 0 (by decide), hs 1 (by decide), hs 2 (by decide), hs 3 (by decide), hs 4 (by decide), hs 5 (by decide), hs 6 (by decide), hs 7 (by decide)]
theorem mW_congr {b b' : Nat → Int} (h : ∀ t, t < 64 → b t = b' t) : ∀ j, j < 16 → mW b j = mW b' j := fun j hj => by
  rw [mW_at _ j hj, mW_at _ j hj, h _ (by omega), h _ (by omega), h _ (by omega), h _ (by omega)]
/-- a press looks at eight words and at a block's bytes -/
theorem prS_congr {s s' b b' : Nat → Int} (hs : ∀ j, j < 8 → s j = s' j) (hb : ∀ t, t < 64 → b t = b' t) (c l : Int) (j : Nat) (hj : j < 8) : prS s b c l j = prS s' b' c l j := by
  unfold prS
  rw [v0_congr hs, rds_congr (fun _ _ => rfl) (mW_congr hb), hs j hj]
theorem rds_U {v m : Nat → Int} (hv : U16 v) (hm : U16 m) : U16 (rds v m) := fun j hj => by
  have h := vR_sR v m 10
  rw [← sR_rds] at h
  have := listF_eq0.1 h j hj
  rw [← this]
  exact vR_U hv hm 10 (Nat.le_refl _) j hj
theorem U_cut (x : Int) : U (ucut .u32 x) := U_nat (Nat.mod_lt _ (by decide))
theorem v0_U {s : Nat → Int} (hs : ∀ j, j < 8 → U (s j)) (c : Int) {l : Int} (hl : U l) : U16 (v0 s c l) := fun j hj => by
  have k : ∀ x : Int, 0 ≤ x → x < 4294967296 → U x := fun x h1 h2 => ⟨h1, h2⟩
  match j, hj with
  | 0, _ => exact hs 0 (by decide)
  | 1, _ => exact hs 1 (by decide)
  | 2, _ => exact hs 2 (by decide)
  | 3, _ => exact hs 3 (by decide)
  | 4, _ => exact hs 4 (by decide)
  | 5, _ => exact hs 5 (by decide)
  | 6, _ => exact hs 6 (by decide)
  | 7, _ => exact hs 7 (by decide)
  | 8, _ => exact k 1779033703 (by decide) (by decide)
  | 9, _ => exact k 3144134277 (by decide) (by decide)
  | 10, _ => exact k 1013904242 (by decide) (by decide)
  | 11, _ => exact k 2773480762 (by decide) (by decide)
  | 12, _ => exact U_xor (k 1359893119 (by decide) (by decide)) (U_cut _)
  | 13, _ => exact U_xor (k 2600822924 (by decide) (by decide)) (U_cut _)
  | 14, _ => exact U_xor (k 528734635 (by decide) (by decide)) hl
  | 15, _ => exact k 1541459225 (by decide) (by decide)
  | j + 16, h => exact absurd h (by omega)
theorem prS_U {s b : Nat → Int} (hs : ∀ j, j < 8 → U (s j)) (hb : ∀ t, Byte (b t)) (c : Int) {l : Int} (hl : U l) (j : Nat) (hj : j < 8) : U (prS s b c l j) := by
  have h := rds_U (v0_U hs c hl) (U_mW hb)
  exact U_xor (hs j hj) (U_xor (h j (by omega)) (h (8 + j) (by omega)))
end Go.Proofs.Tryd

namespace Go.Proofs.Tryd
open Go Go.Vx
/-! ### the document's press: the account -/
theorem svF_congr : ∀ (ks : List IntKind) {a b : Nat → Int} (i : Nat), (∀ j, j < ks.length → a (i + j) = b (i + j)) → svF ks a i = svF ks b i
  | [], _, _, _, _ => rfl
  | k :: ks, a, b, i, h => by
    show _ :: _ = _ :: _
    have h0 := h 0 (by simp)
    rw [Nat.add_zero] at h0
    have h1 := svF_congr ks (a := a) (b := b) (i + 1) (fun j hj => by rw [show i + 1 + j = i + (j + 1) by omega]; exact h (j + 1) (by simpa using hj))
    rw [h0, h1]
theorem uxor_assoc (a b c : Int) : uxor (uxor a b) c = uxor a (uxor b c) := by
  unfold uxor
  simp only [Int.ofNat_eq_natCast, Int.toNat_natCast, Nat.xor_assoc]
theorem cut_mod {c : Int} (h : 0 ≤ c) : c.tmod 4294967296 = ucut .u32 c := by
  obtain ⟨c, rfl⟩ := Int.eq_ofNat_of_zero_le h
  rw [Int.tmod_eq_emod_of_nonneg (by omega)]
  unfold ucut
  rw [m32, Int.toNat_natCast, Int.ofNat_eq_natCast]
  omega
theorem shr_div {c : Int} (h : 0 ≤ c) : c.tdiv 4294967296 = ushr c 32 := by
  obtain ⟨c, rfl⟩ := Int.eq_ofNat_of_zero_le h
  rw [Int.tdiv_eq_ediv_of_nonneg (by omega)]
  unfold ushr
  rw [Int.toNat_natCast, show ((32 : Int).toNat) = 32 from rfl, Int.ofNat_eq_natCast, show (2 : Nat) ^ 32 = 4294967296 from rfl]
  omega
abbrev lastI (b : Bool) : Int := bif b then 4294967295 else 0
theorem dv0_v0 {h : Nat → Int} {c : Int} (hc : 0 ≤ c) (b : Bool) (j : Nat) (hj : j < 16) : dv0 h c b j = v0 h c (lastI b) j := by
  have hd : 0 ≤ c.tdiv 4294967296 := by rw [Int.tdiv_eq_ediv_of_nonneg hc]; omega
  unfold dv0
  rw [cut_mod hc, cut_mod hd, shr_div hc]
  match j, hj with
  | 0, _ => exact atLF (n := 8) (j := 0) (by decide)
  | 1, _ => exact atLF (n := 8) (j := 1) (by decide)
  | 2, _ => exact atLF (n := 8) (j := 2) (by decide)
  | 3, _ => exact atLF (n := 8) (j := 3) (by decide)
  | 4, _ => exact atLF (n := 8) (j := 4) (by decide)
  | 5, _ => exact atLF (n := 8) (j := 5) (by decide)
  | 6, _ => exact atLF (n := 8) (j := 6) (by decide)
  | 7, _ => exact atLF (n := 8) (j := 7) (by decide)
  | 8, _ => rfl
  | 9, _ => rfl
  | 10, _ => rfl
  | 11, _ => rfl
  | 12, _ => rfl
  | 13, _ => rfl
  | 14, _ => cases b <;> rfl
  | 15, _ => rfl
  | j + 16, h => exact absurd h (by omega)
theorem dvT_rds {h : Nat → Int} {l : List Int} (hl : Bytes l) (j n : Nat) {c : Int} (hc : 0 ≤ c) (b : Bool) (i : Nat) (hi : i < 16) : dvT h l j n c b i = rds (v0 h c (lastI b)) (mW (blkF l j n)) i := by
  have e := listF_eq0.1 (vR_sR (dv0 h c b) (n16 (mF l j n)) 10) i hi
  have : sR (dv0 h c b) (n16 (mF l j n)) 10 = rds (v0 h c (lastI b)) (mW (blkF l j n)) := by
    rw [← sR_rds]
    exact rds_congr (dv0_v0 hc b) fun J hJ => by
      have h1 : n16 (mF l j n) J = mF l j n J := atLF hJ
      rw [h1, mF_mW hl j n J hJ]
  rw [← this]; exact e
theorem prD_eq {h : Nat → Int} {l : List Int} (hl : Bytes l) (j n : Nat) {c : Int} (hc : 0 ≤ c) (b : Bool) (i : Nat) (hi : i < 8) : prD h l j n c b i = prS h (blkF l j n) c (lastI b) i := by
  unfold prD prS
  have h1 : n8 h i = h i := atLF hi
  rw [uxor_assoc, dvT_rds hl j n hc b i (by omega), dvT_rds hl j n hc b (8 + i) (by omega), h1]
noncomputable def F35 : SumF := fun args B => match args, B with
  | [.agg hs, .sl 0 0 j 1 0 n false, .int .i64 c, .sbool b], [.ints K l] => match numsAs (List.replicate 8 .i64) hs, sameK K .u8 with
    | some lh, true => some { val := .agg (a8 (prS (atL lh) (blkF l j n) c (lastI b))), upd := [(0, some (.ints .u8 l))], C := [n ≤ 64, j + n ≤ l.length, Bytes l, 0 ≤ c ∧ c < 9223372036854775808, ∀ i, i < 8 → U (atL lh i)] }
    | _, _ => none
  | _, _ => none
theorem acc35 : Acc gd2 35 F35 := by
  intro args B out h hC
  unfold F35 at h
  split at h
  · rename_i hs j n c b K l
    split at h
    · rename_i lh hh hK
      obtain rfl := kidx_inj hK
      simp only [Option.some.injEq] at h; subst h
      simp only [allC_cons, allC_nil, and_true] at hC
      obtain ⟨h1, h2, h3, h4, h5⟩ := hC
      have hL1 := fi_loop
      have hL2 := ro_loop
      have hm : U16 (n16 (mF l j n)) := fun J hJ => by
        have e1 : n16 (mF l j n) J = mF l j n J := atLF hJ
        rw [e1, mF_mW h3 j n J hJ]
        exact U_mW (fun t => blkF_byte h3 j n t) J hJ
      have hl : ∀ b : Bool, U (lastI b) := fun b => by cases b <;> exact ⟨by decide, by decide⟩
      have hv : ∀ b, U16 (dv0 (atL lh) c b) := fun b J hJ => by
        rw [dv0_v0 h4.1 b J hJ]; exact v0_U h5 c (hl b) J hJ
      have hT : ∀ b, U16 (dvT (atL lh) l j n c b) := fun b => vR_U (hv b) hm 10 (Nat.le_refl _)
      have h8 : ∀ i, i < 8 → U (n8 (atL lh) i) := fun i hi => by
        have e1 : n8 (atL lh) i = atL lh i := atLF hi
        rw [e1]; exact h5 i hi
      have e8 : ∀ b, a8 (prD (atL lh) l j n c b) = a8 (prS (atL lh) (blkF l j n) c (lastI b)) := fun b => svF_congr _ 0 fun i hi => by
        rw [Nat.zero_add]
        exact prD_eq h3 j n h4.1 b i (by simpa using hi)
      refine FnOk.imp (args' := [.agg (a8 (atL lh)), .sl 0 0 j 1 0 n false, .int .i64 c, .sbool b]) ?_ ⟨nums_imp hh, DenImp.refl _, DenImp.refl _, DenImp.refl _, trivial⟩
      have q := fun b (i : Nat) (hi : i < 8) => And.intro (U_xor (h8 i hi) (hT b i (by omega))).1 (hT b (8 + i) (by omega)).1
      have r := fun b (i : Nat) (hi : i < 8) => And.intro (h8 i hi).1 (hT b i (by omega)).1
      have cm : (0 : Int) ≤ c.tmod 4294967296 := by rw [cut_mod h4.1]; exact (U_cut _).1
      have cd : (0 : Int) ≤ (c.tdiv 4294967296).tmod 4294967296 := by rw [cut_mod (by rw [shr_div h4.1]; exact Int.natCast_nonneg _)]; exact (U_cut _).1
      cases b with
      | false =>
        have hr := pr_false (atL lh) l j n c
        rw [e8] at hr
        exact FnOk.val (FnOk.run (out := { val := .agg (a8 (prS (atL lh) (blkF l j n) c (lastI false))), upd := [(0, some (.ints .u8 l))] }) (new := []) gd2_ok hr (by
          simp only [allC_cons, allC_nil, and_true]
          exact ⟨hL1, h1, by omega, h3, trivial, ⟨by decide, cm⟩, ⟨by decide, cd⟩, trivial, hL2, hv false, hm, q false 0 (by decide), r false 0 (by decide), q false 1 (by decide), r false 1 (by decide), q false 2 (by decide), r false 2 (by decide), q false 3 (by decide), r false 3 (by decide), q false 4 (by decide), r false 4 (by decide), q false 5 (by decide), r false 5 (by decide), q false 6 (by decide), r false 6 (by decide), q false 7 (by decide), r false 7 (by decide)⟩) (by simp [upto]) rfl (by simp) (by simp) (fun j hj => by
          match j, hj with
          | 0, _ => rfl)) (fun _ _ _ _ d => d)
      | true =>
        have hr := pr_true (atL lh) l j n c
        rw [e8] at hr
        exact FnOk.val (FnOk.run (out := { val := .agg (a8 (prS (atL lh) (blkF l j n) c (lastI true))), upd := [(0, some (.ints .u8 l))] }) (new := []) gd2_ok hr (by
          simp only [allC_cons, allC_nil, and_true]
          exact ⟨hL1, h1, by omega, h3, trivial, ⟨by decide, cm⟩, ⟨by decide, cd⟩, trivial, hL2, hv true, hm, q true 0 (by decide), r true 0 (by decide), q true 1 (by decide), r true 1 (by decide), q true 2 (by decide), r true 2 (by decide), q true 3 (by decide), r true 3 (by decide), q true 4 (by decide), r true 4 (by decide), q true 5 (by decide), r true 5 (by decide), q true 6 (by decide), r true 6 (by decide), q true 7 (by decide), r true 7 (by decide)⟩) (by simp [upto]) rfl (by simp) (by simp) (fun j hj => by
          match j, hj with
          | 0, _ => rfl)) (fun _ _ _ _ d => d)
    · simp at h
  · simp at h
noncomputable abbrev gd3 : Ctx := g1.add [(35, F35)]
theorem gd3_ok : CtxU gd3 := g1_ok.add mixed noGo (by
  intro x hx
  simp only [List.mem_cons, List.not_mem_nil, or_false] at hx
  rcases hx with rfl
  exact Acc.of (g := gd2) rfl rfl acc35)
end Go.Proofs.Tryd
