/- Accounts of this seat's functions: lemmas, no statement of their own. No conditions. -/
import Derived.Test.YtejcjdhplpjpjaaTUj
import Derived.Test.YtejcjdhplpjpjaaV5
namespace Go.Proofs.Ytejcjdhplpjpjaa
open Go Go.Vx
/-! ### twins -/
noncomputable abbrev gW : Ctx := gV.add [(23, oneOf F23 F23r), (28, F28), (30, F30), (29, F29), (32, F32), (31, F31)]
theorem gW_ok : CtxU gW := gV_ok.add mixed noGo (by
  intro x hx
  simp only [List.mem_cons, List.not_mem_nil, or_false] at hx
  rcases hx with rfl | rfl | rfl | rfl | rfl | rfl
  · exact Acc.of (g := gn) rfl rfl (acc_one acc23 acc23r)
  · exact Acc.of (g := gn) rfl rfl acc28
  · exact Acc.of (g := gn) rfl rfl acc30
  · exact Acc.of (g := geo) rfl rfl acc29
  · exact Acc.of (g := geo1) rfl rfl acc32
  · exact Acc.of (g := gn1) rfl rfl acc31)
noncomputable abbrev tiC : Code := match Try.f27.body with | some c => c | none => .skip
noncomputable abbrev tiL : Code := bodyAt Try.prog 27 4
noncomputable abbrev ti1 : Code := match tiL with | .seq a _ => a | _ => .skip
noncomputable abbrev ti6 : Code := match tiL with | .seq _ (.seq (.block _ (.seq a _)) _) => a | _ => .skip
noncomputable abbrev ti78 : Code := match tiL with | .seq _ (.seq (.block _ (.seq _ a)) _) => a | _ => .skip
noncomputable abbrev ti5 : Code := match tiL with | .seq _ (.seq _ a) => a | _ => .skip
noncomputable abbrev ti3 : Code := match dropSeq 3 tiC with | .seq (.seq a _) _ => a | _ => .skip
theorem tiL_eq : tiL = .seq ti1 (.seq (.block 1 (.seq ti6 ti78)) ti5) := by kernel_rfl
theorem ti_3 : dropSeq 3 tiC = .seq (.seq ti3 (.block 0 (.loop tiL))) (dropSeq 4 tiC) := by kernel_rfl
abbrev tiKeep : List Nat := [0, 4, 5, 6]
noncomputable abbrev tiO (d : Nat → List Int) (m : Nat) (i : Int) : List SV := [.ro 1 m (rowL d), .own 0, .own 1, .int .i64 i]
noncomputable abbrev tiS (d : Nat → List Int) (m i : Nat) : List (Nat × SV) := tiKeep.zip (tiO d m (i : Int))
abbrev tiB (w l : List (List Int)) : List Body := [.lists .u8 w, .lists .u8 l]
abbrev roF (e : List Int) : List Int := ((roomL e).drop (0 + 0)).take (e.length + 70)
abbrev llF (e w : List Int) : List Int := (w.drop (0 : Int).toNat).take ((e.length : Int).toNat - (0 : Int).toNat)
theorem roF_eq (e : List Int) : roF e = roomL e := by
  show ((roomL e).drop (0 + 0)).take (e.length + 70) = _
  rw [Nat.add_zero, List.drop_zero, List.take_of_length_le (by rw [roomL_len]; exact Nat.le_refl _)]
theorem llF_eq (e : List Int) : llF e (roF e) = e := by
  rw [roF_eq]
  show ((roomL e).drop ((0 : Int)).toNat).take ((e.length : Int).toNat - (0 : Int).toNat) = e
  rw [show ((0 : Int)).toNat = 0 from rfl, Nat.sub_zero, List.drop_zero, Int.toNat_natCast]
  refine extI (by rw [List.length_take, roomL_len]; omega) fun j hj => ?_
  rw [List.length_take, roomL_len] at hj
  have hj2 : j < e.length := by omega
  rw [List.getD_eq_getElem?_getD, List.getElem?_take, if_pos hj2, ← List.getD_eq_getElem?_getD, roomL_get e (by omega), if_pos hj2]
theorem ti_r1 (d : Nat → List Int) (m i : Nat) (w l : List (List Int)) : runC gW 300 35 [.br true] ti1 (tiS d m i) (tiB w l) tiKeep [0, 1] =
    some (.normal, tiO d m (i : Int), (tiB w l).map some, [Fits .i64 (m : Int), decide ((i : Int) < (m : Int)) = true]) :=
  r3_parts4 (by kernel_rfl) (by kernel_rfl) (by kernel_rfl) (by kernel_rfl)
theorem ti_end (d : Nat → List Int) (m i : Nat) (w l : List (List Int)) : runC gW 300 35 [.br false] tiL (tiS d m i) (tiB w l) tiKeep [0, 1] =
    some (.exit 0, tiO d m (i : Int), (tiB w l).map some, [Fits .i64 (m : Int), decide ((i : Int) < (m : Int)) = false]) :=
  r3_parts4 (by kernel_rfl) (by kernel_rfl) (by kernel_rfl) (by kernel_rfl)
theorem ti_r6 (d : Nat → List Int) (m i : Nat) (w l : List (List Int)) : runC gW 300 35 [] ti6 (tiS d m i) (tiB w l) [0, 4, 5, 6, 7] [0, 1, 2] =
    some (.normal, tiO d m (i : Int) ++ [.sl 2 ((d i).length + 70) 0 1 0 ((d i).length + 70) false], (tiB w l ++ [Body.ints .u8 (roomL (d i))]).map some, [(d i).length ≤ 1000000000, (0 : Int) ≤ (i : Int) ∧ (i : Int) < (m : Int)]) :=
  r3_parts4 (by kernel_rfl) (by kernel_rfl) (by kernel_rfl) (by kernel_rfl)
theorem ti_r78 (d : Nat → List Int) (m i : Nat) (w l : List (List Int)) (e : List Int) : runC gW 300 35 [] ti78 ([0, 4, 5, 6, 7].zip (tiO d m (i : Int) ++ [.roi .u8 e])) (tiB w l) tiKeep [3, 5] =
    some (.normal, tiO d m (i : Int), (tiB (w ++ [e]) (l ++ [llF (d i) e])).map some, [(w ++ [e]).length * 24 ≤ 2 ^ 47, (l ++ [llF (d i) e]).length * 24 ≤ 2 ^ 47, (0 : Int) ≤ 0 ∧ (0 : Int) ≤ ((d i).length : Int) ∧ ((d i).length : Int) ≤ (e.length : Int), Fits .i64 ((d i).length : Int), (0 : Int) ≤ (i : Int) ∧ (i : Int) < (m : Int)]) :=
  r3_parts4 (by kernel_rfl) (by kernel_rfl) (by kernel_rfl) (by kernel_rfl)
theorem ti_r5 (d : Nat → List Int) (m i : Nat) (w l : List (List Int)) : runC gW 300 35 [] ti5 (tiS d m i) (tiB w l) tiKeep [0, 1] =
    some (.normal, tiO d m ((i : Int) + 1), (tiB w l).map some, [Fits .i64 ((i : Int) + 1)]) :=
  r3_parts4 (by kernel_rfl) (by kernel_rfl) (by kernel_rfl) (by kernel_rfl)
theorem ti_pre (d : Nat → List Int) (m : Nat) : runC gW 300 35 [] (takeSeq 3 tiC) [(0, .ro 1 m (rowL d))] [] [0, 4, 5] [] =
    some (.normal, [.ro 1 m (rowL d), .raw (.slice none 0 0), .raw (.slice none 0 0)], ([] : List Body).map some, []) :=
  r3_parts4 (by kernel_rfl) (by kernel_rfl) (by kernel_rfl) (by kernel_rfl)
theorem ti_r3 (d : Nat → List Int) (m : Nat) : runC gW 300 35 [] ti3 ([0, 4, 5].zip [.ro 1 m (rowL d), .raw (.slice none 0 0), .raw (.slice none 0 0)]) [] tiKeep [] =
    some (.normal, [.ro 1 m (rowL d), .raw (.slice none 0 0), .raw (.slice none 0 0), .lit .i64 0], ([] : List Body).map some, []) :=
  r3_parts4 (by kernel_rfl) (by kernel_rfl) (by kernel_rfl) (by kernel_rfl)
theorem ti_post (n n' : Nat) (f f' : Nat → SV) : runC gW 300 35 [] (dropSeq 4 tiC) ([4, 5].zip [.ro 1 n f, .ro 1 n' f']) [] [2, 3] [] =
    some (.ret, [.ro 1 n f, .ro 1 n' f'], ([] : List Body).map some, []) :=
  r3_parts4 (by kernel_rfl) (by kernel_rfl) (by kernel_rfl) (by kernel_rfl)
def wlL (d : Nat → List Int) : Nat → List (List Int)
  | 0 => []
  | i + 1 => wlL d i ++ [roF (d i)]
def llL (d : Nat → List Int) : Nat → List (List Int)
  | 0 => []
  | i + 1 => llL d i ++ [llF (d i) (roF (d i))]
theorem wlL_len (d : Nat → List Int) : ∀ i, (wlL d i).length = i
  | 0 => rfl
  | i + 1 => by simp [wlL, wlL_len d i]
theorem llL_len (d : Nat → List Int) : ∀ i, (llL d i).length = i
  | 0 => rfl
  | i + 1 => by simp [llL, llL_len d i]
theorem wlL_get (d : Nat → List Int) : ∀ {m i : Nat}, i < m → (wlL d m).getD i [] = roomL (d i)
  | m + 1, i, h => by
    simp only [wlL]
    rw [List.getD_eq_getElem?_getD]
    by_cases c : i < m
    · rw [List.getElem?_append_left (by rw [wlL_len]; exact c), ← List.getD_eq_getElem?_getD]
      exact wlL_get d c
    · have e : i = m := by omega
      subst e
      rw [List.getElem?_append_right (by rw [wlL_len]; exact Nat.le_refl _), wlL_len]
      simp [roF_eq]
theorem llL_get (d : Nat → List Int) : ∀ {m i : Nat}, i < m → (llL d m).getD i [] = d i
  | m + 1, i, h => by
    simp only [llL]
    rw [List.getD_eq_getElem?_getD]
    by_cases c : i < m
    · rw [List.getElem?_append_left (by rw [llL_len]; exact c), ← List.getD_eq_getElem?_getD]
      exact llL_get d c
    · have e : i = m := by omega
      subst e
      rw [List.getElem?_append_right (by rw [llL_len]; exact Nat.le_refl _), llL_len, llF_eq]
      simp
noncomputable abbrev dW (d : Nat → List Int) (m : Nat) : Nat → List Int := fun j => (wlL d m).getD j []
noncomputable abbrev dL (d : Nat → List Int) (m : Nat) : Nat → List Int := fun j => (llL d m).getD j []
theorem ti_callee (d : Nat → List Int) (m : Nat) (hm : m ≤ 1000) (hl : ∀ i, i < m → (d i).length ≤ 131072) (W : World) (OW : Go.Vx.Own) (_ : GlobOk gW W OW) (a : Act) (w : World) (h : StG gW W OW Try.f27.ntmps [(0, .ro 1 m (rowL d))] [] a w) :
    tiC.wp gW.P (fun e a' w' => e = .ret ∧ ∃ S' B', StG gW W OW Try.f27.ntmps S' B' a' w' ∧ retV gW.P (BH B') (mkT S') Try.f27.results.toList = some [.ro 1 m (rowL (dW d m)), .ro 1 m (rowL (dL d m))]) a w := by
  have Fm : Fits .i64 (m : Int) := fits_of (by omega) (by omega)
  have h : StG gW W OW 35 [(0, .ro 1 m (rowL d))] [] a w := h
  refine StG.cut (k := 3) h gW_ok (by decide) (ti_pre d m) (by simp [AllC]) (by decide) (by decide) (by simp) fun a w h => ?_
  rw [ti_3]
  refine wp_seq (wp_seq ?_)
  refine StG.run h gW_ok (by decide) (ti_r3 d m) (by simp [AllC]) (by decide) (by decide) (by simp) fun a w h => ?_
  show (Code.block 0 (.loop tiL)).wp _ _ a w
  refine wp_block ?_
  have h := StG.pre h (fun t => zip_norm tiKeep _ t (by decide))
  have h := StG.adopt h (.lists .u8 []) 4 rfl rfl (by simp [normL]) (by simp [normL])
  have h : StG gW W OW 35 (tiKeep.zip [.ro 1 m (rowL d), .own 0, .raw (.slice none 0 0), .int .i64 0]) [.lists .u8 []] a w := h
  have h := StG.adopt h (.lists .u8 []) 5 rfl rfl (by simp) (by simp)
  have h : StG gW W OW 35 (tiS d m 0) (tiB (wlL d 0) (llL d 0)) a w := h
  refine StG.iter (S := fun i => tiS d m i) (B := fun i => tiB (wlL d i) (llL d i)) (N := m) (fun i hi a w h Q' hq => ?_) (fun a w h => ?_) 0 (Nat.zero_le _) a w h
  · have hw := wlL_len d i
    have hll := llL_len d i
    have hli := hl i hi
    have hI : (0 : Int) ≤ (i : Int) ∧ (i : Int) < (m : Int) := ⟨by omega, by omega⟩
    rw [tiL_eq]
    refine wp_seq (StG.run h gW_ok (by decide) (ti_r1 d m i _ _) (by simp only [allC_cons, allC_nil, and_true]; exact ⟨Fm, decide_eq_true (by omega)⟩) (by decide) (by decide) (by simp) fun a w h => ?_)
    show (Code.seq (.block 1 (.seq ti6 ti78)) ti5).wp _ _ a w
    refine wp_seq (wp_block (wp_seq (StG.run h gW_ok (by decide) (ti_r6 d m i _ _) (by simp only [allC_cons, allC_nil, and_true]; exact ⟨by omega, hI⟩) (by decide) (by decide) (by simp) fun a w h => ?_)))
    show ti78.wp _ _ a w
    have h2 : StG gW W OW 35 ([0, 4, 5, 6, 7].zip (tiO d m (i : Int) ++ [.roi .u8 (roF (d i))])) (tiB (wlL d i) (llL d i)) a w := by
      refine StG.freeze (B := tiB (wlL d i) (llL d i)) (bd := .ints .u8 (roomL (d i))) h rfl (by decide) rfl fun j c c' h1 h2 => ?_
      match j, h1, h2 with
      | 0, h1, h2 => simp at h1 h2; subst h1; subst h2; exact .inl rfl
      | 1, h1, h2 => simp at h1 h2; subst h1; subst h2; exact .inl rfl
      | 2, h1, h2 => simp at h1 h2; subst h1; subst h2; exact .inl rfl
      | 3, h1, h2 => simp at h1 h2; subst h1; subst h2; exact .inl rfl
      | 4, h1, h2 =>
        simp at h1 h2; subst h1; subst h2
        exact .inr fun w0 O ρ H w Φ O1 x hb hO hm v ρ1 hd => by
          have := frozen_sl (ρ1 := ρ1) x hb hm (by rw [roomL_len]; omega) hd
          simpa [roF] using this
      | n + 5, h1, _ => simp at h1
    have hr := ti_r78 d m i (wlL d i) (llL d i) (roF (d i))
    refine StG.run h2 gW_ok (by decide) hr ?_ (by decide) (by decide) (by simp) fun a w h => ?_
    · simp only [allC_cons, allC_nil, and_true, List.length_append, List.length_singleton]
      exact ⟨by omega, by omega, ⟨by omega, by omega, by rw [roF_eq, roomL_len]; omega⟩, fits_of (by omega) (by omega), hI⟩
    · show ti5.wp _ _ a w
      refine StG.run (B := tiB (wlL d (i + 1)) (llL d (i + 1))) h gW_ok (by decide) (ti_r5 d m i _ _) (by simp only [allC_cons, allC_nil, and_true]; exact fits_of (by omega) (by omega)) (by decide) (by decide) (by simp) fun a w h => ?_
      exact hq a w h
  · refine StG.run h gW_ok (by decide) (ti_end d m m _ _) (by simp only [allC_cons, allC_nil, and_true]; exact ⟨Fm, decide_eq_false (by omega)⟩) (by decide) (by decide) (by simp) fun a w h => ?_
    simp only [Ex.up, Exit.then, Exit.inBlock, if_true]
    have h2 : StG gW W OW 35 (tiKeep.zip [.ro 1 m (rowL d), .own 0, .ro 1 (llL d m).length (rowL (dL d m)), .int .i64 (m : Int)]) [.lists .u8 (wlL d m)] a w := by
      refine StG.freeze (B := [.lists .u8 (wlL d m)]) (bd := .lists .u8 (llL d m)) h rfl (by decide) rfl fun j c c' h1 h2 => ?_
      match j, h1, h2 with
      | 0, h1, h2 => simp at h1 h2; subst h1; subst h2; exact .inl rfl
      | 1, h1, h2 => simp at h1 h2; subst h1; subst h2; exact .inl rfl
      | 2, h1, h2 =>
        simp at h1 h2; subst h1; subst h2
        exact .inr fun w0 O ρ H w Φ O1 x hb hO hm v ρ1 hd => frozen_lists x hb hm hO hd
      | 3, h1, h2 => simp at h1 h2; subst h1; subst h2; exact .inl rfl
      | n + 4, h1, _ => simp at h1
    have h3 : StG gW W OW 35 (tiKeep.zip [.ro 1 m (rowL d), .ro 1 (wlL d m).length (rowL (dW d m)), .ro 1 (llL d m).length (rowL (dL d m)), .int .i64 (m : Int)]) [] a w := by
      refine StG.freeze (B := []) (bd := .lists .u8 (wlL d m)) h2 rfl (by decide) rfl fun j c c' h1 h2 => ?_
      match j, h1, h2 with
      | 0, h1, h2 => simp at h1 h2; subst h1; subst h2; exact .inl rfl
      | 1, h1, h2 =>
        simp at h1 h2; subst h1; subst h2
        exact .inr fun w0 O ρ H w Φ O1 x hb hO hm v ρ1 hd => frozen_lists x hb hm hO hd
      | 2, h1, h2 => simp at h1 h2; subst h1; subst h2; exact .inl rfl
      | 3, h1, h2 => simp at h1 h2; subst h1; subst h2; exact .inl rfl
      | n + 4, h1, _ => simp at h1
    rw [wlL_len, llL_len] at h3
    have h4 : StG gW W OW 35 ([4, 5].zip [.ro 1 m (rowL (dW d m)), .ro 1 m (rowL (dL d m))]) [] a w := by
      obtain ⟨w0, O, ρ, Φ, hG, hgr, r, hr⟩ := h3
      exact ⟨w0, O, ρ, Φ, hG, hgr, r.sub (sub_mkT (by simp; exact ⟨rfl, rfl⟩)), hr⟩
    exact StG.run h4 gW_ok (by decide) (ti_post m m _ _) (by simp [AllC]) (by decide) (by decide) (by simp) fun a w h => ⟨rfl, _, _, h, rfl⟩
end Go.Proofs.Ytejcjdhplpjpjaa

namespace Go.Proofs.Ytejcjdhplpjpjaa
open Go Go.Vx
/-! ### MacChecks -/
noncomputable abbrev ckC : Code := match Try.f9.body with | some c => c | none => .skip
noncomputable abbrev ckB (k t : Nat → Int) : List Body := [.cells (svF (List.replicate 32 .u8) k 0), .cells (svF (List.replicate 16 .u8) t 0)]
noncomputable abbrev ckS0 (m : Nat) (d : Nat → List Int) : List (Nat × SV) := [2, 3, 4].zip [.ro 1 m (rowL d), .ptr 0 0, .ptr 1 0]
noncomputable abbrev ckS1 (m : Nat) (d dw dl : Nat → List Int) : List (Nat × SV) := [2, 3, 4, 7, 8].zip [.ro 1 m (rowL d), .ptr 0 0, .ptr 1 0, .ro 1 m (rowL dw), .ro 1 m (rowL dl)]
abbrev lX9 (d : Nat → List Int) (m : Nat) : Bool := decide (400 < m ∨ stp d m < m)
theorem ck_pre (m : Nat) (d : Nat → List Int) (k t : Nat → Int) : runC gW 900 71 [.br false] (takeSeq 2 ckC) [(0, .agg (svF (List.replicate 32 .u8) k 0)), (1, .agg (svF (List.replicate 16 .u8) t 0)), (2, .ro 1 m (rowL d))] [] [2, 3, 4] [0, 1] =
    some (.normal, [.ro 1 m (rowL d), .ptr 0 0, .ptr 1 0], (ckB k t).map some, lC (rowL d) m ++ [lX9 d m = false]) :=
  r3_parts4 (by kernel_rfl) (by kernel_rfl) (by kernel_rfl) (by kernel_rfl)
noncomputable def wantL (k : Nat → Int) (x : List Int) : List Int := dTag (kT (kk k)) (atL (hiK (kk k))) x
abbrev ckA (k t : Nat → Int) (x : List Int) : Bool := CK (kk k) (atL (listF 16 t 0)) x
noncomputable abbrev ckT (k : Nat → Int) (x y : List Int) : Bool := CK (kk k) (atL (listF 16 (atL (wantL k x)) 0)) y
abbrev ckE (dl : Nat → List Int) (m : Nat) (b : Bool) : List (List Int) := ([] ++ ofT dl m) ++ [[1, bI b]]
noncomputable abbrev ckM (d dl : Nat → List Int) (m : Nat) (b1 b2 : Bool) : List Prop := [true = true, ckE dl m b1 = eoT (lnL d m) ++ [[1, bI b2]], (ckE dl m b1).length ≤ 140737488355328, (lnL d m).length ≤ 1000, LnC (lnL d m)] ++ (pC (rowL d) m ++ [(ckE dl m b1).length * 16 ≤ 2 ^ 47])
noncomputable abbrev ckO (dl : Nat → List Int) (m : Nat) : List Prop := ((([] : List (List Int)) ++ ofT dl m).length < 1099511627776) :: olC (rowL dl) m []
theorem ck_rest (m : Nat) (d dw dl : Nat → List Int) (k t : Nat → Int) : runC gW 900 71 [.br false, .br false, .br false, .br true, .br true] (dropSeq 3 ckC) (ckS1 m d dw dl) (ckB k t) [6] [] =
    some (.ret, [.sbool true], ([] : List Body).map some, [(xZ d m).length = (xZ d m).length, (xZ d m).length ≤ 140737488355328] ++ (pC (rowL d) m ++ (ckO dl m ++ (ckO dl m ++ ((m = m) :: (m = m) :: (unC (rowL dw) (rowL dl) (rowL d) m ++
      ([(!ckT k (xZ d m) (xZ dl m)) = false, (!(ckA k t (xZ dl m) == decide (listF 16 t 0 = listF 16 (atL (wantL k (xZ d m))) 0))) = false, (!true) = false] ++ (ckM d dl m (ckT k (xZ d m) (xZ dl m)) true ++ ckM d dl m (ckA k t (xZ dl m)) (ckA k t (xZ dl m)))))))))) :=
  r3_parts4 (by kernel_rfl) (by kernel_rfl) (by kernel_rfl) (by kernel_rfl)
theorem ck_run2 (m : Nat) (d : Nat → List Int) (k t : Nat → Int) : runF gW 900 [.br true] 9 [.agg (svF (List.replicate 32 .u8) k 0), .agg (svF (List.replicate 16 .u8) t 0), .ro 1 m (rowL d)] [] [] =
    some (.bool true, [], lC (rowL d) m ++ [lX9 d m = true]) :=
  run_parts (by kernel_rfl) (by kernel_rfl) (by kernel_rfl)
/-! ### the call of twins -/
def regOps : Code → Array Oper
  | .region _ ops _ => ops
  | _ => #[]
noncomputable abbrev ckR3 : Code := match dropSeq 2 ckC with | .seq a _ => a | _ => .skip
noncomputable abbrev ckOps : Array Oper := regOps ckR3
theorem ck_3 : dropSeq 2 ckC = .seq (.region 3 ckOps false) (dropSeq 3 ckC) := by kernel_rfl
theorem ck_two {W : World} {OW : Go.Vx.Own} (m : Nat) (d : Nat → List Int) (k t : Nat → Int) (hm : m ≤ 1000) (hl : ∀ i, i < m → (d i).length ≤ 131072) {a : Act} {w : World} (h : StG gW W OW 71 (ckS0 m d) (ckB k t) a w) {Q : Exit → Act → World → Prop}
    (hQ : ∀ a' w', StG gW W OW 71 (ckS1 m d (dW d m) (dL d m)) (ckB k t) a' w' → Q .normal a' w') : (Code.region 3 ckOps false).wp gW.P Q a w := by
  refine StG.two (S' := ckS1 m d (dW d m) (dL d m)) (x := 2) (t1 := 17) (t2 := 18) (t3 := 16) (t4 := 19) (t5 := 20) (t6 := 7) (t7 := 8) (f := 27) (fn := Try.f27) (c := tiC) (sz2 := 1) (n2 := m) (F := rowL d) (S0 := [(0, .ro 1 m (rowL d))])
    (o0 := ckOps[0]!) (o1 := ckOps[1]!) (o2 := ckOps[2]!) (o3 := ckOps[3]!) (o4 := ckOps[4]!) (o5 := ckOps[5]!) (o6 := ckOps[6]!) (by kernel_rfl) (by kernel_rfl) (by kernel_rfl) (by kernel_rfl) (by kernel_rfl) (by kernel_rfl) (by kernel_rfl)
    ⟨by kernel_rfl, by kernel_rfl, by kernel_rfl, by kernel_rfl, by kernel_rfl, by kernel_rfl, by kernel_rfl⟩ ⟨by kernel_rfl, by kernel_rfl, by kernel_rfl, by kernel_rfl, by kernel_rfl, by kernel_rfl, by kernel_rfl⟩ (by decide) (by decide) gW_ok Try.func27 rfl (by decide) (by decide) rfl
    (fun T hT => (show calleeV gW T (ckOps[1]!).op = some (27, [T 17]) by kernel_rfl).trans (by rw [hT])) (fun y hy => ?_) (fun W OW hG a w h => ti_callee d m hm hl W OW hG a w h) rfl h (fun t => ?_) hQ
  · rw [show (ckOps[1]!).op.operands = #[.func 27, .tmp 17] by kernel_rfl] at hy
    simp at hy
    rcases hy with rfl | rfl
    · exact .inr ⟨_, rfl⟩
    · exact .inl rfl
  · rcases tget_mkT (ckS1 m d (dW d m) (dL d m)) t (by simp) with e | ⟨y, h1, h2, h3⟩
    · exact .inl e
    · right
      rw [h3]
      simp at h1
      rcases h1 with rfl | rfl | rfl | rfl | rfl <;> (simp only at h2; subst h2; rfl)
/-! ### the account -/
theorem xZ_cg {d e : Nat → List Int} : ∀ {m : Nat}, (∀ i, i < m → d i = e i) → xZ d m = xZ e m
  | 0, _ => rfl
  | m + 1, h => by simp only [xZ]; rw [xZ_cg fun i hi => h i (by omega), h m (by omega)]
theorem ofT_cg {d e : Nat → List Int} {m : Nat} (h : ∀ i, i < m → d i = e i) : ofT d m = ofT e m := by
  have key : ∀ i, i ≤ m → ofH d i = ofH e i ∧ ofE d i = ofE e i := by
    intro i
    induction i with
    | zero => intro _; exact ⟨rfl, rfl⟩
    | succ i ih =>
      intro hi
      obtain ⟨h1, h2⟩ := ih (by omega)
      exact ⟨by simp only [ofH]; rw [h1, h i (by omega)], by simp only [ofE]; rw [h1, h2, h i (by omega)]⟩
  obtain ⟨h1, h2⟩ := key m (Nat.le_refl _)
  rw [ofT, ofT, h1, h2]
theorem CK_eq (k t : Nat → Int) (x : List Int) : CK (kk k) t x = decide (wantL k x = listF 16 t 0) := by
  have e : listF 16 (atL (DT (kk (kk k)) x)) 0 = wantL k x := by
    rw [DT_L]; unfold DT wantL; rw [kk_kk, kk_kk]
  unfold CK
  rw [e]
  by_cases c : wantL k x = listF 16 t 0
  · rw [if_pos c, decide_eq_true c]; rfl
  · rw [if_neg c, decide_eq_false c]; rfl
theorem wantL_L (k : Nat → Int) (x : List Int) : listF 16 (atL (wantL k x)) 0 = wantL k x := dTag_L _ _ _
theorem checks_ok (k t : Nat → Int) (m : Nat) (d : Nat → List Int) (Fm : Fits .i64 (m : Int)) (hff : ∀ i, i < m → factsC (rowL d i)) (hLB : LB d m) :
    FnOk gW 9 [.agg (svF (List.replicate 32 .u8) k 0), .agg (svF (List.replicate 16 .u8) t 0), .ro 1 m (rowL d)] [] { val := .bool true } := by
  have hc : AllC (lC (rowL d) m) := by
    simp only [lC, allC_cons, allC_nil, and_true]; exact ⟨rfl, Fm, hLB⟩
  by_cases hX : 400 < m ∨ stp d m < m
  · exact FnOk.pure gW_ok (ck_run2 m d k t) (allC_append.2 ⟨hc, by simp only [allC_cons, allC_nil, and_true]; exact decide_eq_true hX⟩)
  · have hm : m ≤ 400 := by omega
    have hs : stp d m = m := by have := stp_le d m; omega
    have hl : ∀ i, i < m → (d i).length ≤ 131072 := fun i hi => by
      have := stp_lt (d := d) (m := m) (i := i) (by omega); omega
    have hx : (xZ d m).length ≤ 131072 := xZ_len (d := d) (m := m) m (by omega)
    have hd : ∀ i, i < m → dL d m i = d i := fun i hi => llL_get d hi
    have hw : ∀ i, i < m → dW d m i = roomL (d i) := fun i hi => wlL_get d hi
    refine FnOk.ofSb (b := true) (FnOk.ofG (t := 6) (fn := Try.f9) (c := ckC) (S := [(0, .agg (svF (List.replicate 32 .u8) k 0)), (1, .agg (svF (List.replicate 16 .u8) t 0)), (2, .ro 1 m (rowL d))]) gW_ok Try.func9 rfl (by decide) (by show 3 ≤ _; decide) rfl rfl sbool_all fun W OW _ a w h => ?_) rfl
    have h : StG gW W OW 71 [(0, .agg (svF (List.replicate 32 .u8) k 0)), (1, .agg (svF (List.replicate 16 .u8) t 0)), (2, .ro 1 m (rowL d))] [] a w := h
    refine StG.cut (k := 2) h gW_ok (by decide) (ck_pre m d k t) (allC_append.2 ⟨hc, by simp only [allC_cons, allC_nil, and_true]; exact decide_eq_false hX⟩) (by decide) (by decide) (by simp) fun a w h => ?_
    rw [ck_3]
    refine wp_seq (ck_two m d k t (by omega) hl h fun a w h => ?_)
    show (dropSeq 3 ckC).wp _ _ a w
    refine StG.run h gW_ok (by decide) (ck_rest m d (dW d m) (dL d m) k t) ?_ (by decide) (by decide) (by simp) fun a w h => ⟨rfl, _, _, h, rfl⟩
    have ex : xZ (dL d m) m = xZ d m := xZ_cg hd
    have eT : ofT (dL d m) m = ofT d m := ofT_cg hd
    have hln := lnL_ok hl
    have hlT := eoT_len (L := lnL d m) (by rw [lnL_len]; omega) hln
    rw [eoT_eq] at hlT
    have hpC : AllC (pC (rowL d) m) := by
      simp only [pC, allC_cons, allC_nil, and_true]; exact ⟨rfl, by omega, hl⟩
    have hO : AllC (ckO (dL d m) m) := by
      simp only [ckO, olC, allC_cons, allC_nil, and_true, List.nil_append]
      rw [eT]
      refine ⟨by omega, rfl, by omega, fun i hi => ?_, fun i hi => ?_, by simp⟩
      · show (dL d m i).length ≤ 131072
        rw [hd i hi]; exact hl i hi
      · show factsC (.roi .u8 (dL d m i))
        rw [hd i hi]; exact hff i hi
    have hU : AllC (unC (rowL (dW d m)) (rowL (dL d m)) (rowL d) m) := by
      simp only [unC, allC_cons, allC_nil, and_true]
      exact ⟨rfl, rfl, rfl, by omega, hl, fun i hi => hw i hi, fun i hi => by show (dL d m i).length = _; rw [hd i hi]; rfl⟩
    have hM : ∀ b, AllC (ckM d (dL d m) m b b) := fun b => by
      have e : ckE (dL d m) m b = ofT d m ++ [[1, bI b]] := by rw [ckE, List.nil_append, eT]
      simp only [ckM, e, allC_append, allC_cons, allC_nil, and_true, List.length_append, List.length_cons, List.length_nil]
      rw [eoT_eq]
      exact ⟨⟨trivial, rfl, by omega, by rw [lnL_len]; omega, hln⟩, ⟨rfl, by omega, hl⟩, by omega⟩
    have tT : ckT k (xZ d m) (xZ (dL d m) m) = true := by
      rw [ex]
      show CK (kk k) (atL (listF 16 (atL (wantL k (xZ d m))) 0)) (xZ d m) = true
      rw [CK_eq, wantL_L, wantL_L]
      exact decide_eq_true rfl
    have tA : (ckA k t (xZ (dL d m) m) == decide (listF 16 t 0 = listF 16 (atL (wantL k (xZ d m))) 0)) = true := by
      rw [ex]
      show (CK (kk k) (atL (listF 16 t 0)) (xZ d m) == _) = true
      have el : listF 16 (atL (listF 16 t 0)) 0 = listF 16 t 0 := by
        have := listF_atL (listF 16 t 0)
        rw [listF_length] at this; exact this
      rw [CK_eq, el, wantL_L, beq_iff_eq]
      exact decide_eq_decide.2 ⟨fun h => h.symm, fun h => h.symm⟩
    refine allC_append.2 ⟨?_, allC_append.2 ⟨hpC, allC_append.2 ⟨hO, allC_append.2 ⟨hO, allC_cons.2 ⟨rfl, allC_cons.2 ⟨rfl, allC_append.2 ⟨hU, allC_append.2 ⟨?_, allC_append.2 ⟨?_, hM _⟩⟩⟩⟩⟩⟩⟩⟩⟩
    · simp only [allC_cons, allC_nil, and_true]; exact ⟨trivial, by omega⟩
    · simp only [allC_cons, allC_nil, and_true]; exact ⟨by rw [tT]; rfl, by rw [tA]; rfl, rfl⟩
    · rw [tT]; exact hM true
end Go.Proofs.Ytejcjdhplpjpjaa
