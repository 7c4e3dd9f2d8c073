/- Accounts of this seat's functions: lemmas, no statement of their own. No conditions. -/
import Derived.Test.YtejcjdhplpjpjaaTUj
import Derived.Test.YtejcjdhplpjpjaaV5
namespace Go.Proofs.Ytejcjdhplpjpjaa
open Go Go.Vx
/-! ### twins -/
noncomputable abbrev gW : Ctx := gV.add [(23, oneOf F23 F23r), (28, F28), (30, F30), (29, F29), (32, F32), (31, F31)]
theorem gW_ok : CtxU gW := gV_ok.add mixed noGo (by
  intro x hx
  simp only [List.mem_cons, List.not_mem_nil, or_false] at hx
  rcases hx with rfl | rfl | rfl | rfl | rfl | rfl
  · exact Acc.of (g := gn) rfl rfl (acc_one acc23 acc23r)
  · exact Acc.of (g := gn) rfl rfl acc28
  · exact Acc.of (g := gn) rfl rfl acc30
  · exact Acc.of (g := geo) rfl rfl acc29
  · exact Acc.of (g := geo1) rfl rfl acc32
  · exact Acc.of (g := gn1) rfl rfl acc31)
noncomputable abbrev tiC : Code := match Try.f27.body with | some c => c | none => .skip
noncomputable abbrev tiL : Code := bodyAt Try.prog 27 4
noncomputable abbrev ti1 : Code := match tiL with | .seq a _ => a | _ => .skip
noncomputable abbrev ti6 : Code := match tiL with | .seq _ (.seq (.block _ (.seq a _)) _) => a | _ => .skip
noncomputable abbrev ti78 : Code := match tiL with | .seq _ (.seq (.block _ (.seq _ a)) _) => a | _ => .skip
noncomputable abbrev ti5 : Code := match tiL with | .seq _ (.seq _ a) => a | _ => .skip
noncomputable abbrev ti3 : Code := match dropSeq 3 tiC with | .seq (.seq a _) _ => a | _ => .skip
theorem tiL_eq : tiL = .seq ti1 (.seq (.block 1 (.seq ti6 ti78)) ti5) := by kernel_rfl
theorem ti_3 : dropSeq 3 tiC = .seq (.seq ti3 (.block 0 (.loop tiL))) (dropSeq 4 tiC) := by kernel_rfl
abbrev tiKeep : List Nat := [0, 4, 5, 6]
noncomputable abbrev tiO (d : Nat → List Int) (m : Nat) (i : Int) : List SV := [.ro 1 m (rowL d), .own 0, .own 1, .int .i64 i]
noncomputable abbrev tiS (d : Nat → List Int) (m i : Nat) : List (Nat × SV) := tiKeep.zip (tiO d m (i : Int))
abbrev tiB (q : Nat) (w l : List (List Int)) : List Body := [.lists q .u8 w, .lists q .u8 l]
noncomputable abbrev rowB (q : Nat) (d : Nat → List Int) : Nat → SV := fun i => .rob q .u8 (d i)
abbrev roF (e : List Int) : List Int := ((roomL e).drop (0 + 0)).take (e.length + 70)
abbrev llF (e w : List Int) : List Int := (w.drop (0 : Int).toNat).take ((e.length : Int).toNat - (0 : Int).toNat)
theorem roF_eq (e : List Int) : roF e = roomL e := by
  show ((roomL e).drop (0 + 0)).take (e.length + 70) = _
  rw [Nat.add_zero, List.drop_zero, List.take_of_length_le (by rw [roomL_len]; exact Nat.le_refl _)]
theorem llF_eq (e : List Int) : llF e (roF e) = e := by
  rw [roF_eq]
  show ((roomL e).drop ((0 : Int)).toNat).take ((e.length : Int).toNat - (0 : Int).toNat) = e
  rw [show ((0 : Int)).toNat = 0 from rfl, Nat.sub_zero, List.drop_zero, Int.toNat_natCast]
  refine extI (by rw [List.length_take, roomL_len]; omega) fun j hj => ?_
  rw [List.length_take, roomL_len] at hj
  have hj2 : j < e.length := by omega
  rw [List.getD_eq_getElem?_getD, List.getElem?_take, if_pos hj2, ← List.getD_eq_getElem?_getD, roomL_get e (by omega), if_pos hj2]
theorem ti_r1 (q : Nat) (d : Nat → List Int) (m i : Nat) (w l : List (List Int)) : runC gW 300 35 [.br true] ti1 (tiS d m i) (tiB q w l) tiKeep [0, 1] =
    some (.normal, tiO d m (i : Int), (tiB q w l).map some, [Fits .i64 (m : Int), decide ((i : Int) < (m : Int)) = true]) :=
  r3_parts4 (by kernel_rfl) (by kernel_rfl) (by kernel_rfl) (by kernel_rfl)
theorem ti_end (q : Nat) (d : Nat → List Int) (m i : Nat) (w l : List (List Int)) : runC gW 300 35 [.br false] tiL (tiS d m i) (tiB q w l) tiKeep [0, 1] =
    some (.exit 0, tiO d m (i : Int), (tiB q w l).map some, [Fits .i64 (m : Int), decide ((i : Int) < (m : Int)) = false]) :=
  r3_parts4 (by kernel_rfl) (by kernel_rfl) (by kernel_rfl) (by kernel_rfl)
theorem ti_r6 (q : Nat) (d : Nat → List Int) (m i : Nat) (w l : List (List Int)) : runC gW 300 35 [] ti6 (tiS d m i) (tiB q w l) [0, 4, 5, 6, 7] [0, 1, 2] =
    some (.normal, tiO d m (i : Int) ++ [.sl 2 ((d i).length + 70) 0 1 0 ((d i).length + 70) false], (tiB q w l ++ [Body.ints .u8 (roomL (d i))]).map some, [(d i).length ≤ 1000000000, (0 : Int) ≤ (i : Int) ∧ (i : Int) < (m : Int)]) :=
  r3_parts4 (by kernel_rfl) (by kernel_rfl) (by kernel_rfl) (by kernel_rfl)
theorem ti_r78 (q : Nat) (d : Nat → List Int) (m i : Nat) (w l : List (List Int)) (e : List Int) : runC gW 300 35 [] ti78 ([0, 4, 5, 6, 7].zip (tiO d m (i : Int) ++ [.rob q .u8 e])) (tiB q w l) tiKeep [3, 5] =
    some (.normal, tiO d m (i : Int), (tiB q (w ++ [e]) (l ++ [llF (d i) e])).map some, [(w ++ [e]).length * 24 ≤ 2 ^ 47, q ≤ q, (l ++ [llF (d i) e]).length * 24 ≤ 2 ^ 47, q ≤ q, (0 : Int) ≤ 0 ∧ (0 : Int) ≤ ((d i).length : Int) ∧ ((d i).length : Int) ≤ (e.length : Int), Fits .i64 ((d i).length : Int), (0 : Int) ≤ (i : Int) ∧ (i : Int) < (m : Int)]) :=
  r3_parts4 (by kernel_rfl) (by kernel_rfl) (by kernel_rfl) (by kernel_rfl)
theorem ti_r5 (q : Nat) (d : Nat → List Int) (m i : Nat) (w l : List (List Int)) : runC gW 300 35 [] ti5 (tiS d m i) (tiB q w l) tiKeep [0, 1] =
    some (.normal, tiO d m ((i : Int) + 1), (tiB q w l).map some, [Fits .i64 ((i : Int) + 1)]) :=
  r3_parts4 (by kernel_rfl) (by kernel_rfl) (by kernel_rfl) (by kernel_rfl)
theorem ti_pre (d : Nat → List Int) (m : Nat) : runC gW 300 35 [] (takeSeq 3 tiC) [(0, .ro 1 m (rowL d))] [] [0, 4, 5] [] =
    some (.normal, [.ro 1 m (rowL d), .raw (.slice none 0 0), .raw (.slice none 0 0)], ([] : List Body).map some, []) :=
  r3_parts4 (by kernel_rfl) (by kernel_rfl) (by kernel_rfl) (by kernel_rfl)
theorem ti_r3 (d : Nat → List Int) (m : Nat) : runC gW 300 35 [] ti3 ([0, 4, 5].zip [.ro 1 m (rowL d), .raw (.slice none 0 0), .raw (.slice none 0 0)]) [] tiKeep [] =
    some (.normal, [.ro 1 m (rowL d), .raw (.slice none 0 0), .raw (.slice none 0 0), .lit .i64 0], ([] : List Body).map some, []) :=
  r3_parts4 (by kernel_rfl) (by kernel_rfl) (by kernel_rfl) (by kernel_rfl)
theorem ti_post (n n' : Nat) (f f' : Nat → SV) : runC gW 300 35 [] (dropSeq 4 tiC) ([4, 5].zip [.ro 1 n f, .ro 1 n' f']) [] [2, 3] [] =
    some (.ret, [.ro 1 n f, .ro 1 n' f'], ([] : List Body).map some, []) :=
  r3_parts4 (by kernel_rfl) (by kernel_rfl) (by kernel_rfl) (by kernel_rfl)
def wlL (d : Nat → List Int) : Nat → List (List Int)
  | 0 => []
  | i + 1 => wlL d i ++ [roF (d i)]
def llL (d : Nat → List Int) : Nat → List (List Int)
  | 0 => []
  | i + 1 => llL d i ++ [llF (d i) (roF (d i))]
theorem wlL_len (d : Nat → List Int) : ∀ i, (wlL d i).length = i
  | 0 => rfl
  | i + 1 => by simp [wlL, wlL_len d i]
theorem llL_len (d : Nat → List Int) : ∀ i, (llL d i).length = i
  | 0 => rfl
  | i + 1 => by simp [llL, llL_len d i]
theorem wlL_get (d : Nat → List Int) : ∀ {m i : Nat}, i < m → (wlL d m).getD i [] = roomL (d i)
  | m + 1, i, h => by
    simp only [wlL]
    rw [List.getD_eq_getElem?_getD]
    by_cases c : i < m
    · rw [List.getElem?_append_left (by rw [wlL_len]; exact c), ← List.getD_eq_getElem?_getD]
      exact wlL_get d c
    · have e : i = m := by omega
      subst e
      rw [List.getElem?_append_right (by rw [wlL_len]; exact Nat.le_refl _), wlL_len]
      simp [roF_eq]
theorem llL_get (d : Nat → List Int) : ∀ {m i : Nat}, i < m → (llL d m).getD i [] = d i
  | m + 1, i, h => by
    simp only [llL]
    rw [List.getD_eq_getElem?_getD]
    by_cases c : i < m
    · rw [List.getElem?_append_left (by rw [llL_len]; exact c), ← List.getD_eq_getElem?_getD]
      exact llL_get d c
    · have e : i = m := by omega
      subst e
      rw [List.getElem?_append_right (by rw [llL_len]; exact Nat.le_refl _), llL_len, llF_eq]
      simp
noncomputable abbrev dW (d : Nat → List Int) (m : Nat) : Nat → List Int := fun j => (wlL d m).getD j []
noncomputable abbrev dL (d : Nat → List Int) (m : Nat) : Nat → List Int := fun j => (llL d m).getD j []
theorem ti_callee (q : Nat) (d : Nat → List Int) (m : Nat) (hm : m ≤ 1000) (hl : ∀ i, i < m → (d i).length ≤ 131072) (W : World) (OW : Go.Vx.Own) (hq : q ≤ W.heap.size) (hown : ∀ b o, ¬ OW.own b o) (_ : GlobOk gW W OW) (a : Act) (w : World) (h : StG gW W OW Try.f27.ntmps [(0, .ro 1 m (rowL d))] [] a w) :
    tiC.wp gW.P (fun e a' w' => e = .ret ∧ ∃ S' B', StG gW W OW Try.f27.ntmps S' B' a' w' ∧ retV gW.P (BH B') (mkT S') Try.f27.results.toList = some [.ro 1 m (rowB q (dW d m)), .ro 1 m (rowB q (dL d m))]) a w := by
  have Fm : Fits .i64 (m : Int) := fits_of (by omega) (by omega)
  have h : StG gW W OW 35 [(0, .ro 1 m (rowL d))] [] a w := h
  refine StG.cut (k := 3) h gW_ok (by decide) (ti_pre d m) (by simp [AllC]) (by decide) (by decide) (by simp) fun a w h => ?_
  rw [ti_3]
  refine wp_seq (wp_seq ?_)
  refine StG.run h gW_ok (by decide) (ti_r3 d m) (by simp [AllC]) (by decide) (by decide) (by simp) fun a w h => ?_
  show (Code.block 0 (.loop tiL)).wp _ _ a w
  refine wp_block ?_
  have h := StG.pre h (fun t => zip_norm tiKeep _ t (by decide))
  have h := StG.adopt h (.lists q .u8 []) 4 rfl rfl (by simp [normL]) (by simp [normL])
  have h : StG gW W OW 35 (tiKeep.zip [.ro 1 m (rowL d), .own 0, .raw (.slice none 0 0), .int .i64 0]) [.lists q .u8 []] a w := h
  have h := StG.adopt h (.lists q .u8 []) 5 rfl rfl (by simp) (by simp)
  have h : StG gW W OW 35 (tiS d m 0) (tiB q (wlL d 0) (llL d 0)) a w := h
  refine StG.iter (S := fun i => tiS d m i) (B := fun i => tiB q (wlL d i) (llL d i)) (N := m) (fun i hi a w h Q' hq => ?_) (fun a w h => ?_) 0 (Nat.zero_le _) a w h
  · have hw := wlL_len d i
    have hll := llL_len d i
    have hli := hl i hi
    have hI : (0 : Int) ≤ (i : Int) ∧ (i : Int) < (m : Int) := ⟨by omega, by omega⟩
    rw [tiL_eq]
    refine wp_seq (StG.run h gW_ok (by decide) (ti_r1 q d m i _ _) (by simp only [allC_cons, allC_nil, and_true]; exact ⟨Fm, decide_eq_true (by omega)⟩) (by decide) (by decide) (by simp) fun a w h => ?_)
    show (Code.seq (.block 1 (.seq ti6 ti78)) ti5).wp _ _ a w
    refine wp_seq (wp_block (wp_seq (StG.run h gW_ok (by decide) (ti_r6 q d m i _ _) (by simp only [allC_cons, allC_nil, and_true]; exact ⟨by omega, hI⟩) (by decide) (by decide) (by simp) fun a w h => ?_)))
    show ti78.wp _ _ a w
    have h2 : StG gW W OW 35 ([0, 4, 5, 6, 7].zip (tiO d m (i : Int) ++ [.rob q .u8 (roF (d i))])) (tiB q (wlL d i) (llL d i)) a w := by
      refine StG.freeze (B := tiB q (wlL d i) (llL d i)) (bd := .ints .u8 (roomL (d i))) h rfl (by decide) rfl fun j c c' h1 h2 => ?_
      match j, h1, h2 with
      | 0, h1, h2 => simp at h1 h2; subst h1; subst h2; exact .inl rfl
      | 1, h1, h2 => simp at h1 h2; subst h1; subst h2; exact .inl rfl
      | 2, h1, h2 => simp at h1 h2; subst h1; subst h2; exact .inl rfl
      | 3, h1, h2 => simp at h1 h2; subst h1; subst h2; exact .inl rfl
      | 4, h1, h2 =>
        simp at h1 h2; subst h1; subst h2
        exact .inr fun w0 O ρ H w Φ O1 x hb hO hm hn v ρ1 hd => by
          have := frozen_slN (q := q) (ρ1 := ρ1) x hb hm (fun b o h1 => by
            rcases Nat.lt_or_ge b W.heap.size with h2 | h2
            · exact absurd (hn b o h1 h2) (hown b o)
            · omega) (by rw [roomL_len]; omega) hd
          simpa [roF] using this
      | n + 5, h1, _ => simp at h1
    have hr := ti_r78 q d m i (wlL d i) (llL d i) (roF (d i))
    refine StG.run h2 gW_ok (by decide) hr ?_ (by decide) (by decide) (by simp) fun a w h => ?_
    · simp only [allC_cons, allC_nil, and_true, List.length_append, List.length_singleton]
      exact ⟨by omega, Nat.le_refl _, by omega, Nat.le_refl _, ⟨by omega, by omega, by rw [roF_eq, roomL_len]; omega⟩, fits_of (by omega) (by omega), hI⟩
    · show ti5.wp _ _ a w
      refine StG.run (B := tiB q (wlL d (i + 1)) (llL d (i + 1))) h gW_ok (by decide) (ti_r5 q d m i _ _) (by simp only [allC_cons, allC_nil, and_true]; exact fits_of (by omega) (by omega)) (by decide) (by decide) (by simp) fun a w h => ?_
      exact hq a w h
  · refine StG.run h gW_ok (by decide) (ti_end q d m m _ _) (by simp only [allC_cons, allC_nil, and_true]; exact ⟨Fm, decide_eq_false (by omega)⟩) (by decide) (by decide) (by simp) fun a w h => ?_
    simp only [Ex.up, Exit.then, Exit.inBlock, if_true]
    have h2 : StG gW W OW 35 (tiKeep.zip [.ro 1 m (rowL d), .own 0, .ro 1 (llL d m).length (rowB q (dL d m)), .int .i64 (m : Int)]) [.lists q .u8 (wlL d m)] a w := by
      refine StG.freeze (B := [.lists q .u8 (wlL d m)]) (bd := .lists q .u8 (llL d m)) h rfl (by decide) rfl fun j c c' h1 h2 => ?_
      match j, h1, h2 with
      | 0, h1, h2 => simp at h1 h2; subst h1; subst h2; exact .inl rfl
      | 1, h1, h2 => simp at h1 h2; subst h1; subst h2; exact .inl rfl
      | 2, h1, h2 =>
        simp at h1 h2; subst h1; subst h2
        exact .inr fun w0 O ρ H w Φ O1 x hb hO hm _ v ρ1 hd => frozen_lists x hb hm hO hd
      | 3, h1, h2 => simp at h1 h2; subst h1; subst h2; exact .inl rfl
      | n + 4, h1, _ => simp at h1
    have h3 : StG gW W OW 35 (tiKeep.zip [.ro 1 m (rowL d), .ro 1 (wlL d m).length (rowB q (dW d m)), .ro 1 (llL d m).length (rowB q (dL d m)), .int .i64 (m : Int)]) [] a w := by
      refine StG.freeze (B := []) (bd := .lists q .u8 (wlL d m)) h2 rfl (by decide) rfl fun j c c' h1 h2 => ?_
      match j, h1, h2 with
      | 0, h1, h2 => simp at h1 h2; subst h1; subst h2; exact .inl rfl
      | 1, h1, h2 =>
        simp at h1 h2; subst h1; subst h2
        exact .inr fun w0 O ρ H w Φ O1 x hb hO hm _ v ρ1 hd => frozen_lists x hb hm hO hd
      | 2, h1, h2 => simp at h1 h2; subst h1; subst h2; exact .inl rfl
      | 3, h1, h2 => simp at h1 h2; subst h1; subst h2; exact .inl rfl
      | n + 4, h1, _ => simp at h1
    rw [wlL_len, llL_len] at h3
    have h4 : StG gW W OW 35 ([4, 5].zip [.ro 1 m (rowB q (dW d m)), .ro 1 m (rowB q (dL d m))]) [] a w := by
      obtain ⟨w0, O, ρ, Φ, hG, hgr, r, hr⟩ := h3
      exact ⟨w0, O, ρ, Φ, hG, hgr, r.sub (sub_mkT (by simp; exact ⟨rfl, rfl⟩)), hr⟩
    exact StG.run h4 gW_ok (by decide) (ti_post m m _ _) (by simp [AllC]) (by decide) (by decide) (by simp) fun a w h => ⟨rfl, _, _, h, rfl⟩
theorem rowB_imp {q n : Nat} {d : Nat → List Int} : DenImp (.ro 1 n (rowB q d)) (.ro 1 n (rowL d)) := fun w0 O ρ v h => by
  obtain ⟨h1, h2⟩ := denV_cell h (by simp) rfl
  refine den_cell rfl h2 ?_
  simp only [DenC] at h1 ⊢
  obtain ⟨a, cap, e1, e2, e3⟩ := h1
  exact ⟨a, cap, e1, e2, fun h0 => let ⟨b, o, g1, g2⟩ := e3 h0; ⟨b, o, g1, fun i hi => let ⟨us, u1, u2, u3⟩ := g2 i hi; ⟨us, u1, u2, by
    have h := rob_roi (w0 := w0) (O := O) (ρ := fun _ => none) (q := q) (k := .u8) (l := d i) (vs := us) (by simp only [DenC]; exact u3)
    simp only [DenC] at h
    exact h⟩⟩⟩
end Go.Proofs.Ytejcjdhplpjpjaa

namespace Go.Proofs.Ytejcjdhplpjpjaa
open Go Go.Vx
/-! ### MacChecks -/
noncomputable abbrev ckC : Code := match Try.f9.body with | some c => c | none => .skip
noncomputable abbrev ckB (k t : Nat → Int) : List Body := [.cells (svF (List.replicate 32 .u8) k 0), .cells (svF (List.replicate 16 .u8) t 0)]
noncomputable abbrev ckS0 (m : Nat) (d : Nat → List Int) : List (Nat × SV) := [2, 3, 4].zip [.ro 1 m (rowL d), .ptr 0 0, .ptr 1 0]
noncomputable abbrev ckS1 (m : Nat) (d dw dl : Nat → List Int) : List (Nat × SV) := [2, 3, 4, 7, 8].zip [.ro 1 m (rowL d), .ptr 0 0, .ptr 1 0, .ro 1 m (rowL dw), .ro 1 m (rowL dl)]
noncomputable abbrev ckS2 (q m : Nat) (d dw dl : Nat → List Int) : List (Nat × SV) := [2, 3, 4, 7, 8].zip [.ro 1 m (rowL d), .ptr 0 0, .ptr 1 0, .ro 1 m (rowB q dw), .ro 1 m (rowB q dl)]
abbrev lX9 (d : Nat → List Int) (m : Nat) : Bool := decide (400 < m ∨ stp d m < m)
theorem ck_pre (m : Nat) (d : Nat → List Int) (k t : Nat → Int) : runC gW 900 71 [.br false] (takeSeq 2 ckC) [(0, .agg (svF (List.replicate 32 .u8) k 0)), (1, .agg (svF (List.replicate 16 .u8) t 0)), (2, .ro 1 m (rowL d))] [] [2, 3, 4] [0, 1] =
    some (.normal, [.ro 1 m (rowL d), .ptr 0 0, .ptr 1 0], (ckB k t).map some, lC (rowL d) m ++ [lX9 d m = false]) :=
  r3_parts4 (by kernel_rfl) (by kernel_rfl) (by kernel_rfl) (by kernel_rfl)
noncomputable def wantL (k : Nat → Int) (x : List Int) : List Int := dTag (kT (kk k)) (atL (hiK (kk k))) x
abbrev ckA (k t : Nat → Int) (x : List Int) : Bool := CK (kk k) (atL (listF 16 t 0)) x
noncomputable abbrev ckT (k : Nat → Int) (x y : List Int) : Bool := CK (kk k) (atL (listF 16 (atL (wantL k x)) 0)) y
abbrev ckE (dl : Nat → List Int) (m : Nat) (b : Bool) : List (List Int) := ([] ++ ofT dl m) ++ [[1, bI b]]
noncomputable abbrev ckM (d dl : Nat → List Int) (m : Nat) (b1 b2 : Bool) : List Prop := [true = true, ckE dl m b1 = eoT (lnL d m) ++ [[1, bI b2]], (ckE dl m b1).length ≤ 140737488355328, (lnL d m).length ≤ 1000, LnC (lnL d m)] ++ (pC (rowL d) m ++ [(ckE dl m b1).length * 16 ≤ 2 ^ 47])
noncomputable abbrev ckO (dl : Nat → List Int) (m : Nat) : List Prop := ((([] : List (List Int)) ++ ofT dl m).length < 1099511627776) :: olC (rowL dl) m []
theorem ck_rest (m : Nat) (d dw dl : Nat → List Int) (k t : Nat → Int) : runC gW 900 71 [.br false, .br false, .br false, .br true, .br true] (dropSeq 3 ckC) (ckS1 m d dw dl) (ckB k t) [6] [] =
    some (.ret, [.sbool true], ([] : List Body).map some, [(xZ d m).length = (xZ d m).length, (xZ d m).length ≤ 140737488355328] ++ (pC (rowL d) m ++ (ckO dl m ++ (ckO dl m ++ ((m = m) :: (m = m) :: (unC (rowL dw) (rowL dl) (rowL d) m ++
      ([(!ckT k (xZ d m) (xZ dl m)) = false, (!(ckA k t (xZ dl m) == decide (listF 16 t 0 = listF 16 (atL (wantL k (xZ d m))) 0))) = false, (!true) = false] ++ (ckM d dl m (ckT k (xZ d m) (xZ dl m)) true ++ ckM d dl m (ckA k t (xZ dl m)) (ckA k t (xZ dl m)))))))))) :=
  r3_parts4 (by kernel_rfl) (by kernel_rfl) (by kernel_rfl) (by kernel_rfl)
theorem ck_run2 (m : Nat) (d : Nat → List Int) (k t : Nat → Int) : runF gW 900 [.br true] 9 [.agg (svF (List.replicate 32 .u8) k 0), .agg (svF (List.replicate 16 .u8) t 0), .ro 1 m (rowL d)] [] [] =
    some (.bool true, [], lC (rowL d) m ++ [lX9 d m = true]) :=
  run_parts (by kernel_rfl) (by kernel_rfl) (by kernel_rfl)
/-! ### the call of twins -/
def regOps : Code → Array Oper
  | .region _ ops _ => ops
  | _ => #[]
noncomputable abbrev ckR3 : Code := match dropSeq 2 ckC with | .seq a _ => a | _ => .skip
noncomputable abbrev ckOps : Array Oper := regOps ckR3
theorem ck_3 : dropSeq 2 ckC = .seq (.region 3 ckOps false) (dropSeq 3 ckC) := by kernel_rfl
theorem ck_two {W : World} {OW : Go.Vx.Own} (m : Nat) (d : Nat → List Int) (k t : Nat → Int) (hm : m ≤ 1000) (hl : ∀ i, i < m → (d i).length ≤ 131072) {a : Act} {w : World} (h : StG gW W OW 71 (ckS0 m d) (ckB k t) a w) {Q : Exit → Act → World → Prop}
    (hQ : ∀ a' w', StG gW W OW 71 (ckS1 m d (dW d m) (dL d m)) (ckB k t) a' w' → Q .normal a' w') : (Code.region 3 ckOps false).wp gW.P Q a w := by
  refine StG.two (q := 0) (S' := ckS2 0 m d (dW d m) (dL d m)) (x := 2) (t1 := 17) (t2 := 18) (t3 := 16) (t4 := 19) (t5 := 20) (t6 := 7) (t7 := 8) (f := 27) (fn := Try.f27) (c := tiC) (sz2 := 1) (n2 := m) (F := rowL d) (S0 := [(0, .ro 1 m (rowL d))])
    (o0 := ckOps[0]!) (o1 := ckOps[1]!) (o2 := ckOps[2]!) (o3 := ckOps[3]!) (o4 := ckOps[4]!) (o5 := ckOps[5]!) (o6 := ckOps[6]!) (by kernel_rfl) (by kernel_rfl) (by kernel_rfl) (by kernel_rfl) (by kernel_rfl) (by kernel_rfl) (by kernel_rfl)
    ⟨by kernel_rfl, by kernel_rfl, by kernel_rfl, by kernel_rfl, by kernel_rfl, by kernel_rfl, by kernel_rfl⟩ ⟨by kernel_rfl, by kernel_rfl, by kernel_rfl, by kernel_rfl, by kernel_rfl, by kernel_rfl, by kernel_rfl⟩ (by decide) (by decide) gW_ok Try.func27 rfl (by decide) (by decide) rfl
    (fun T hT => (show calleeV gW T (ckOps[1]!).op = some (27, [T 17]) by kernel_rfl).trans (by rw [hT])) (fun y hy => ?_) (fun W OW hq ho hG a w h => ti_callee 0 d m hm hl W OW hq ho hG a w h) (Nat.zero_le _) rfl h (fun t => ?_) (fun a' w' h => hQ a' w' (StG.pre h (fun t => ?_)))
  · rw [show (ckOps[1]!).op.operands = #[.func 27, .tmp 17] by kernel_rfl] at hy
    simp at hy
    rcases hy with rfl | rfl
    · exact .inr ⟨_, rfl⟩
    · exact .inl rfl
  · rcases tget_mkT (ckS2 0 m d (dW d m) (dL d m)) t (by simp) with e | ⟨y, h1, h2, h3⟩
    · exact .inl e
    · right
      rw [h3]
      simp at h1
      rcases h1 with rfl | rfl | rfl | rfl | rfl <;> (simp only at h2; subst h2; rfl)
  · refine zip_rel (R := DenImp) (DenImp.refl _) [2, 3, 4, 7, 8] [.ro 1 m (rowL d), .ptr 0 0, .ptr 1 0, .ro 1 m (rowB 0 (dW d m)), .ro 1 m (rowB 0 (dL d m))] [.ro 1 m (rowL d), .ptr 0 0, .ptr 1 0, .ro 1 m (rowL (dW d m)), .ro 1 m (rowL (dL d m))] (by decide) rfl (fun i c c' h1 h2 => ?_) t
    match i, h1, h2 with
    | 0, h1, h2 => simp at h1 h2; subst h1; subst h2; exact DenImp.refl _
    | 1, h1, h2 => simp at h1 h2; subst h1; subst h2; exact DenImp.refl _
    | 2, h1, h2 => simp at h1 h2; subst h1; subst h2; exact DenImp.refl _
    | 3, h1, h2 => simp at h1 h2; subst h1; subst h2; exact rowB_imp
    | 4, h1, h2 => simp at h1 h2; subst h1; subst h2; exact rowB_imp
    | n + 5, h1, _ => simp at h1
/-! ### the account -/
theorem xZ_cg {d e : Nat → List Int} : ∀ {m : Nat}, (∀ i, i < m → d i = e i) → xZ d m = xZ e m
  | 0, _ => rfl
  | m + 1, h => by simp only [xZ]; rw [xZ_cg fun i hi => h i (by omega), h m (by omega)]
theorem ofT_cg {d e : Nat → List Int} {m : Nat} (h : ∀ i, i < m → d i = e i) : ofT d m = ofT e m := by
  have key : ∀ i, i ≤ m → ofH d i = ofH e i ∧ ofE d i = ofE e i := by
    intro i
    induction i with
    | zero => intro _; exact ⟨rfl, rfl⟩
    | succ i ih =>
      intro hi
      obtain ⟨h1, h2⟩ := ih (by omega)
      exact ⟨by simp only [ofH]; rw [h1, h i (by omega)], by simp only [ofE]; rw [h1, h2, h i (by omega)]⟩
  obtain ⟨h1, h2⟩ := key m (Nat.le_refl _)
  rw [ofT, ofT, h1, h2]
theorem CK_eq (k t : Nat → Int) (x : List Int) : CK (kk k) t x = decide (wantL k x = listF 16 t 0) := by
  have e : listF 16 (atL (DT (kk (kk k)) x)) 0 = wantL k x := by
    rw [DT_L]; unfold DT wantL; rw [kk_kk, kk_kk]
  unfold CK
  rw [e]
  by_cases c : wantL k x = listF 16 t 0
  · rw [if_pos c, decide_eq_true c]; rfl
  · rw [if_neg c, decide_eq_false c]; rfl
theorem wantL_L (k : Nat → Int) (x : List Int) : listF 16 (atL (wantL k x)) 0 = wantL k x := dTag_L _ _ _
theorem checks_ok (k t : Nat → Int) (m : Nat) (d : Nat → List Int) (Fm : Fits .i64 (m : Int)) (hff : ∀ i, i < m → factsC (rowL d i)) (hLB : LB d m) :
    FnOk gW 9 [.agg (svF (List.replicate 32 .u8) k 0), .agg (svF (List.replicate 16 .u8) t 0), .ro 1 m (rowL d)] [] { val := .bool true } := by
  have hc : AllC (lC (rowL d) m) := by
    simp only [lC, allC_cons, allC_nil, and_true]; exact ⟨rfl, Fm, hLB⟩
  by_cases hX : 400 < m ∨ stp d m < m
  · exact FnOk.pure gW_ok (ck_run2 m d k t) (allC_append.2 ⟨hc, by simp only [allC_cons, allC_nil, and_true]; exact decide_eq_true hX⟩)
  · have hm : m ≤ 400 := by omega
    have hs : stp d m = m := by have := stp_le d m; omega
    have hl : ∀ i, i < m → (d i).length ≤ 131072 := fun i hi => by
      have := stp_lt (d := d) (m := m) (i := i) (by omega); omega
    have hx : (xZ d m).length ≤ 131072 := xZ_len (d := d) (m := m) m (by omega)
    have hd : ∀ i, i < m → dL d m i = d i := fun i hi => llL_get d hi
    have hw : ∀ i, i < m → dW d m i = roomL (d i) := fun i hi => wlL_get d hi
    refine FnOk.ofSb (b := true) (FnOk.ofG (t := 6) (fn := Try.f9) (c := ckC) (S := [(0, .agg (svF (List.replicate 32 .u8) k 0)), (1, .agg (svF (List.replicate 16 .u8) t 0)), (2, .ro 1 m (rowL d))]) gW_ok Try.func9 rfl (by decide) (by show 3 ≤ _; decide) rfl rfl sbool_all fun W OW _ a w h => ?_) rfl
    have h : StG gW W OW 71 [(0, .agg (svF (List.replicate 32 .u8) k 0)), (1, .agg (svF (List.replicate 16 .u8) t 0)), (2, .ro 1 m (rowL d))] [] a w := h
    refine StG.cut (k := 2) h gW_ok (by decide) (ck_pre m d k t) (allC_append.2 ⟨hc, by simp only [allC_cons, allC_nil, and_true]; exact decide_eq_false hX⟩) (by decide) (by decide) (by simp) fun a w h => ?_
    rw [ck_3]
    refine wp_seq (ck_two m d k t (by omega) hl h fun a w h => ?_)
    show (dropSeq 3 ckC).wp _ _ a w
    refine StG.run h gW_ok (by decide) (ck_rest m d (dW d m) (dL d m) k t) ?_ (by decide) (by decide) (by simp) fun a w h => ⟨rfl, _, _, h, rfl⟩
    have ex : xZ (dL d m) m = xZ d m := xZ_cg hd
    have eT : ofT (dL d m) m = ofT d m := ofT_cg hd
    have hln := lnL_ok hl
    have hlT := eoT_len (L := lnL d m) (by rw [lnL_len]; omega) hln
    rw [eoT_eq] at hlT
    have hpC : AllC (pC (rowL d) m) := by
      simp only [pC, allC_cons, allC_nil, and_true]; exact ⟨rfl, by omega, hl⟩
    have hO : AllC (ckO (dL d m) m) := by
      simp only [ckO, olC, allC_cons, allC_nil, and_true, List.nil_append]
      rw [eT]
      refine ⟨by omega, rfl, by omega, fun i hi => ?_, fun i hi => ?_, by simp⟩
      · show (dL d m i).length ≤ 131072
        rw [hd i hi]; exact hl i hi
      · show factsC (.roi .u8 (dL d m i))
        rw [hd i hi]; exact hff i hi
    have hU : AllC (unC (rowL (dW d m)) (rowL (dL d m)) (rowL d) m) := by
      simp only [unC, allC_cons, allC_nil, and_true]
      exact ⟨rfl, rfl, rfl, by omega, hl, fun i hi => hw i hi, fun i hi => by show (dL d m i).length = _; rw [hd i hi]; rfl⟩
    have hM : ∀ b, AllC (ckM d (dL d m) m b b) := fun b => by
      have e : ckE (dL d m) m b = ofT d m ++ [[1, bI b]] := by rw [ckE, List.nil_append, eT]
      simp only [ckM, e, allC_append, allC_cons, allC_nil, and_true, List.length_append, List.length_cons, List.length_nil]
      rw [eoT_eq]
      exact ⟨⟨trivial, rfl, by omega, by rw [lnL_len]; omega, hln⟩, ⟨rfl, by omega, hl⟩, by omega⟩
    have tT : ckT k (xZ d m) (xZ (dL d m) m) = true := by
      rw [ex]
      show CK (kk k) (atL (listF 16 (atL (wantL k (xZ d m))) 0)) (xZ d m) = true
      rw [CK_eq, wantL_L, wantL_L]
      exact decide_eq_true rfl
    have tA : (ckA k t (xZ (dL d m) m) == decide (listF 16 t 0 = listF 16 (atL (wantL k (xZ d m))) 0)) = true := by
      rw [ex]
      show (CK (kk k) (atL (listF 16 t 0)) (xZ d m) == _) = true
      have el : listF 16 (atL (listF 16 t 0)) 0 = listF 16 t 0 := by
        have := listF_atL (listF 16 t 0)
        rw [listF_length] at this; exact this
      rw [CK_eq, el, wantL_L, beq_iff_eq]
      exact decide_eq_decide.2 ⟨fun h => h.symm, fun h => h.symm⟩
    refine allC_append.2 ⟨?_, allC_append.2 ⟨hpC, allC_append.2 ⟨hO, allC_append.2 ⟨hO, allC_cons.2 ⟨rfl, allC_cons.2 ⟨rfl, allC_append.2 ⟨hU, allC_append.2 ⟨?_, allC_append.2 ⟨?_, hM _⟩⟩⟩⟩⟩⟩⟩⟩⟩
    · simp only [allC_cons, allC_nil, and_true]; exact ⟨trivial, by omega⟩
    · simp only [allC_cons, allC_nil, and_true]; exact ⟨by rw [tT]; rfl, by rw [tA]; rfl, rfl⟩
    · rw [tT]; exact hM true
end Go.Proofs.Ytejcjdhplpjpjaa

namespace Go.Proofs.Ytejcjdhplpjpjaa
open Go Go.Vx
/-! ### MacOfs: the runs -/
noncomputable abbrev gX : Ctx := gW.add [(16, roW (oneOf (oneOf F16 F16s) F16l)), (28, roW F28), (31, roW F31)]
theorem gX_ok : CtxU gX := gW_ok.add mixed noGo (by
  intro x hx
  simp only [List.mem_cons, List.not_mem_nil, or_false] at hx
  rcases hx with rfl | rfl | rfl
  · exact acc_roW (Acc.of (g := gv) rfl rfl (acc_one (acc_one (Acc.of (g := gn) rfl rfl acc16) (Acc.of (g := gn) rfl rfl acc16s)) acc16l))
  · exact acc_roW (Acc.of (g := gn) rfl rfl acc28)
  · exact acc_roW (Acc.of (g := gn1) rfl rfl acc31))
noncomputable abbrev fsC : Code := match Try.f8.body with | some c => c | none => .skip
noncomputable abbrev fsL : Code := bodyAt Try.prog 8 11
noncomputable abbrev fs10 : Code := match dropSeq 8 fsC with | .seq (.seq a _) _ => a | _ => .skip
noncomputable abbrev fs11 : Code := match fsL with | .seq a _ => a | _ => .skip
noncomputable abbrev fs13 : Code := match fsL with | .seq _ (.seq (.block _ (.seq a _)) _) => a | _ => .skip
noncomputable abbrev fs14 : Code := match fsL with | .seq _ (.seq (.block _ (.seq _ (.cond _ (.seq a _) _))) _) => a | _ => .skip
noncomputable abbrev fs15 : Code := match fsL with | .seq _ (.seq (.block _ (.seq _ (.cond _ (.seq _ a) _))) _) => a | _ => .skip
noncomputable abbrev fs12 : Code := match fsL with | .seq _ (.seq _ a) => a | _ => .skip
theorem fsL_eq : fsL = .seq fs11 (.seq (.block 1 (.seq fs13 (.cond (.tmp 60) (.seq fs14 fs15) .skip))) fs12) := by kernel_rfl
theorem fs_8 : dropSeq 8 fsC = .seq (.seq fs10 (.block 0 (.loop fsL))) (dropSeq 9 fsC) := by kernel_rfl
noncomputable abbrev fsB (k : Nat → Int) : List Body := [.cells (svF (List.replicate 32 .u8) k 0)]
noncomputable abbrev fsD (k t : Nat → Int) : List Body := [.cells (svF (List.replicate 32 .u8) k 0), .cells (svF (List.replicate 16 .u8) t 0)]
noncomputable abbrev fsS0 (m : Nat) (d : Nat → List Int) : List (Nat × SV) := [1, 2].zip [.ro 1 m (rowL d), .ptr 0 0]
noncomputable abbrev fsS1 (q m : Nat) (d dw dl : Nat → List Int) : List (Nat × SV) := [1, 2, 5, 6].zip [.ro 1 m (rowL d), .ptr 0 0, .ro 1 m (rowB q dw), .ro 1 m (rowB q dl)]
abbrev fsKeep : List Nat := [2, 6, 9, 11]
noncomputable abbrev fsO (q m : Nat) (dl : Nat → List Int) (i : Int) : List SV := [.ptr 0 0, .ro 1 m (rowB q dl), .ptr 1 0, .int .i64 i]
noncomputable abbrev fsS (q m : Nat) (dl : Nat → List Int) (i : Nat) : List (Nat × SV) := fsKeep.zip (fsO q m dl (i : Int))
theorem fs_pre (m : Nat) (d : Nat → List Int) (k : Nat → Int) : runC gX 900 87 [.br false] (takeSeq 2 fsC) [(0, .agg (svF (List.replicate 32 .u8) k 0)), (1, .ro 1 m (rowL d))] [] [1, 2] [0] =
    some (.normal, [.ro 1 m (rowL d), .ptr 0 0], (fsB k).map some, lC (rowL d) m ++ [lX9 d m = false]) :=
  r3_parts4 (by kernel_rfl) (by kernel_rfl) (by kernel_rfl) (by kernel_rfl)
theorem fs_run2 (m : Nat) (d : Nat → List Int) (k : Nat → Int) : runF gX 900 [.br true] 8 [.agg (svF (List.replicate 32 .u8) k 0), .ro 1 m (rowL d)] [] [] =
    some (.bool true, [], lC (rowL d) m ++ [lX9 d m = true]) :=
  run_parts (by kernel_rfl) (by kernel_rfl) (by kernel_rfl)
abbrev fsE (dl : Nat → List Int) (m : Nat) : List (List Int) := [] ++ ofT dl m
noncomputable abbrev fsX (k : Nat → Int) (x y : List Int) : Prop := (!decide (listF 16 (atL (DT (kk k) y)) 0 = listF 16 (atL (wantL k x)) 0)) = false
theorem fs_mid (q m : Nat) (d dw dl : Nat → List Int) (k : Nat → Int) : runC gX 900 87 [.br false, .br false, .br false] (takeSeq 5 (dropSeq 3 fsC)) (fsS1 q m d dw dl) (fsB k) [2, 6, 9] [0, 4] =
    some (.normal, [.ptr 0 0, .ro 1 m (rowB q dl), .ptr 1 0], (fsD k (atL (wantL k (xZ d m)))).map some, olC (rowL dl) m [] ++ ([(xZ d m).length = (xZ d m).length, (xZ d m).length ≤ 140737488355328] ++ (pC (rowL d) m ++ ([(lnL d m).length ≤ 1000, LnC (lnL d m)] ++ (pC (rowL d) m ++
      ([fsE dl m = eoT (lnL d m), (fsE dl m).length ≤ 140737488355328, (fsE dl m).length * 16 ≤ 2 ^ 47, (!true) = false, m = m, m = m] ++ (unC (rowL dw) (rowL dl) (rowL d) m ++ [fsX k (xZ d m) (xZ dl m), (!true) = false]))))))) :=
  r3_parts4 (by kernel_rfl) (by kernel_rfl) (by kernel_rfl) (by kernel_rfl)
theorem fs_r10 (q m : Nat) (dl : Nat → List Int) (k t : Nat → Int) : runC gX 300 87 [] fs10 ([2, 6, 9].zip [.ptr 0 0, .ro 1 m (rowB q dl), .ptr 1 0]) (fsD k t) fsKeep [0, 1] =
    some (.normal, [.ptr 0 0, .ro 1 m (rowB q dl), .ptr 1 0, .lit .i64 0], (fsD k t).map some, []) :=
  r3_parts4 (by kernel_rfl) (by kernel_rfl) (by kernel_rfl) (by kernel_rfl)
theorem fs_go (q m i : Nat) (dl : Nat → List Int) (k t : Nat → Int) : runC gX 300 87 [.br true, .br false] fsL (fsS q m dl i) (fsD k t) fsKeep [0, 1] =
    some (.normal, fsO q m dl ((i : Int) + 1), (fsD k t).map some, [Fits .i64 (m : Int), decide ((i : Int) < (m : Int)) = true, Fits .i64 ((dl (i : Int).toNat).length : Int), (0 : Int) ≤ (i : Int) ∧ (i : Int) < (m : Int), decide ((0 : Int) < ((dl (i : Int).toNat).length : Int)) = false, Fits .i64 ((i : Int) + 1)]) :=
  r3_parts4 (by kernel_rfl) (by kernel_rfl) (by kernel_rfl) (by kernel_rfl)
theorem fs_end (q m i : Nat) (dl : Nat → List Int) (k t : Nat → Int) : runC gX 300 87 [.br false] fsL (fsS q m dl i) (fsD k t) fsKeep [0, 1] =
    some (.exit 0, fsO q m dl (i : Int), (fsD k t).map some, [Fits .i64 (m : Int), decide ((i : Int) < (m : Int)) = false]) :=
  r3_parts4 (by kernel_rfl) (by kernel_rfl) (by kernel_rfl) (by kernel_rfl)
theorem fs_r11 (q m i : Nat) (dl : Nat → List Int) (k t : Nat → Int) : runC gX 300 87 [.br true] fs11 (fsS q m dl i) (fsD k t) fsKeep [0, 1] =
    some (.normal, fsO q m dl (i : Int), (fsD k t).map some, [Fits .i64 (m : Int), decide ((i : Int) < (m : Int)) = true]) :=
  r3_parts4 (by kernel_rfl) (by kernel_rfl) (by kernel_rfl) (by kernel_rfl)
theorem fs_r13 (q m i : Nat) (dl : Nat → List Int) (k t : Nat → Int) : runC gX 300 87 [] fs13 (fsS q m dl i) (fsD k t) [2, 6, 9, 11, 60] [0, 1] =
    some (.normal, fsO q m dl (i : Int) ++ [.sbool (decide ((0 : Int) < ((dl (i : Int).toNat).length : Int)))], (fsD k t).map some, [Fits .i64 ((dl (i : Int).toNat).length : Int), (0 : Int) ≤ (i : Int) ∧ (i : Int) < (m : Int)]) :=
  r3_parts4 (by kernel_rfl) (by kernel_rfl) (by kernel_rfl) (by kernel_rfl)
theorem fs_r15 (m : Nat) (e : Nat → List Int) (k t : Nat → Int) : runC gX 900 87 [.br true] fs15 ([2, 6, 9].zip [.ptr 0 0, .ro 1 m (rowL e), .ptr 1 0]) (fsD k t) [4] [] =
    some (.ret, [.sbool true], ([] : List Body).map some, oC (rowL e) m ++ ([(xZ e m).length = (xZ e m).length, (xZ e m).length ≤ 140737488355328] ++ (pC (rowL e) m ++ [decide (listF 16 (atL (DT (kk k) (xZ e m))) 0 = listF 16 (atL (wantL k (xZ e m))) 0) = true]))) :=
  r3_parts4 (by kernel_rfl) (by kernel_rfl) (by kernel_rfl) (by kernel_rfl)
theorem fs_r18 (q m : Nat) (dl : Nat → List Int) (i : Nat) (k t : Nat → Int) : runC gX 300 87 [] (dropSeq 9 fsC) (fsS q m dl i) (fsD k t) [4] [] =
    some (.ret, [.sbool true], ([] : List Body).map some, []) :=
  r3_parts4 (by kernel_rfl) (by kernel_rfl) (by kernel_rfl) (by kernel_rfl)
end Go.Proofs.Ytejcjdhplpjpjaa

namespace Go.Proofs.Ytejcjdhplpjpjaa
open Go Go.Vx
/-! ### MacOfs: a byte of one of the lists is turned -/
noncomputable abbrev op14 : Array Oper := regOps fs14
noncomputable abbrev l14 : List Oper := [op14[0]!, op14[1]!, op14[2]!, op14[3]!, op14[4]!, op14[5]!, op14[6]!, op14[7]!, op14[8]!, op14[9]!, op14[10]!, op14[11]!, op14[12]!]
theorem fs14_eq : fs14 = .region 14 l14.toArray true := by kernel_rfl
theorem ptr_den {w0 w1 : World} {O O1 : Go.Vx.Own} {ρ : Rho} {id off : Nat} {v : Value} (h : DenV w0 O ρ (.ptr id off) v) : DenV w1 O1 ρ (.ptr id off) v := by
  obtain ⟨h1, h2⟩ := denV_cell h (by simp) rfl
  exact den_cell rfl h2 (by simpa only [DenC] using h1)
theorem int_den {w0 : World} {O : Go.Vx.Own} {ρ : Rho} {k : IntKind} {n : Int} {v : Value} (h : DenV w0 O ρ (.int k n) v) : v = .int k n := by
  obtain ⟨h1, _⟩ := denV_cell h (by simp) rfl
  simp only [DenC] at h1
  simpa using h1.1
theorem fsD_clean (k t : Nat → Int) : ∀ id bd, BH (fsD k t) id = some bd → cleanB bd = true := fun id bd h => by
  match id, h with
  | 0, h => simp [BH] at h; subst h; rfl
  | 1, h => simp [BH] at h; subst h; rfl
  | n + 2, h => simp [BH] at h
theorem c27 : gX.P.cellsOf 27 = 1 := by kernel_rfl
theorem c5 : gX.P.cellsOf 5 = 1 := by kernel_rfl
theorem u47 : gX.P.underlying 47 = some (.slice 27) := by kernel_rfl
theorem u27 : gX.P.underlying 27 = some (.slice 5) := by kernel_rfl
theorem u5 : ∃ dd, gX.P.underlying 5 = some dd := known_spec (by kernel_rfl)
set_option maxRecDepth 100000 in
theorem fs_poke {W : World} {OW : Go.Vx.Own} (hG0 : GlobOk gX W OW) {q m i : Nat} {dl : Nat → List Int} {k t : Nat → Int} (hq : W.heap.size ≤ q) (hi : i < m) (h0 : 0 < (dl i).length) {S : List (Nat × SV)}
    (h2 : tget (mkT S) 2 = .ptr 0 0) (h6 : tget (mkT S) 6 = .ro 1 m (rowB q dl)) (h9 : tget (mkT S) 9 = .ptr 1 0) (h11 : tget (mkT S) 11 = .int .i64 (i : Int)) {a : Act} {w : World} (h : StG gX W OW 87 S (fsD k t) a w) {Q : Exit → Act → World → Prop}
    (hQ : ∀ (e : Nat → List Int) a' w', (∀ j, (e j).length = (dl j).length) → (∀ j, j < m → ∀ x ∈ e j, Fits .u8 x) → StG gX W OW 87 ([2, 6, 9].zip [.ptr 0 0, .ro 1 m (rowL e), .ptr 1 0]) (fsD k t) a' w' → Q .normal a' w') : fs14.wp gX.P Q a w := by
  obtain ⟨w0, O, ρ, Φ, hG, hgr, r, hr⟩ := h
  have d6 := r.tmps 6
  rw [h6] at d6
  have e11 := r.tmps 11
  rw [h11] at e11
  have e11 := int_den e11
  obtain ⟨c6, _⟩ := denV_cell d6 (by simp) rfl
  simp only [DenC] at c6
  obtain ⟨a6, cap, e6, _, g6⟩ := c6
  obtain ⟨b0, o0, rfl, g7⟩ := g6 (by omega)
  obtain ⟨us, u1, u2, u3⟩ := g7 i hi
  obtain ⟨a', cap', rfl, f2, f3, f4⟩ := u3
  obtain ⟨bi, oi, rfl, f5, f6⟩ := f3 h0
  have e6 : a.tmps.getD 6 undef = .slice (some (adr b0 o0)) m cap := by simpa using e6
  rw [e6] at d6
  obtain ⟨n0, hn0⟩ : ∃ n0, (dl i)[0]? = some n0 := ⟨_, List.getElem?_eq_getElem h0⟩
  have hm : O.mem bi oi (.int .u8 n0) := f6 0 (.int .u8 n0) (by rw [List.getElem?_map, hn0]; rfl)
  rw [fs14_eq]
  refine wp_region_still_tail 12 mixed (by kernel_rfl) ?_
  have r1 : RelA 87 w0 O ρ (putF (tget (mkT S)) (some 6) (.raw (.slice (some (adr b0 o0)) m cap))) (BH (fsD k t)) Φ a { w with drawn := w.drawn + 1 } := ⟨r.size, r.defers, fun t => by
    by_cases ht : t = 6
    · subst ht
      rw [putF_same, e6]
      exact den_cell rfl rfl (by simp only [DenC]; exact ⟨trivial, rfl⟩)
    · rw [putF_ne _ _ (Ne.symm ht)]
      exact r.tmps t, r.heap.heapEq rfl rfl rfl rfl⟩
  generalize ({ w with drawn := w.drawn + 1 } : World) = w1 at *
  have hh : w1.cell? (adr b0 (o0 + i * 1)) = some (.slice (some (adr bi oi)) (dl i).length cap') := r1.heap.memCell (u2 0 _ rfl)
  have hb := r1.heap.memCell hm
  have ei : ((i : Int)).toNat * gX.P.cellsOf 27 = i * 1 := by rw [c27]; rfl
  have e0 : (0 : Int).toNat * gX.P.cellsOf 5 = 0 := by rw [c5]; rfl
  obtain ⟨dd, u5⟩ := u5
  show wpStill gX.P l14.toArray w1 (fun a' => wpList gX.P l14.toArray Q [op14[12]!] a' w1) [op14[0]!, op14[1]!, op14[2]!, op14[3]!, op14[4]!, op14[5]!, op14[6]!, op14[7]!, op14[8]!, op14[9]!, op14[10]!, op14[11]!] a
  refine still_raw r1 (d := 61) (u := .slice (some (adr b0 o0)) m cap) (by kernel_rfl) (by kernel_rfl) (by decide) rfl (by have := raw_at r1 (t := 6) rfl; rw [← this]; exact exec_move (.inl (by kernel_rfl))) fun a2 r2 => ?_
  refine still_raw r2 (d := 62) (u := .int .i64 (i : Int)) (by kernel_rfl) (by kernel_rfl) (by decide) rfl (by have := r2.tmps 11; rw [show putF (putF (tget (mkT S)) (some 6) (.raw (.slice (some (adr b0 o0)) m cap))) (some 61) (.raw (.slice (some (adr b0 o0)) m cap)) 11 = tget (mkT S) 11 from rfl, h11] at this; rw [← int_den this]; exact exec_move (.inl (by kernel_rfl))) fun a3 r3 => ?_
  refine still_raw r3 (d := 63) (u := .pointer (some (adr b0 (o0 + i * 1)))) (by kernel_rfl) (by kernel_rfl) (by decide) rfl (by rw [← ei]; exact exec_index (o := op14[2]!) (x := 61) (i := .tmp 62) (k := .i64) (ii := (i : Int)) (by kernel_rfl) u47 (by kernel_rfl) (raw_at r3 (t := 61) rfl) (show a3.eval (.tmp 62) = .int .i64 (i : Int) from raw_at r3 (t := 62) rfl) ⟨by omega, by omega⟩) fun a4 r4 => ?_
  refine still_raw r4 (d := 64) (u := .slice (some (adr bi oi)) (dl i).length cap') (by kernel_rfl) (by kernel_rfl) (by decide) rfl (exec_load (o := op14[3]!) (x := 63) (by kernel_rfl) u27 (by kernel_rfl) c27 (raw_at r4 (t := 63) rfl) hh) fun a5 r5 => ?_
  refine still_raw r5 (d := 65) (u := .slice (some (adr b0 o0)) m cap) (by kernel_rfl) (by kernel_rfl) (by decide) rfl (by have := raw_at r5 (t := 6) rfl; rw [← this]; exact exec_move (.inl (by kernel_rfl))) fun a6 r6 => ?_
  refine still_raw r6 (d := 66) (u := .int .i64 (i : Int)) (by kernel_rfl) (by kernel_rfl) (by decide) rfl (by have := raw_at r6 (t := 62) rfl; have h3 := r6.tmps 11; rw [show putF (putF (putF (putF (putF (putF (tget (mkT S)) (some 6) (.raw (.slice (some (adr b0 o0)) m cap))) (some 61) (.raw (.slice (some (adr b0 o0)) m cap))) (some 62) (.raw (.int .i64 (i : Int)))) (some 63) (.raw (.pointer (some (adr b0 (o0 + i * 1)))))) (some 64) (.raw (.slice (some (adr bi oi)) (dl i).length cap'))) (some 65) (.raw (.slice (some (adr b0 o0)) m cap)) 11 = tget (mkT S) 11 from rfl, h11] at h3; rw [← int_den h3]; exact exec_move (.inl (by kernel_rfl))) fun a7 r7 => ?_
  refine still_raw r7 (d := 67) (u := .pointer (some (adr b0 (o0 + i * 1)))) (by kernel_rfl) (by kernel_rfl) (by decide) rfl (by rw [← ei]; exact exec_index (o := op14[6]!) (x := 65) (i := .tmp 66) (k := .i64) (ii := (i : Int)) (by kernel_rfl) u47 (by kernel_rfl) (raw_at r7 (t := 65) rfl) (show a7.eval (.tmp 66) = .int .i64 (i : Int) from raw_at r7 (t := 66) rfl) ⟨by omega, by omega⟩) fun a8 r8 => ?_
  refine still_raw r8 (d := 68) (u := .slice (some (adr bi oi)) (dl i).length cap') (by kernel_rfl) (by kernel_rfl) (by decide) rfl (exec_load (o := op14[7]!) (x := 67) (by kernel_rfl) u27 (by kernel_rfl) c27 (raw_at r8 (t := 67) rfl) hh) fun a9 r9 => ?_
  refine still_raw r9 (d := 69) (u := .pointer (some (adr bi oi))) (by kernel_rfl) (by kernel_rfl) (by decide) rfl (by have := exec_index (P := gX.P) (a := a9) (w := w1) (o := op14[8]!) (x := 68) (i := .const (.int .i64 (Int.ofNat 0))) (k := .i64) (ii := 0) (by kernel_rfl) u27 (by kernel_rfl) (raw_at r9 (t := 68) rfl) rfl ⟨by omega, by omega⟩; rw [e0, Nat.add_zero] at this; exact this) fun a10 r10 => ?_
  refine still_raw r10 (d := 70) (u := .int .u8 n0) (by kernel_rfl) (by kernel_rfl) (by decide) rfl (exec_load (o := op14[9]!) (x := 69) (by kernel_rfl) u5 (by kernel_rfl) c5 (raw_at r10 (t := 69) rfl) hb) fun a11 r11 => ?_
  refine still_raw r11 (d := 71) (by kernel_rfl) (by kernel_rfl) (by decide) rfl (exec_xor (o := op14[10]!) (t := 5) (t2 := 5) (x := 70) (y := .const (.int .u8 (Int.ofNat 1))) (k := .u8) (m := n0) (n := 1) (by kernel_rfl) (raw_at r11 (t := 70) rfl) rfl) fun a12 r12 => ?_
  refine still_raw r12 (d := 72) (u := .pointer (some (adr bi oi))) (by kernel_rfl) (by kernel_rfl) (by decide) rfl (by have := exec_index (P := gX.P) (a := a12) (w := w1) (o := op14[11]!) (x := 64) (i := .const (.int .i64 (Int.ofNat 0))) (k := .i64) (ii := 0) (by kernel_rfl) u27 (by kernel_rfl) (raw_at r12 (t := 64) rfl) rfl ⟨by omega, by omega⟩; rw [e0, Nat.add_zero] at this; exact this) fun a13 r13 => ?_
  have hX : ∀ z : Int, Fits .u8 (IntKind.u8.wrap z) := fun z => fits_wrap .u8 z
  refine wpStill_nil ?_
  unfold wpList
  rw [if_pos (by unfold Region.wanted; rw [show (op14[12]!).guard = none by kernel_rfl])]
  left
  unfold Oper.wp
  have hfr := frozen_quiet hb ((hgr.back _ r13.heap.frame).calm _ (Nat.le_trans hq f5))
  rw [exec_store (o := op14[12]!) (x := 72) (y := 71) (by kernel_rfl) u5 c5 (raw_at r13 (t := 72) rfl) (raw_at r13 (t := 71) rfl) hb hfr, Oper.upon_skip]
  rw [show (op14[12]!).dst = none by kernel_rfl]
  show Q .normal a13 _
  obtain ⟨O1, y1, y2, y3, y4⟩ := poke1 r13.heap hgr (fsD_clean k t) (.int .u8 _) hm (Nat.le_trans hq f5)
  obtain ⟨e, z1, z2, z3⟩ := den_poke (w1 := _) (O1 := O1) (ρ1 := ρ) r13.heap d6 hm y3 y4 (hX _)
  refine hQ e _ _ z1 z2 ⟨_, O1, ρ, Φ, glob_sub y2.mem hG0, y2, ⟨r13.size, r13.defers, fun t' => ?_, y1⟩, hr⟩
  rcases tget_mkT ([2, 6, 9].zip [SV.ptr 0 0, .ro 1 m (rowL e), .ptr 1 0]) t' (by simp) with e' | ⟨y, k1, k2, k3⟩
  · rw [e']; exact .inl rfl
  · rw [k3]
    simp at k1
    rcases k1 with rfl | rfl | rfl
    · simp only at k2; subst k2
      have := r13.tmps 2
      exact ptr_den (by rw [← h2]; exact this)
    · simp only at k2; subst k2
      rw [raw_at r13 (t := 6) rfl]
      exact z3
    · simp only at k2; subst k2
      have := r13.tmps 9
      exact ptr_den (by rw [← h9]; exact this)
end Go.Proofs.Ytejcjdhplpjpjaa
