/- Accounts of this seat's functions: lemmas, no statement of their own. No conditions. -/
import Derived.Test.YthciddlfnajchaaDoorTUd
namespace Go.Proofs.Tryd
open Go Go.Vx
/-! ### DigestPlays: a round -/
noncomputable abbrev pzS (n : Int) (ky : List Int) (p : Nat → Bool) (d : Nat → List Int) (m : Nat) (a : Nat → Int) (D : List Int) (i : Nat) : List (Nat × SV) := pyS n ky p d m (DA p d D i).length (n75 (aA p a d i) 74) i
noncomputable abbrev pzB (p : Nat → Bool) (d : Nat → List Int) (a : Nat → Int) (v : List (List Int)) (D : List Int) (i : Nat) : List Body := pyB (aA p a d i) (wA p a d v i) (wA p a d v i) (xA p d i) (DA p d D i)
theorem j2 (u v t : Nat) : ∀ j : Nat, j < 2 → ([0, 1, u, v, t] : List Nat)[j]? = some j := fun j hj => by
  match j, hj with
  | 0, _ => rfl
  | 1, _ => rfl
theorem pyC_ok (p' : Addr) {a : Nat → Int} {L i m : Nat} {D e x : List Int} {w : List (List Int)} (hL : e.length + 70 ≤ L) (hL2 : L ≤ 400000) (hD : D.length = L) (ha : 0 ≤ n75 a 74 ∧ n75 a 74 ≤ 64) (hx : x.length + e.length ≤ 131072) (hw : w.length ≤ 1000000) (hi : i < m) (hm : m ≤ 400) : AllC (pyC1 a L D e w ++ (pyC2 L D e ++ pyC3 p' i L (n75 a 74) D e x w)) := by
  have hr := roomL_len e
  have hsp := spD_len hL hD
  have hl := fl_loop p'
  have hv := evX_len (n75 a 74) (e.length : Int)
  rw [Int.toNat_natCast] at hv
  have hs := congrArg List.length (spS_eq e)
  have e1 : (w ++ evX (n75 a 74) (e.length : Int)).length = w.length + (evX (n75 a 74) (e.length : Int)).length := List.length_append
  have e2 : (x ++ e).length = x.length + e.length := List.length_append
  refine allC_append.2 ⟨?_, allC_append.2 ⟨?_, ?_⟩⟩
  · simp only [pyC1, allC_cons, allC_nil, and_true]
    have h1 : min (spS e).length L ≤ L := Nat.min_le_right _ _
    have h2 : ((spS e).take L).length ≤ L := by rw [List.length_take]; exact Nat.min_le_left _ _
    exact ⟨by omega, fits_of (by omega) (by omega), by omega, by omega, ha, by omega, by omega, by omega, ⟨by omega, by omega, by omega⟩, fits_of (by omega) (by omega)⟩
  · simp only [pyC2, allC_cons, allC_nil, and_true]
    exact ⟨by omega, by omega, by omega, trivial, spD_room hL, ⟨by omega, by omega, by omega⟩, fits_of (by omega) (by omega), rfl⟩
  · simp only [pyC3, allC_cons, allC_nil, and_true]
    exact ⟨hl, trivial, hsp, by omega, ha, ⟨by omega, by omega⟩, fits_of (by omega) (by omega), by omega, by omega, fits_of (by omega) (by omega)⟩
theorem st7_ok {m i : Nat} {x e : List Int} {b : Bool} (Fm : Fits .i64 (m : Int)) (hi : i < m) (hx : x.length ≤ 131072) (he : Fits .i64 (e.length : Int)) (hb : decide (131072 < x.length + e.length) = b) :
    Fits .i64 (m : Int) ∧ decide ((i : Int) < (m : Int)) = true ∧ ((0 : Int) ≤ (i : Int) ∧ (i : Int) < (m : Int)) ∧ Fits .i64 (131072 - (x.length : Int)) ∧ Fits .i64 (x.length : Int) ∧ Fits .i64 (e.length : Int) ∧ decide (131072 - (x.length : Int) < (e.length : Int)) = b := by
  refine ⟨Fm, decide_eq_true (by omega), ⟨by omega, by omega⟩, fits_of (by omega) (by omega), fits_of (by omega) (by omega), he, ?_⟩
  rw [← hb]
  exact decide_eq_decide.2 (by omega)
theorem py_round (p' : Addr) {w0 : World} {O : Go.Vx.Own} (hgl : GlobOk (gy p') w0 O) (n : Int) (ky : List Int) (p : Nat → Bool) (d : Nat → List Int) (m : Nat) (a : Nat → Int) (v : List (List Int)) (D : List Int) (n1 : 1 ≤ n) (n2 : n ≤ 32) (hk : ky.length ≤ 32) (hkb : Bytes ky) (h0 : HS n ky [] a) (hd : YB d m) (Fm : Fits .i64 (m : Int)) (hm : m ≤ 400) (hv : v.length ≤ 10) (hD : D.length = 64) (i : Nat) (hi : i < sp7 p d m) :
    SimC (gy p').P w0 O 202 pyBody (pzS n ky p d m a D i) (pzB p d a v D i) .normal (pzS n ky p d m a D (i + 1)) (pzB p d a v D (i + 1)) 2 := by
  have hle := sp7_le p d m
  have hs := sp7_lt hi
  have hx := xA_len (p := p) (d := d) (m := m) i (by omega)
  have F1 : Fits .i64 ((i : Int) + 1) := fits_of (by omega) (by omega)
  have M := HS_A (p := p) (d := d) (m := m) h0 hk i (by omega)
  have Mh := (HT_ok (HT_75 M) n1 n2).1
  have hwl := wA_len (n := n) (k := ky) (p := p) (d := d) (a := a) (v := v) i
  have hDl := DA_len (p := p) (d := d) (m := m) hD i (by omega)
  have bx := xA_bytes (p := p) hd i (by omega)
  obtain ⟨s1, s2, s3, s4, s5, s6, s7⟩ := st7_ok (b := false) (i := i) (x := xA p d i) (e := d i) Fm (by omega) hx (fits_of (by omega) (by omega)) (decide_eq_false (by omega))
  cases hp : p i with
  | true =>
    have eS : pzS n ky p d m a D (i + 1) = pyS n ky p d m (DA p d D i).length (n75 (aA p a d i) 74) (i + 1) := by simp only [pzS, DA, aA, if_pos hp, n75_n75]
    have eB : pzB p d a v D (i + 1) = pyB (n75 (aA p a d i)) (suW (wA p a d v i) (n75 (aA p a d i))) (wA p a d v i ++ [[2, n75 (aA p a d i) 74], [3, 31]]) (xA p d i) (DA p d D i) := by simp only [pzB, DA, aA, wA, xA, if_pos hp]
    rw [eS, eB]
    have z := sm_ok M hk n1 n2 (by omega)
    refine SimC.run (gy_ok p') (by decide) (py_ask p' n ky p d m _ i _ _ _ _ _ _) ?_ (by decide) (j2 7 3 4) (by decide) (by simp) hgl
    simp only [allC_cons, allC_nil, and_true, List.length_append, List.length_cons, List.length_nil]
    exact ⟨s1, s2, s3, s4, s5, s6, s7, hp, by omega, n1, n2, hk, hkb, bx, by omega, z.1, z.2.1, z.2.2.1, z.2.2.2.1, z.2.2.2.2.1, z.2.2.2.2.2, by omega, rfl, F1⟩
  | false =>
    have hn : ¬ p i = true := by rw [hp]; decide
    have hg := gL_eq (d i)
    have eh := held_next (e := d i) Mh
    by_cases c : (DA p d D i).length < (d i).length + 70
    · have eS : pzS n ky p d m a D (i + 1) = pyS n ky p d m (gL (d i)) (eH (n75 (aA p a d i) 74) (d i)) (i + 1) := by
        simp only [pzS, DA, aA, if_neg hn, if_pos c]
        rw [flD_len, spD_len (by omega) (by rw [List.length_replicate]), eh]
      have eB : pzB p d a v D (i + 1) = pyB (wrA (n75 (aA p a d i)) (d i)) (wA p a d v i ++ evX (n75 (aA p a d i) 74) ((d i).length : Int)) (wA p a d v i ++ evX (n75 (aA p a d i) 74) ((d i).length : Int)) (xA p d i ++ d i) (flD (spD (gD (d i)) (d i) (gL (d i))) (gL (d i))) := by simp only [pzB, DA, aA, wA, xA, if_neg hn, if_pos c]
      rw [eS, eB]
      have hr := py_w1 p' n ky p d m (DA p d D i).length i (n75 (aA p a d i) 74) (aA p a d i) (wA p a d v i) (wA p a d v i) (xA p d i) (DA p d D i)
      rw [spD_piece (show (d i).length + 70 ≤ gL (d i) by omega)] at hr
      refine SimC.run (gy_ok p') (by decide) hr (allC_append.2 ⟨?_, pyC_ok (m := m) p' (by omega) (by omega) (by rw [List.length_replicate]) Mh hs (by omega) (by omega) hm⟩) (by decide) (j2 9 6 10) (by decide) (by simp) hgl
      simp only [allC_cons, allC_nil, and_true]
      exact ⟨s1, s2, s3, s4, s5, s6, s7, hp, fits_of (by omega) (by omega), fits_of (by omega) (by omega), fits_of (by omega) (by omega), decide_eq_true (by omega), ⟨by omega, trivial, by omega⟩, fits_of (by omega) (by omega), fits_of (by omega) (by omega), fits_of (by omega) (by omega), fits_of (by omega) (by omega), fits_of (by omega) (by omega), fits_of (by omega) (by omega), decide_eq_false (by omega)⟩
    · have eS : pzS n ky p d m a D (i + 1) = pyS n ky p d m (DA p d D i).length (eH (n75 (aA p a d i) 74) (d i)) (i + 1) := by
        simp only [pzS, DA, aA, if_neg hn, if_neg c]
        rw [flD_len, spD_len (by omega) rfl, eh]
      have eB : pzB p d a v D (i + 1) = pyB (wrA (n75 (aA p a d i)) (d i)) (wA p a d v i ++ evX (n75 (aA p a d i) 74) ((d i).length : Int)) (wA p a d v i ++ evX (n75 (aA p a d i) 74) ((d i).length : Int)) (xA p d i ++ d i) (flD (spD (DA p d D i) (d i) (DA p d D i).length) (DA p d D i).length) := by simp only [pzB, DA, aA, wA, xA, if_neg hn, if_neg c]
      rw [eS, eB]
      have hr := py_w0 p' n ky p d m (DA p d D i).length i (n75 (aA p a d i) 74) (aA p a d i) (wA p a d v i) (wA p a d v i) (xA p d i) (DA p d D i)
      rw [spD_piece (show (d i).length + 70 ≤ (DA p d D i).length by omega)] at hr
      refine SimC.run (gy_ok p') (by decide) hr (allC_append.2 ⟨?_, pyC_ok (m := m) p' (by omega) (by omega) rfl Mh hs (by omega) (by omega) hm⟩) (by decide) (j2 8 3 9) (by decide) (by simp) hgl
      simp only [allC_cons, allC_nil, and_true]
      exact ⟨s1, s2, s3, s4, s5, s6, s7, hp, fits_of (by omega) (by omega), fits_of (by omega) (by omega), fits_of (by omega) (by omega), decide_eq_false (by omega)⟩
/-! ### DigestPlays: the loop -/
theorem sl_imp (id m off sz j len : Nat) : DenImp (.sl id m off sz j len true) (.sl id m off sz j len false) := fun w0 O ρ v h => by
  rcases h with h | ⟨h1, h2⟩
  · simp at h
  · refine .inr ⟨h1, ?_⟩
    simp only [DenC] at h2 ⊢
    obtain ⟨a, cap, e1, e2, ⟨_, e4⟩, e5⟩ := h2
    exact ⟨a, cap, e1, e2, ⟨fun h => by simp at h, e4⟩, e5⟩
theorem desk_imp (x1 x2 x3 x4 x5 x6 x7 x8 x10 : SV) (t : Nat) : DenImp (tget (mkT (pyKeep.zip [x1, x2, x3, x4, x5, x6, x7, x8, .sl 3 64 0 1 0 64 true, x10])) t) (tget (mkT (pyKeep.zip [x1, x2, x3, x4, x5, x6, x7, x8, .sl 3 64 0 1 0 64 false, x10])) t) := by
  have g : ∀ (y : SV), tget (mkT (pyKeep.zip [x1, x2, x3, x4, x5, x6, x7, x8, y, x10])) t = if t = 0 then x1 else if t = 1 then x2 else if t = 2 then x3 else if t = 7 then x4 else if t = 9 then x5 else if t = 14 then x6 else if t = 15 then x7 else if t = 16 then x8 else if t = 17 then y else if t = 18 then x10 else .any := fun y => by
    have e : ∀ (k : Nat) (v : SV) (l : List (Nat × SV)), k < 65535 → tget (mkT ((k, v) :: l)) t = if t = k then v else tget (mkT l) t := fun k v l h => Tr.get_set _ _ _ _ _ h
    show tget (mkT ((0, x1) :: (1, x2) :: (2, x3) :: (7, x4) :: (9, x5) :: (14, x6) :: (15, x7) :: (16, x8) :: (17, y) :: (18, x10) :: [])) t = _
    rw [e 0 _ _ (by decide), e 1 _ _ (by decide), e 2 _ _ (by decide), e 7 _ _ (by decide), e 9 _ _ (by decide), e 14 _ _ (by decide), e 15 _ _ (by decide), e 16 _ _ (by decide), e 17 _ _ (by decide), e 18 _ _ (by decide)]
    rfl
  rw [g, g]
  repeat' split
  all_goals first | exact sl_imp _ _ _ _ _ _ | exact DenImp.refl _
noncomputable abbrev pyL (f : Nat → SV) (n : Int) (ky : List Int) (m : Nat) (h : Int) (la : List Int) (w l : List (List Int)) (zs : List Int) : List Prop := [f = rowY (pOf f) (dOf f), Fits .i64 (m : Int), ∀ i, i < m → factsC (f i), m ≤ 400, 1 ≤ n, n ≤ 32, ky.length ≤ 32, Bytes ky, HS n ky [] (atL la), h = n75 (atL la) 74, l = w, w.length ≤ 10, zs.length = 64]
noncomputable def pyG0 : LoopF := fun vals B => match vals, B with
  | [.int .i64 n, .roi K5 ky, .ro 2 m f, .ptr 0 0, .ptr 1 0, .raw (.slice none 0 0), .own 2, .int .i64 h, .sl 3 64 0 1 0 64 true, .int .i64 0], [.log w, .cells ms, .rows K2 l, .ints K zs] =>
    match dgAs ms, head0 (ms.take 1), sameK K .u8, sameKs K2 evK, sameK K5 .u8 with
    | some la, true, true, true, true => some ([(0, .int .i64 n), (1, .roi .u8 ky), (7, .ptr 0 0), (9, .ptr 1 0), (14, .own 4), (15, .own 2), (16, .int .i64 (n75 (aA (pOf f) (atL la) (dOf f) m) 74))], pzB (pOf f) (dOf f) (atL la) w zs m, pyL f n ky m h la w l zs ++ [sp7 (pOf f) (dOf f) m = m])
    | _, _, _, _, _ => none
  | _, _ => none
noncomputable def pyG1 : LoopF := fun vals B => match vals, B with
  | [.int .i64 n, .roi K5 ky, .ro 2 m f, .ptr 0 0, .ptr 1 0, .raw (.slice none 0 0), .own 2, .int .i64 h, .sl 3 64 0 1 0 64 true, .int .i64 0], [.log w, .cells ms, .rows K2 l, .ints K zs] =>
    match dgAs ms, head0 (ms.take 1), sameK K .u8, sameKs K2 evK, sameK K5 .u8 with
    | some la, true, true, true, true => some ([(6, .bool true)], pzB (pOf f) (dOf f) (atL la) w zs (sp7 (pOf f) (dOf f) m), pyL f n ky m h la w l zs ++ [sp7 (pOf f) (dOf f) m < m, Fits .i64 ((dOf f (sp7 (pOf f) (dOf f) m)).length : Int)])
    | _, _, _, _, _ => none
  | _, _ => none
theorem py_loop0 (p' : Addr) : LoopGood (gy p') 202 (.loop pyBody) pyKeep 2 (.exit 2) (mkLoopN pyG0) := by
  refine LoopGood.mkN (by decide) fun vals B S' B' C hG hC hlen w0 O hgl => ?_
  clear hlen
  unfold pyG0 at hG
  split at hG
  · rename_i n K5 ky m f h w ms K2 l K zs
    split at hG
    · rename_i la h2 r2 hk hK2 hK5
      have r2 := head0_eq r2
      obtain rfl := kidx_inj hk
      obtain rfl := sameKs_eq hK2
      obtain rfl := kidx_inj hK5
      simp only [Option.some.injEq, Prod.mk.injEq] at hG
      obtain ⟨rfl, rfl, rfl⟩ := hG
      simp only [pyL, allC_append, allC_cons, allC_nil, and_true] at hC
      obtain ⟨⟨hf, Fm, hff, hm, n1, n2, hky, hkb, a1, rfl, rfl, hw, hz⟩, hN⟩ := hC
      have hd := rowY_bytes hf hff
      generalize pOf f = p at *
      generalize hdd : dOf f = d at *
      rw [hf]
      clear hf hff hdd
      refine SimC.preI (B1 := [.log l, dgV (.ptr 0 0) (atL la), .rows evK l, .ints .u8 zs]) ?_ ⟨⟨.refl _, fun _ h => by simp at h⟩, cells_dg h2 r2 rfl, ⟨.refl _, fun _ h => by simp at h⟩, ⟨.refl _, fun _ h => by simp at h⟩, trivial⟩
      refine SimC.pre (S := pyKeep.zip [.int .i64 n, .roi .u8 ky, .ro 2 m (rowY p d), .ptr 0 0, .ptr 1 0, .raw (.slice none 0 0), .own 2, .int .i64 (n75 (atL la) 74), .sl 3 64 0 1 0 64 false, .int .i64 0]) ?_ (desk_imp _ _ _ _ _ _ _ _ _)
      refine SimC.adoptS (.ints .u8 []) 14 rfl rfl (by simp) (by simp) ?_
      have e0 : pyKeep.zip (pyO n ky p d m 64 (n75 (atL la) 74) 0) = pzS n ky p d m (atL la) zs 0 := by
        show _ = pyS n ky p d m zs.length (n75 (atL la) 74) 0
        rw [hz]
        rfl
      show SimC _ _ _ _ _ (pyKeep.zip (pyO n ky p d m 64 (n75 (atL la) 74) 0)) (pzB p d (atL la) l zs 0) _ _ _ _
      rw [e0]
      refine SimC.iter (g := gy p') (e := (.exit 2)) (S := fun i => pzS n ky p d m (atL la) zs i) (B := fun i => pzB p d (atL la) l zs i) (N := m) (fun i hi => py_round p' hgl n ky p d m _ _ _ n1 n2 hky hkb a1 hd Fm hm hw hz i (by omega)) ?_ (by simp) 0 (by omega)
      exact SimC.weaken (SimC.run (B' := pzB p d (atL la) l zs m) (gy_ok p') (by decide) (py_end p' n ky p d m _ m _ _ _ _ _ _) (by simp only [allC_cons, allC_nil, and_true]; exact ⟨Fm, decide_eq_false (by omega)⟩) (by decide) (j2 2 3 4) (by decide) (by simp) hgl) (sub_mkT (by simp; exact ⟨rfl, rfl, rfl, rfl, rfl, rfl, rfl⟩))
    · simp at hG
  · simp at hG
theorem py_loop1 (p' : Addr) : LoopGood (gy p') 202 (.loop pyBody) pyKeep 2 (.ret) (mkLoopN pyG1) := by
  refine LoopGood.mkN (by decide) fun vals B S' B' C hG hC hlen w0 O hgl => ?_
  clear hlen
  unfold pyG1 at hG
  split at hG
  · rename_i n K5 ky m f h w ms K2 l K zs
    split at hG
    · rename_i la h2 r2 hk hK2 hK5
      have r2 := head0_eq r2
      obtain rfl := kidx_inj hk
      obtain rfl := sameKs_eq hK2
      obtain rfl := kidx_inj hK5
      simp only [Option.some.injEq, Prod.mk.injEq] at hG
      obtain ⟨rfl, rfl, rfl⟩ := hG
      simp only [pyL, allC_append, allC_cons, allC_nil, and_true] at hC
      obtain ⟨⟨hf, Fm, hff, hm, n1, n2, hky, hkb, a1, rfl, rfl, hw, hz⟩, hN, Fl⟩ := hC
      have hd := rowY_bytes hf hff
      generalize pOf f = p at *
      generalize hdd : dOf f = d at *
      rw [hf]
      clear hf hff hdd
      refine SimC.preI (B1 := [.log l, dgV (.ptr 0 0) (atL la), .rows evK l, .ints .u8 zs]) ?_ ⟨⟨.refl _, fun _ h => by simp at h⟩, cells_dg h2 r2 rfl, ⟨.refl _, fun _ h => by simp at h⟩, ⟨.refl _, fun _ h => by simp at h⟩, trivial⟩
      refine SimC.pre (S := pyKeep.zip [.int .i64 n, .roi .u8 ky, .ro 2 m (rowY p d), .ptr 0 0, .ptr 1 0, .raw (.slice none 0 0), .own 2, .int .i64 (n75 (atL la) 74), .sl 3 64 0 1 0 64 false, .int .i64 0]) ?_ (desk_imp _ _ _ _ _ _ _ _ _)
      refine SimC.adoptS (.ints .u8 []) 14 rfl rfl (by simp) (by simp) ?_
      have e0 : pyKeep.zip (pyO n ky p d m 64 (n75 (atL la) 74) 0) = pzS n ky p d m (atL la) zs 0 := by
        show _ = pyS n ky p d m zs.length (n75 (atL la) 74) 0
        rw [hz]
        rfl
      show SimC _ _ _ _ _ (pyKeep.zip (pyO n ky p d m 64 (n75 (atL la) 74) 0)) (pzB p d (atL la) l zs 0) _ _ _ _
      rw [e0]
      refine SimC.iter (g := gy p') (e := (.ret)) (S := fun i => pzS n ky p d m (atL la) zs i) (B := fun i => pzB p d (atL la) l zs i) (N := sp7 p d m) (fun i hi => py_round p' hgl n ky p d m _ _ _ n1 n2 hky hkb a1 hd Fm hm hw hz i (by omega)) ?_ (by simp) 0 (by omega)
      exact SimC.weaken (SimC.run (B' := pzB p d (atL la) l zs (sp7 p d m)) (gy_ok p') (by decide) (py_long p' n ky p d m _ (sp7 p d m) _ _ _ _ _ _) (by simp only [allC_cons, allC_nil, and_true]; exact st7_ok Fm hN (xA_len (m := m) _ (Nat.le_refl _)) Fl (decide_eq_true (sp7_at hN))) (by decide) (j2 2 3 4) (by decide) (by simp) hgl) (sub_mkT (by simp; exact rfl))
    · simp at hG
  · simp at hG
end Go.Proofs.Tryd

namespace Go.Proofs.Tryd
open Go Go.Vx
/-! ### DigestPlays: the account -/
noncomputable abbrev twnP : Plan := .loop 12 twnKeep 3 (.exit 0) (mkLoopN twnG)
noncomputable abbrev plA (b : Bool) : List Plan := [.br false, .br false, .br false, .br false, .br false, .br b, .br false, .br false, .br false, twnP, .br false, .br false, .br false, .br b, .loop 20 pyKeep 2 (.exit 2) (mkLoopN pyG0), .br true, .br true]
noncomputable abbrev plB (b : Bool) : List Plan := [.br false, .br false, .br false, .br false, .br false, .br b, .br false, .br false, .br false, twnP, .br false, .br false, .br false, .br b, .loop 20 pyKeep 2 .ret (mkLoopN pyG1)]
abbrev nw1 (n : Int) (k : List Int) : Nat → Int := atL (n :: hd0 n k :: (ivL.drop 1 ++ 0 :: (listF 64 (blk0 k) 0 ++ [64])))
abbrev nw0 (n : Int) (k : List Int) : Nat → Int := atL (n :: hd0 n k :: (ivL.drop 1 ++ 0 :: (List.replicate 64 0 ++ [0])))
/-- what New logs -/
abbrev evN (n : Int) (k : List Int) : List (List Int) := [[1, bI (decide (n < 1))], [1, bI (decide (32 < n))], [1, bI (decide ((32 : Int) < (k.length : Int)))], [1, bI (decide ((0 : Int) < (k.length : Int)))]]
theorem plays_a1 (p' : Addr) (n : Int) (k : List Int) (p : Nat → Bool) (d : Nat → List Int) (m : Nat) : runF (gy p') 900 (plA true) 8 [.int .i64 n, .roi .u8 k, .ro 2 m (rowY p d)] [] [] = some (.sbool true, [], [Fits .i64 (k.length : Int), decide ((400 : Int) < (m : Int)) = false, Fits .i64 (m : Int), decide ((131072 : Int) < (k.length : Int)) = false, k.length * 1 ≤ 2 ^ 47, (0 : Nat) < 1099511627776, decide (n < 1) = false, (1 : Nat) < 1099511627776, decide (32 < n) = false, (2 : Nat) < 1099511627776, Fits .i64 (k.length : Int), decide ((32 : Int) < (k.length : Int)) = false, Fits .i64 (k.length : Int), (3 : Nat) < 1099511627776, Fits .i64 (k.length : Int), decide ((0 : Int) < (k.length : Int)) = true, Fits .i64 ((min k.length 64 : Nat) : Int), 0 + (k.take 64).length ≤ 64, 1 ≤ n, n ≤ 32, (k).length ≤ 32, Bytes k, Bytes ([] : List Int), (([] : List Int)).length ≤ 70368744177664, false = false, false = false, false = false, LoopGood (gy p') 202 (.loop twnBody) twnKeep 3 (.exit 0) (mkLoopN twnG), k.length ≤ 140737488355328, (1 : Nat) * 16 ≤ 2 ^ 47, decide (n < 1) = false, (2 : Nat) * 16 ≤ 2 ^ 47, decide (32 < n) = false, (3 : Nat) * 16 ≤ 2 ^ 47, decide ((32 : Int) < (k.length : Int)) = false, (4 : Nat) * 16 ≤ 2 ^ 47, Fits .i64 (k.length : Int), decide ((0 : Int) < (k.length : Int)) = true, Fits .i64 (k.length : Int), (0 : Int) ≤ 64 ∧ (64 : Int) = 64 ∧ (64 : Int).toNat * 1 ≤ 2 ^ 47, LoopGood (gy p') 202 (.loop pyBody) pyKeep 2 (.exit 2) (mkLoopN pyG0), rowY p d = rowY (pOf (rowY p d)) (dOf (rowY p d)), Fits .i64 (m : Int), ∀ i, i < m → factsC (rowY p d i), m ≤ 400, 1 ≤ n, n ≤ 32, k.length ≤ 32, Bytes k, HS n k [] (n75 (nw1 n k)), (64 : Int) = n75 (n75 (nw1 n k)) 74, evN n k = evN n k, (evN n k).length ≤ 10, (List.replicate (64 : Int).toNat (0 : Int)).length = 64, sp7 p d m = m, ((wA p (n75 (nw1 n k)) d (evN n k) m) ++ [[2, (n75 (aA p (n75 (nw1 n k)) d m)) 74], [3, 31]]).length * 16 ≤ 2 ^ 47, 1 ≤ n, n ≤ 32, (k).length ≤ 32, Bytes k, Bytes (xA p d m), ((xA p d m)).length ≤ 70368744177664, true = true, suW (wA p (n75 (nw1 n k)) d (evN n k) m) (n75 (aA p (n75 (nw1 n k)) d m)) = (wA p (n75 (nw1 n k)) d (evN n k) m) ++ [[2, (n75 (aA p (n75 (nw1 n k)) d m)) 74], [3, 31]], (suW (wA p (n75 (nw1 n k)) d (evN n k) m) (n75 (aA p (n75 (nw1 n k)) d m))).length ≤ 140737488355328, (suW (wA p (n75 (nw1 n k)) d (evN n k) m) (n75 (aA p (n75 (nw1 n k)) d m))).length * 16 ≤ 2 ^ 47, true = true, 0 + (n75 (aA p (n75 (nw1 n k)) d m) 0).toNat ≤ (dgL (n75 (aA p (n75 (nw1 n k)) d m))).length, 0 + (dSum n k (allL k (xA p d m))).length ≤ (dSum n k (allL k (xA p d m))).length, (n75 (aA p (n75 (nw1 n k)) d m) 0).toNat ≤ 140737488355328, subI (dgL (n75 (aA p (n75 (nw1 n k)) d m))) 0 (n75 (aA p (n75 (nw1 n k)) d m) 0).toNat = subI (dSum n k (allL k (xA p d m))) 0 (dSum n k (allL k (xA p d m))).length, 0 ≤ n75 (aA p (n75 (nw1 n k)) d m) 74 ∧ n75 (aA p (n75 (nw1 n k)) d m) 74 ≤ 64, 0 ≤ n75 (aA p (n75 (nw1 n k)) d m) 0 ∧ n75 (aA p (n75 (nw1 n k)) d m) 0 ≤ 32, (wA p (n75 (nw1 n k)) d (evN n k) m).length < 1099511627770]) := run_parts (by kernel_rfl) (by kernel_rfl) (by kernel_rfl)
theorem plays_b1 (p' : Addr) (n : Int) (k : List Int) (p : Nat → Bool) (d : Nat → List Int) (m : Nat) : runF (gy p') 900 (plB true) 8 [.int .i64 n, .roi .u8 k, .ro 2 m (rowY p d)] [] [] = some (.bool true, [], [Fits .i64 (k.length : Int), decide ((400 : Int) < (m : Int)) = false, Fits .i64 (m : Int), decide ((131072 : Int) < (k.length : Int)) = false, k.length * 1 ≤ 2 ^ 47, (0 : Nat) < 1099511627776, decide (n < 1) = false, (1 : Nat) < 1099511627776, decide (32 < n) = false, (2 : Nat) < 1099511627776, Fits .i64 (k.length : Int), decide ((32 : Int) < (k.length : Int)) = false, Fits .i64 (k.length : Int), (3 : Nat) < 1099511627776, Fits .i64 (k.length : Int), decide ((0 : Int) < (k.length : Int)) = true, Fits .i64 ((min k.length 64 : Nat) : Int), 0 + (k.take 64).length ≤ 64, 1 ≤ n, n ≤ 32, (k).length ≤ 32, Bytes k, Bytes ([] : List Int), (([] : List Int)).length ≤ 70368744177664, false = false, false = false, false = false, LoopGood (gy p') 202 (.loop twnBody) twnKeep 3 (.exit 0) (mkLoopN twnG), k.length ≤ 140737488355328, (1 : Nat) * 16 ≤ 2 ^ 47, decide (n < 1) = false, (2 : Nat) * 16 ≤ 2 ^ 47, decide (32 < n) = false, (3 : Nat) * 16 ≤ 2 ^ 47, decide ((32 : Int) < (k.length : Int)) = false, (4 : Nat) * 16 ≤ 2 ^ 47, Fits .i64 (k.length : Int), decide ((0 : Int) < (k.length : Int)) = true, Fits .i64 (k.length : Int), (0 : Int) ≤ 64 ∧ (64 : Int) = 64 ∧ (64 : Int).toNat * 1 ≤ 2 ^ 47, LoopGood (gy p') 202 (.loop pyBody) pyKeep 2 (.ret) (mkLoopN pyG1), rowY p d = rowY (pOf (rowY p d)) (dOf (rowY p d)), Fits .i64 (m : Int), ∀ i, i < m → factsC (rowY p d i), m ≤ 400, 1 ≤ n, n ≤ 32, k.length ≤ 32, Bytes k, HS n k [] (n75 (nw1 n k)), (64 : Int) = n75 (n75 (nw1 n k)) 74, evN n k = evN n k, (evN n k).length ≤ 10, (List.replicate (64 : Int).toNat (0 : Int)).length = 64, sp7 p d m < m, Fits .i64 ((d (sp7 p d m)).length : Int)]) := run_parts (by kernel_rfl) (by kernel_rfl) (by kernel_rfl)
theorem plays_a0 (p' : Addr) (n : Int) (k : List Int) (p : Nat → Bool) (d : Nat → List Int) (m : Nat) : runF (gy p') 900 (plA false) 8 [.int .i64 n, .roi .u8 k, .ro 2 m (rowY p d)] [] [] = some (.sbool true, [], [Fits .i64 (k.length : Int), decide ((400 : Int) < (m : Int)) = false, Fits .i64 (m : Int), decide ((131072 : Int) < (k.length : Int)) = false, k.length * 1 ≤ 2 ^ 47, (0 : Nat) < 1099511627776, decide (n < 1) = false, (1 : Nat) < 1099511627776, decide (32 < n) = false, (2 : Nat) < 1099511627776, Fits .i64 (k.length : Int), decide ((32 : Int) < (k.length : Int)) = false, Fits .i64 (k.length : Int), (3 : Nat) < 1099511627776, Fits .i64 (k.length : Int), decide ((0 : Int) < (k.length : Int)) = false, 1 ≤ n, n ≤ 32, (k).length ≤ 32, Bytes k, Bytes ([] : List Int), (([] : List Int)).length ≤ 70368744177664, false = false, false = false, false = false, LoopGood (gy p') 202 (.loop twnBody) twnKeep 3 (.exit 0) (mkLoopN twnG), k.length ≤ 140737488355328, (1 : Nat) * 16 ≤ 2 ^ 47, decide (n < 1) = false, (2 : Nat) * 16 ≤ 2 ^ 47, decide (32 < n) = false, (3 : Nat) * 16 ≤ 2 ^ 47, decide ((32 : Int) < (k.length : Int)) = false, (4 : Nat) * 16 ≤ 2 ^ 47, Fits .i64 (k.length : Int), decide ((0 : Int) < (k.length : Int)) = false, Fits .i64 (k.length : Int), (0 : Int) ≤ 64 ∧ (64 : Int) = 64 ∧ (64 : Int).toNat * 1 ≤ 2 ^ 47, LoopGood (gy p') 202 (.loop pyBody) pyKeep 2 (.exit 2) (mkLoopN pyG0), rowY p d = rowY (pOf (rowY p d)) (dOf (rowY p d)), Fits .i64 (m : Int), ∀ i, i < m → factsC (rowY p d i), m ≤ 400, 1 ≤ n, n ≤ 32, k.length ≤ 32, Bytes k, HS n k [] (n75 (nw0 n k)), (0 : Int) = n75 (n75 (nw0 n k)) 74, evN n k = evN n k, (evN n k).length ≤ 10, (List.replicate (64 : Int).toNat (0 : Int)).length = 64, sp7 p d m = m, ((wA p (n75 (nw0 n k)) d (evN n k) m) ++ [[2, (n75 (aA p (n75 (nw0 n k)) d m)) 74], [3, 31]]).length * 16 ≤ 2 ^ 47, 1 ≤ n, n ≤ 32, (k).length ≤ 32, Bytes k, Bytes (xA p d m), ((xA p d m)).length ≤ 70368744177664, true = true, suW (wA p (n75 (nw0 n k)) d (evN n k) m) (n75 (aA p (n75 (nw0 n k)) d m)) = (wA p (n75 (nw0 n k)) d (evN n k) m) ++ [[2, (n75 (aA p (n75 (nw0 n k)) d m)) 74], [3, 31]], (suW (wA p (n75 (nw0 n k)) d (evN n k) m) (n75 (aA p (n75 (nw0 n k)) d m))).length ≤ 140737488355328, (suW (wA p (n75 (nw0 n k)) d (evN n k) m) (n75 (aA p (n75 (nw0 n k)) d m))).length * 16 ≤ 2 ^ 47, true = true, 0 + (n75 (aA p (n75 (nw0 n k)) d m) 0).toNat ≤ (dgL (n75 (aA p (n75 (nw0 n k)) d m))).length, 0 + (dSum n k (allL k (xA p d m))).length ≤ (dSum n k (allL k (xA p d m))).length, (n75 (aA p (n75 (nw0 n k)) d m) 0).toNat ≤ 140737488355328, subI (dgL (n75 (aA p (n75 (nw0 n k)) d m))) 0 (n75 (aA p (n75 (nw0 n k)) d m) 0).toNat = subI (dSum n k (allL k (xA p d m))) 0 (dSum n k (allL k (xA p d m))).length, 0 ≤ n75 (aA p (n75 (nw0 n k)) d m) 74 ∧ n75 (aA p (n75 (nw0 n k)) d m) 74 ≤ 64, 0 ≤ n75 (aA p (n75 (nw0 n k)) d m) 0 ∧ n75 (aA p (n75 (nw0 n k)) d m) 0 ≤ 32, (wA p (n75 (nw0 n k)) d (evN n k) m).length < 1099511627770]) := run_parts (by kernel_rfl) (by kernel_rfl) (by kernel_rfl)
theorem plays_b0 (p' : Addr) (n : Int) (k : List Int) (p : Nat → Bool) (d : Nat → List Int) (m : Nat) : runF (gy p') 900 (plB false) 8 [.int .i64 n, .roi .u8 k, .ro 2 m (rowY p d)] [] [] = some (.bool true, [], [Fits .i64 (k.length : Int), decide ((400 : Int) < (m : Int)) = false, Fits .i64 (m : Int), decide ((131072 : Int) < (k.length : Int)) = false, k.length * 1 ≤ 2 ^ 47, (0 : Nat) < 1099511627776, decide (n < 1) = false, (1 : Nat) < 1099511627776, decide (32 < n) = false, (2 : Nat) < 1099511627776, Fits .i64 (k.length : Int), decide ((32 : Int) < (k.length : Int)) = false, Fits .i64 (k.length : Int), (3 : Nat) < 1099511627776, Fits .i64 (k.length : Int), decide ((0 : Int) < (k.length : Int)) = false, 1 ≤ n, n ≤ 32, (k).length ≤ 32, Bytes k, Bytes ([] : List Int), (([] : List Int)).length ≤ 70368744177664, false = false, false = false, false = false, LoopGood (gy p') 202 (.loop twnBody) twnKeep 3 (.exit 0) (mkLoopN twnG), k.length ≤ 140737488355328, (1 : Nat) * 16 ≤ 2 ^ 47, decide (n < 1) = false, (2 : Nat) * 16 ≤ 2 ^ 47, decide (32 < n) = false, (3 : Nat) * 16 ≤ 2 ^ 47, decide ((32 : Int) < (k.length : Int)) = false, (4 : Nat) * 16 ≤ 2 ^ 47, Fits .i64 (k.length : Int), decide ((0 : Int) < (k.length : Int)) = false, Fits .i64 (k.length : Int), (0 : Int) ≤ 64 ∧ (64 : Int) = 64 ∧ (64 : Int).toNat * 1 ≤ 2 ^ 47, LoopGood (gy p') 202 (.loop pyBody) pyKeep 2 (.ret) (mkLoopN pyG1), rowY p d = rowY (pOf (rowY p d)) (dOf (rowY p d)), Fits .i64 (m : Int), ∀ i, i < m → factsC (rowY p d i), m ≤ 400, 1 ≤ n, n ≤ 32, k.length ≤ 32, Bytes k, HS n k [] (n75 (nw0 n k)), (0 : Int) = n75 (n75 (nw0 n k)) 74, evN n k = evN n k, (evN n k).length ≤ 10, (List.replicate (64 : Int).toNat (0 : Int)).length = 64, sp7 p d m < m, Fits .i64 ((d (sp7 p d m)).length : Int)]) := run_parts (by kernel_rfl) (by kernel_rfl) (by kernel_rfl)
theorem plays_e0 (p' : Addr) (n : Int) (k : List Int) (p : Nat → Bool) (d : Nat → List Int) (m : Nat) : runF (gP p' false) 900 [.br false, .br false, .br true, .br false, .br false, .br true] 8 [.int .i64 n, .roi .u8 k, .ro 2 m (rowY p d)] [] [] = some (.sbool true, [], [Fits .i64 (k.length : Int), decide ((400 : Int) < (m : Int)) = false, Fits .i64 (m : Int), decide ((131072 : Int) < (k.length : Int)) = false, k.length * 1 ≤ 2 ^ 47, (0 : Nat) < 1099511627776, decide (n < 1) = true, n < 1 ∨ 32 < n ∨ 32 < k.length, Fits .i64 (k.length : Int), false = false, p' = p', false = false, true = true]) := run_parts (by kernel_rfl) (by kernel_rfl) (by kernel_rfl)
theorem plays_e1 (p' : Addr) (n : Int) (k : List Int) (p : Nat → Bool) (d : Nat → List Int) (m : Nat) : runF (gP p' false) 900 [.br false, .br false, .br false, .br true, .br false, .br false, .br true] 8 [.int .i64 n, .roi .u8 k, .ro 2 m (rowY p d)] [] [] = some (.sbool true, [], [Fits .i64 (k.length : Int), decide ((400 : Int) < (m : Int)) = false, Fits .i64 (m : Int), decide ((131072 : Int) < (k.length : Int)) = false, k.length * 1 ≤ 2 ^ 47, (0 : Nat) < 1099511627776, decide (n < 1) = false, (1 : Nat) < 1099511627776, decide (32 < n) = true, n < 1 ∨ 32 < n ∨ 32 < k.length, Fits .i64 (k.length : Int), false = false, p' = p', false = false, true = true]) := run_parts (by kernel_rfl) (by kernel_rfl) (by kernel_rfl)
theorem plays_e2 (p' : Addr) (n : Int) (k : List Int) (p : Nat → Bool) (d : Nat → List Int) (m : Nat) : runF (gP p' false) 900 [.br false, .br false, .br false, .br false, .br true, .br false, .br false, .br true] 8 [.int .i64 n, .roi .u8 k, .ro 2 m (rowY p d)] [] [] = some (.sbool true, [], [Fits .i64 (k.length : Int), decide ((400 : Int) < (m : Int)) = false, Fits .i64 (m : Int), decide ((131072 : Int) < (k.length : Int)) = false, k.length * 1 ≤ 2 ^ 47, (0 : Nat) < 1099511627776, decide (n < 1) = false, (1 : Nat) < 1099511627776, decide (32 < n) = false, (2 : Nat) < 1099511627776, Fits .i64 (k.length : Int), decide ((32 : Int) < (k.length : Int)) = true, n < 1 ∨ 32 < n ∨ 32 < k.length, Fits .i64 (k.length : Int), false = false, p' = p', false = false, true = true]) := run_parts (by kernel_rfl) (by kernel_rfl) (by kernel_rfl)
theorem plays_2 (p' : Addr) (n : Int) (k : List Int) (p : Nat → Bool) (d : Nat → List Int) (m : Nat) : runF (gy p') 900 [.br true] 8 [.int .i64 n, .roi .u8 k, .ro 2 m (rowY p d)] [] [] = some (.bool true, [], [decide ((400 : Int) < (m : Int)) = true, Fits .i64 (m : Int)]) := run_parts (by kernel_rfl) (by kernel_rfl) (by kernel_rfl)
theorem plays_3 (p' : Addr) (n : Int) (k : List Int) (p : Nat → Bool) (d : Nat → List Int) (m : Nat) : runF (gy p') 900 [.br false, .br true] 8 [.int .i64 n, .roi .u8 k, .ro 2 m (rowY p d)] [] [] = some (.bool true, [], [Fits .i64 (k.length : Int), decide ((400 : Int) < (m : Int)) = false, Fits .i64 (m : Int), decide ((131072 : Int) < (k.length : Int)) = true]) := run_parts (by kernel_rfl) (by kernel_rfl) (by kernel_rfl)
end Go.Proofs.Tryd

namespace Go.Proofs.Tryd
open Go Go.Vx
/-! ### DigestPlays: the account, joined -/
theorem nw1_eq {n : Int} {k : List Int} (h : 0 < k.length) : nw1 n k = nwA n k := by
  show _ = atL (n :: hd0 n k :: (ivL.drop 1 ++ 0 :: (listF 64 (blk0 k) 0 ++ [if 0 < k.length then 64 else 0])))
  rw [if_pos h]
theorem nw0_eq (n : Int) : nw0 n [] = nwA n [] := by
  rw [nwA, nwL_nil]; rfl
theorem plays_ok (p' : Addr) (n : Int) (k : List Int) (hkf : ∀ x ∈ k, Fits .u8 x) (hz : k.length * Tryd.prog.bytesOf 5 ≤ 140737488351232) (m : Nat) (a : Nat → Nat → Int) (d : Nat → Nat → List Int) (Fm : Fits .i64 (m : Int)) (hl : ∀ i j, Fits .i64 ((d i j).length : Int)) (hf : ∀ i, i < m → factsC (.agg (svY [.b, .s .u8] (a i) (d i) 0))) :
    FnOk (gy p') 8 [.int .i64 n, .roi .u8 k, .ro 2 m fun i => .agg (svY [.b, .s .u8] (a i) (d i) 0)] [] { val := .bool true } := by
  show FnOk (gy p') 8 [.int .i64 n, .roi .u8 k, .ro 2 m (rowY (fun i => decide (a i 0 = 1)) (fun i => d i 1))] [] { val := .bool true }
  have hf' : ∀ i, i < m → factsC (rowY (fun i => decide (a i 0 = 1)) (fun i => d i 1) i) := hf
  have hl' : ∀ i, Fits .i64 (((fun i => d i 1) i).length : Int) := fun i => hl i 1
  generalize (fun i => decide (a i 0 = 1)) = p at *
  generalize (fun i => d i 1) = e at *
  have hkb : Bytes k := bytes_of hkf
  have Fk : Fits .i64 (k.length : Int) := by
    rw [show Tryd.prog.bytesOf 5 = 1 by kernel_rfl] at hz
    exact fits_of (by omega) (by omega)
  have hb0 : Bytes [] := bytes_rep 0
  have hL0 := py_loop0 p'
  have hL1 := py_loop1 p'
  have hLt := twn_loop p'
  by_cases h4 : 400 < m
  · exact FnOk.pure (gP_ok p' _) (plays_2 p' n k p e m) (by simp only [allC_cons, allC_nil, and_true]; exact ⟨decide_eq_true (by omega), Fm⟩)
  have h0 : decide ((400 : Int) < (m : Int)) = false := decide_eq_false (by omega)
  by_cases h5 : 131072 < k.length
  · exact FnOk.pure (gP_ok p' _) (plays_3 p' n k p e m) (by simp only [allC_cons, allC_nil, and_true]; exact ⟨Fk, h0, Fm, decide_eq_true (by omega)⟩)
  have hK : decide ((131072 : Int) < (k.length : Int)) = false := decide_eq_false (by omega)
  by_cases q0 : n < 1
  · refine FnOk.of (g := gP p' false) rfl rfl (FnOk.ofSb (b := true) (FnOk.pure (gP_ok p' _) (plays_e0 p' n k p e m) ?_) rfl)
    simp only [allC_cons, allC_nil, and_true, true_and]
    exact ⟨Fk, h0, Fm, hK, by omega, by decide, decide_eq_true q0, .inl q0, Fk⟩
  by_cases q1 : 32 < n
  · refine FnOk.of (g := gP p' false) rfl rfl (FnOk.ofSb (b := true) (FnOk.pure (gP_ok p' _) (plays_e1 p' n k p e m) ?_) rfl)
    simp only [allC_cons, allC_nil, and_true, true_and]
    exact ⟨Fk, h0, Fm, hK, by omega, by decide, decide_eq_false q0, by decide, decide_eq_true q1, .inr (.inl q1), Fk⟩
  by_cases q2 : 32 < k.length
  · refine FnOk.of (g := gP p' false) rfl rfl (FnOk.ofSb (b := true) (FnOk.pure (gP_ok p' _) (plays_e2 p' n k p e m) ?_) rfl)
    simp only [allC_cons, allC_nil, and_true, true_and]
    exact ⟨Fk, h0, Fm, hK, by omega, by decide, decide_eq_false q0, by decide, decide_eq_false q1, by decide, Fk, decide_eq_true (by omega), .inr (.inr q2), Fk⟩
  have c0 : decide (n < 1) = false := decide_eq_false q0
  have c1 : decide (32 < n) = false := decide_eq_false q1
  have d2 : decide ((32 : Int) < (k.length : Int)) = false := decide_eq_false (by omega)
  have h1 : 1 ≤ n := by omega
  have h2 : n ≤ 32 := by omega
  have hk : k.length ≤ 32 := by omega
  have hle := sp7_le p e m
  have hd : YB e m := rowY_bytes (f := rowY p e) rfl hf'
  have htk : (k.take 64).length ≤ 64 := by rw [List.length_take]; omega
  by_cases c3 : 0 < k.length
  · have d3 : decide ((0 : Int) < (k.length : Int)) = true := decide_eq_true (by omega)
    have A0 : HS n k [] (n75 (nw1 n k)) := HT_75 (by rw [nw1_eq c3]; exact HT_new h1 h2 hk)
    have a74 : (64 : Int) = n75 (nw1 n k) 74 := by
      rw [n75_at (by omega)]; kernel_rfl
    by_cases hs : sp7 p e m = m
    · refine FnOk.ofSb (b := true) (FnOk.pure (gP_ok p' _) (plays_a1 p' n k p e m) ?_) rfl
      have A := HS_A (p := p) (d := e) (m := m) A0 hk m (by omega)
      have hx := xA_len (p := p) (d := e) (m := m) m (by omega)
      have bx := xA_bytes (p := p) hd m (Nat.le_refl _)
      have z := sm_ok A hk h1 h2 (by omega)
      have hw := wA_len (n := n) (k := k) (p := p) (d := e) (a := n75 (nw1 n k)) (v := evN n k) m
      have hv : (evN n k).length = 4 := rfl
      have eW : suW (wA p (n75 (nw1 n k)) e (evN n k) m) (n75 (aA p (n75 (nw1 n k)) e m)) = wA p (n75 (nw1 n k)) e (evN n k) m ++ [[2, n75 (aA p (n75 (nw1 n k)) e m) 74], [3, 31]] := rfl
      have eL : (wA p (n75 (nw1 n k)) e (evN n k) m ++ [[2, n75 (aA p (n75 (nw1 n k)) e m) 74], [3, 31]]).length = (wA p (n75 (nw1 n k)) e (evN n k) m).length + 2 := by rw [List.length_append]; rfl
      rw [eW]
      simp only [allC_cons, allC_nil, and_true, true_and]
      exact ⟨Fk, h0, Fm, hK, by omega, by decide, c0, by decide, c1, by decide, Fk, d2, Fk, by decide, Fk, d3, fits_of (by omega) (by omega), by omega, h1, h2, hk, hkb, hb0, Nat.zero_le _, hLt, by omega, by decide, c0, by decide, c1, by decide, d2, by decide, Fk, d3, Fk, by decide,  hL0, rfl, Fm, hf', by omega, h1, h2, hk, hkb, A0, a74, by simp, by decide, hs, by omega, h1, h2, hk, hkb, bx, by omega, by omega, by omega, z.1, z.2.1, z.2.2.1, z.2.2.2.1, z.2.2.2.2.1, z.2.2.2.2.2, by omega⟩
    · refine FnOk.pure (gP_ok p' _) (plays_b1 p' n k p e m) ?_
      simp only [allC_cons, allC_nil, and_true, true_and]
      exact ⟨Fk, h0, Fm, hK, by omega, by decide, c0, by decide, c1, by decide, Fk, d2, Fk, by decide, Fk, d3, fits_of (by omega) (by omega), by omega, h1, h2, hk, hkb, hb0, Nat.zero_le _, hLt, by omega, by decide, c0, by decide, c1, by decide, d2, by decide, Fk, d3, Fk, by decide,  hL1, rfl, Fm, hf', by omega, h1, h2, hk, hkb, A0, a74, by simp, by decide,  by omega, hl' _⟩
  · have d3 : decide ((0 : Int) < (k.length : Int)) = false := decide_eq_false (by omega)
    obtain rfl : k = [] := List.length_eq_zero_iff.1 (by omega)
    have A0 : HS n [] [] (n75 (nw0 n [])) := HT_75 (by rw [nw0_eq]; exact HT_new h1 h2 hk)
    have a74 : (0 : Int) = n75 (nw0 n []) 74 := by
      rw [n75_at (by omega)]; kernel_rfl
    by_cases hs : sp7 p e m = m
    · refine FnOk.ofSb (b := true) (FnOk.pure (gP_ok p' _) (plays_a0 p' n [] p e m) ?_) rfl
      have A := HS_A (p := p) (d := e) (m := m) A0 hk m (by omega)
      have hx := xA_len (p := p) (d := e) (m := m) m (by omega)
      have bx := xA_bytes (p := p) hd m (Nat.le_refl _)
      have z := sm_ok A hk h1 h2 (by omega)
      have hw := wA_len (n := n) (k := []) (p := p) (d := e) (a := n75 (nw0 n [])) (v := evN n []) m
      have hv : (evN n []).length = 4 := rfl
      have eW : suW (wA p (n75 (nw0 n [])) e (evN n []) m) (n75 (aA p (n75 (nw0 n [])) e m)) = wA p (n75 (nw0 n [])) e (evN n []) m ++ [[2, n75 (aA p (n75 (nw0 n [])) e m) 74], [3, 31]] := rfl
      have eL : (wA p (n75 (nw0 n [])) e (evN n []) m ++ [[2, n75 (aA p (n75 (nw0 n [])) e m) 74], [3, 31]]).length = (wA p (n75 (nw0 n [])) e (evN n []) m).length + 2 := by rw [List.length_append]; rfl
      rw [eW]
      simp only [allC_cons, allC_nil, and_true, true_and]
      exact ⟨Fk, h0, Fm, hK, by omega, by decide, c0, by decide, c1, by decide, Fk, d2, Fk, by decide, Fk, d3, h1, h2, hk, hkb, hb0, Nat.zero_le _, hLt, by omega, by decide, c0, by decide, c1, by decide, d2, by decide, Fk, d3, Fk, by decide,  hL0, rfl, Fm, hf', by omega, h1, h2, hk, hkb, A0, a74, by simp, by decide, hs, by omega, h1, h2, hk, hkb, bx, by omega, by omega, by omega, z.1, z.2.1, z.2.2.1, z.2.2.2.1, z.2.2.2.2.1, z.2.2.2.2.2, by omega⟩
    · refine FnOk.pure (gP_ok p' _) (plays_b0 p' n [] p e m) ?_
      simp only [allC_cons, allC_nil, and_true, true_and]
      exact ⟨Fk, h0, Fm, hK, by omega, by decide, c0, by decide, c1, by decide, Fk, d2, Fk, by decide, Fk, d3, h1, h2, hk, hkb, hb0, Nat.zero_le _, hLt, by omega, by decide, c0, by decide, c1, by decide, d2, by decide, Fk, d3, Fk, by decide,  hL1, rfl, Fm, hf', by omega, h1, h2, hk, hkb, A0, a74, by simp, by decide,  by omega, hl' _⟩
end Go.Proofs.Tryd
