/- Accounts of this seat's functions: lemmas, no statement of their own. No conditions. -/
import Derived.Test.YtibfkpgdpldjbaaTZm
namespace Go.Proofs.Ytibfkpgdpldjbaa
open Go Go.Vx
/-! ### the document's XOR of bytes in memory -/
abbrev ryS (c : Int) (off m i : Nat) : List (Nat × SV) := rxKeep.zip [.int .u32 c, .sl 0 0 off 1 0 m false, .ptr 1 0, .ptr 2 0, .own 4, .ptr 3 0, .int .i64 (i : Int)]
noncomputable abbrev ryB (l : List Int) (k n x : Nat → Int) (w : List Int) : List Body := [.ints .u8 l, .cells (k32 k), .cells (n12 n), .cells (b64 x), .ints .u8 w]
abbrev ryV (l : List Int) (off : Nat) (x : Nat → Int) (i : Nat) : Int := uxor (l.getD (off + (i : Int).toNat + (0 + 0)) 0) ((listF 64 x 0).getD ((i : Int).tmod 64).toNat 0)
abbrev ryC (l : List Int) (off m : Nat) (x : Nat → Int) (w : List Int) (i : Nat) : List Prop := [(w ++ [ryV l off x i]).length * 1 ≤ 2 ^ 47, ((i : Int).tmod 64).toNat < 64, (0 : Int) ≤ (i : Int).tmod 64 ∧ (i : Int).tmod 64 < ((64 : Nat) : Int), off + (i : Int).toNat + (0 + 0) < l.length, (0 : Int) ≤ (i : Int) ∧ (i : Int) < (m : Int)]
theorem ry_go1 (c : Int) (off m i : Nat) (l : List Int) (k n x : Nat → Int) (w : List Int) : runC g9 300 44 [.br true, .br true] rxBody (ryS c off m i) (ryB l k n x w) rxKeep [0, 1, 2, 3, 6] =
    some (.normal, [.int .u32 c, .sl 0 0 off 1 0 m false, .ptr 1 0, .ptr 2 0, .own 4, .ptr 3 0, .int .i64 ((i : Int) + 1)], (ryB l k n (rxX k n c i) (w ++ [ryV l off (rxX k n c i) i])).map some, [Fits .i64 (m : Int), decide ((i : Int) < (m : Int)) = true, decide ((i : Int).tmod 64 = 0) = true, U (rxc c i), BN 32 (atL (listF 32 k 0)), BN 12 (atL (listF 12 n 0)), Fits .i64 (c + (i : Int).tdiv 64)] ++ ryC l off m (rxX k n c i) w i ++ [Fits .i64 ((i : Int) + 1)]) :=
  run_parts4 (by kernel_rfl) (by kernel_rfl) (by kernel_rfl) (by kernel_rfl)
theorem ry_go0 (c : Int) (off m i : Nat) (l : List Int) (k n x : Nat → Int) (w : List Int) : runC g9 300 44 [.br true, .br false] rxBody (ryS c off m i) (ryB l k n x w) rxKeep [0, 1, 2, 3, 6] =
    some (.normal, [.int .u32 c, .sl 0 0 off 1 0 m false, .ptr 1 0, .ptr 2 0, .own 4, .ptr 3 0, .int .i64 ((i : Int) + 1)], (ryB l k n x (w ++ [ryV l off x i])).map some, [Fits .i64 (m : Int), decide ((i : Int) < (m : Int)) = true, decide ((i : Int).tmod 64 = 0) = false] ++ ryC l off m x w i ++ [Fits .i64 ((i : Int) + 1)]) :=
  run_parts4 (by kernel_rfl) (by kernel_rfl) (by kernel_rfl) (by kernel_rfl)
theorem ry_end (c : Int) (off m i : Nat) (l : List Int) (k n x : Nat → Int) (w : List Int) : runC g9 300 44 [.br false] rxBody (ryS c off m i) (ryB l k n x w) rxKeep [0, 1, 2, 3, 4] =
    some (.exit 0, [.int .u32 c, .sl 0 0 off 1 0 m false, .ptr 1 0, .ptr 2 0, .own 4, .ptr 3 0, .int .i64 (i : Int)], (ryB l k n x w).map some, [Fits .i64 (m : Int), decide ((i : Int) < (m : Int)) = false]) :=
  run_parts4 (by kernel_rfl) (by kernel_rfl) (by kernel_rfl) (by kernel_rfl)
theorem ryV_eq {k n : Nat → Int} {c : Int} (hc : U c) (x : Nat → Int) (l : List Int) (off m : Nat) {i : Nat} (hi : i < m) : ryV l off (XA k n c x (i + 1)) i = uxor ((subI l off m).getD i 0) (strm k c n i) := by
  rw [← rxV_eq hc x, rxV, subI_get hi]
  unfold ryV
  rw [Int.toNat_natCast]
  rfl
noncomputable def ryG : LoopF := fun vals B => match vals, B with
  | [.int .u32 c, .sl 0 0 off 1 0 m false, .ptr 1 0, .ptr 2 0, .raw (.slice none 0 0), .ptr 3 0, .int .i64 0], [.ints K l, .cells ks, .cells ns, .cells xs] => match sameK K .u8, numsAs (List.replicate 32 .u8) ks, numsAs (List.replicate 12 .u8) ns, numsAs (List.replicate 64 .u8) xs with
    | true, some lk, some ln, some lx => some ([(9, .own 4)], ryB l (atL lk) (atL ln) (XA (atL lk) (atL ln) c (atL lx) m) (xoP (subI l off m) (strm (atL lk) c (atL ln)) m), [BN 32 (atL lk), BN 12 (atL ln), U c, m ≤ 1000000000, off + m ≤ l.length])
    | _, _, _, _ => none
  | _, _ => none
theorem ry_loop : LoopGood g9 44 (.loop rxBody) rxKeep 4 (.exit 0) (mkLoopN ryG) := by
  refine LoopGood.mkN (by decide) fun vals B S' B' C hG hC hlen w0 O hgl => ?_
  clear hlen
  unfold ryG at hG
  split at hG
  · rename_i c off m K l ks ns xs
    split at hG
    · rename_i lk ln lx hK hk hn hx
      obtain rfl := kidx_inj hK
      simp only [Option.some.injEq, Prod.mk.injEq] at hG
      obtain ⟨rfl, rfl, rfl⟩ := hG
      simp only [allC_cons, allC_nil, and_true] at hC
      obtain ⟨h1, h2, hc, hl, ho⟩ := hC
      have b1 := BN_listF h1
      have b2 := BN_listF h2
      have F1 : Fits .i64 (m : Int) := fits_small (by omega)
      refine SimC.preI (B1 := [.ints .u8 l, .cells (k32 (atL lk)), .cells (n12 (atL ln)), .cells (b64 (atL lx))]) ?_ ⟨⟨BImp.refl _, fun _ h => by simp at h⟩, cells_nums hk, cells_nums hn, cells_nums hx, trivial⟩
      refine SimC.adoptS (.ints .u8 []) 9 rfl rfl (by simp) (by simp) ?_
      have j3 : ∀ j : Nat, j < 4 → ([0, 1, 2, 3, 6] : List Nat)[j]? = some j := fun j hj => by
        match j, hj with
        | 0, _ => rfl
        | 1, _ => rfl
        | 2, _ => rfl
        | 3, _ => rfl
      have j4 : ∀ j : Nat, j < 4 → ([0, 1, 2, 3, 4] : List Nat)[j]? = some j := fun j hj => by
        match j, hj with
        | 0, _ => rfl
        | 1, _ => rfl
        | 2, _ => rfl
        | 3, _ => rfl
      refine SimC.iter (g := g9) (S := ryS c off m) (B := fun i => ryB l (atL lk) (atL ln) (XA (atL lk) (atL ln) c (atL lx) i) (xoP (subI l off m) (strm (atL lk) c (atL ln)) i)) (N := m) (fun i hi => ?_) ?_ (by simp) 0 (by omega)
      · have hw := xoP_len (subI l off m) (strm (atL lk) c (atL ln)) i
        have F2 : Fits .i64 ((i : Int) + 1) := fits_of (by omega) (by omega)
        have hv := ryV_eq (k := atL lk) (n := atL ln) hc (atL lx) l off m hi
        have hm : (i : Int).tmod 64 = ((i % 64 : Nat) : Int) := mod64 i
        have hd : (i : Int).tdiv 64 = ((i / 64 : Nat) : Int) := by
          rw [Int.tdiv_eq_ediv_of_nonneg (Int.natCast_nonneg _)]; rfl
        have h64 : i % 64 < 64 := Nat.mod_lt _ (by decide)
        by_cases hz : (i : Int).tmod 64 = 0
        · have e : XA (atL lk) (atL ln) c (atL lx) (i + 1) = rxX (atL lk) (atL ln) c i := if_pos hz
          have hr := ry_go1 c off m i l (atL lk) (atL ln) (XA (atL lk) (atL ln) c (atL lx) i) (xoP (subI l off m) (strm (atL lk) c (atL ln)) i)
          rw [← e, hv] at hr
          have q1 : U (rxc c i) := by rw [rxc_eq hc]; exact U_uadd _ _
          have q2 : Fits .i64 (c + (i : Int).tdiv 64) := by have := hc.1; have := hc.2; rw [hd]; exact fits_of (by omega) (by omega)
          refine SimC.run (B' := ryB l (atL lk) (atL ln) (XA (atL lk) (atL ln) c (atL lx) (i + 1)) (xoP (subI l off m) (strm (atL lk) c (atL ln)) (i + 1))) g9_ok (by decide) hr ?_ (by decide) j3 (by decide) (by simp) hgl
          simp only [ryC, List.cons_append, List.nil_append, List.length_append, hw, List.length_cons, List.length_nil, allC_cons, allC_nil, and_true]
          refine ⟨F1, decide_eq_true (by omega), decide_eq_true hz, q1, b1, b2, q2, by omega, by rw [hm]; omega, ⟨by rw [hm]; omega, by rw [hm]; omega⟩, by omega, ⟨by omega, by omega⟩, F2⟩
        · have e : XA (atL lk) (atL ln) c (atL lx) (i + 1) = XA (atL lk) (atL ln) c (atL lx) i := if_neg hz
          have hr := ry_go0 c off m i l (atL lk) (atL ln) (XA (atL lk) (atL ln) c (atL lx) i) (xoP (subI l off m) (strm (atL lk) c (atL ln)) i)
          rw [← e, hv] at hr
          rw [← e]
          refine SimC.run (B' := ryB l (atL lk) (atL ln) (XA (atL lk) (atL ln) c (atL lx) (i + 1)) (xoP (subI l off m) (strm (atL lk) c (atL ln)) (i + 1))) g9_ok (by decide) hr ?_ (by decide) j3 (by decide) (by simp) hgl
          simp only [ryC, List.cons_append, List.nil_append, List.length_append, hw, List.length_cons, List.length_nil, allC_cons, allC_nil, and_true]
          refine ⟨F1, decide_eq_true (by omega), decide_eq_false hz, by omega, by rw [hm]; omega, ⟨by rw [hm]; omega, by rw [hm]; omega⟩, by omega, ⟨by omega, by omega⟩, F2⟩
      · exact SimC.weaken (SimC.run (B' := ryB l (atL lk) (atL ln) (XA (atL lk) (atL ln) c (atL lx) m) (xoP (subI l off m) (strm (atL lk) c (atL ln)) m)) g9_ok (by decide) (ry_end c off m m l _ _ _ _) (by (simp only [allC_cons, allC_nil, and_true]; repeat' (with_reducible (first | refine And.intro ?_ ?_ | exact True.intro | assumption | omega | exact decide_eq_true (by first | assumption | omega) | exact decide_eq_false (by first | assumption | omega) | rfl | (simp; done))))) (by decide) j4 (by decide) (by simp) hgl) (sub_mkT (by simp; rfl))
    · simp at hG
  · simp at hG
theorem xo_run (c : Int) (l : List Int) (k n : Nat → Int) : runF g9 300 [.loop 4 rxKeep 3 (.exit 0) (mkLoopN rxG)] 20 [.agg (k32 k), .int .u32 c, .agg (n12 n), .roi .u8 l] [] [3] =
    some (.own 0, [some (.ints .u8 (xoP l (strm (atL (listF 32 k 0)) c (atL (listF 12 n 0))) l.length))], [LoopGood g9 44 (.loop rxBody) rxKeep 3 (.exit 0) (mkLoopN rxG), BN 32 (atL (listF 32 k 0)), BN 12 (atL (listF 12 n 0)), U c, l.length ≤ 1000000000]) :=
  run_parts (by kernel_rfl) (by kernel_rfl) (by kernel_rfl)
theorem yo_run (c : Int) (off m : Nat) (l : List Int) (k n : Nat → Int) : runF g9 300 [.loop 4 rxKeep 4 (.exit 0) (mkLoopN ryG)] 20 [.agg (k32 k), .int .u32 c, .agg (n12 n), .sl 0 0 off 1 0 m false] [.ints .u8 l] [4] =
    some (.own 1, [some (.ints .u8 l), some (.ints .u8 (xoP (subI l off m) (strm (atL (listF 32 k 0)) c (atL (listF 12 n 0))) m))], [LoopGood g9 44 (.loop rxBody) rxKeep 4 (.exit 0) (mkLoopN ryG), BN 32 (atL (listF 32 k 0)), BN 12 (atL (listF 12 n 0)), U c, m ≤ 1000000000, off + m ≤ l.length]) :=
  run_parts (by kernel_rfl) (by kernel_rfl) (by kernel_rfl)
theorem xoP_get (l : List Int) (s : Nat → Int) : ∀ (n : Nat) {p : Nat}, p < n → (xoP l s n).getD p 0 = uxor (l.getD p 0) (s p)
  | n + 1, p, hp => by
    have hl := xoP_len l s n
    show (xoP l s n ++ [uxor (l.getD n 0) (s n)]).getD p 0 = _
    rw [List.getD_eq_getElem?_getD]
    by_cases h : p < n
    · rw [List.getElem?_append_left (by omega), ← List.getD_eq_getElem?_getD, xoP_get l s n h]
    · obtain rfl : p = n := by omega
      rw [List.getElem?_append_right (by omega), hl, Nat.sub_self]; rfl
theorem xoP_eq (l : List Int) (s : Nat → Int) : xoP l s l.length = xorF l 0 l.length s := by
  refine ext_getD (by rw [xoP_len, xorF_len]) fun p hp => ?_
  rw [xoP_len] at hp
  rw [xoP_get l s _ hp, xorF_get _ _ _ _ hp, if_pos (by omega), Nat.sub_zero]
noncomputable def F20 : SumF := fun args B => match args, B with
  | [.agg ks, .int .u32 c, .agg ns, .roi K l], [] => match sameK K .u8, numsAs (List.replicate 32 .u8) ks, numsAs (List.replicate 12 .u8) ns with
    | true, some lk, some ln => some { val := .own 0, new := [.ints .u8 (xorF l 0 l.length (strm (atL lk) c (atL ln)))], C := [U c, BN 32 (atL lk), BN 12 (atL ln), l.length ≤ 1000000000] }
    | _, _, _ => none
  | [.agg ks, .int .u32 c, .agg ns, x], [.ints K l] => match sameK K .u8, numsAs (List.replicate 32 .u8) ks, numsAs (List.replicate 12 .u8) ns, vwI 0 l x with
    | true, some lk, some ln, some (off, n) => some { val := .own 1, new := [.ints .u8 (xorF (subI l off n) 0 n (strm (atL lk) c (atL ln)))], C := [U c, BN 32 (atL lk), BN 12 (atL ln), n ≤ 1000000000, off + n ≤ l.length] }
    | _, _, _, _ => none
  | _, _ => none
theorem acc20 : Acc g9 20 F20 := by
  intro args B out h hC
  unfold F20 at h
  split at h
  · rename_i ks c ns K l
    split at h
    · rename_i lk ln hK hk hn
      obtain rfl := kidx_inj hK
      simp only [Option.some.injEq] at h; subst h
      simp only [allC_cons, allC_nil, and_true] at hC
      obtain ⟨hc, h1, h2, hl⟩ := hC
      have b1 := BN_listF h1
      have b2 := BN_listF h2
      have hL := rx_loop
      refine FnOk.imp (args' := [.agg (k32 (atL lk)), .int .u32 c, .agg (n12 (atL ln)), .roi .u8 l]) ?_ ⟨nums_imp hk, DenImp.refl _, nums_imp hn, DenImp.refl _, trivial⟩
      have hr := xo_run c l (atL lk) (atL ln)
      rw [strm_list, xoP_eq] at hr
      refine FnOk.run (out := { val := .own 0, new := [.ints .u8 (xorF l 0 l.length (strm (atL lk) c (atL ln)))] }) (new := [3]) g9_ok hr (by simp only [allC_cons, allC_nil, and_true]; exact ⟨hL, b1, b2, hc, hl⟩) (by simp [upto]) rfl (by simp) (by simp) fun j hj => ?_
      match j, hj with
      | 0, _ => rfl
      | j + 1, hj => exact absurd hj (by simp)
    · simp at h
  · rename_i ks c ns x K l
    split at h
    · rename_i lk ln off n hK hk hn hx
      obtain rfl := kidx_inj hK
      simp only [Option.some.injEq] at h; subst h
      simp only [allC_cons, allC_nil, and_true] at hC
      obtain ⟨hc, h1, h2, hl, ho⟩ := hC
      have b1 := BN_listF h1
      have b2 := BN_listF h2
      have hL := ry_loop
      refine FnOk.argsH (args' := [.agg (k32 (atL lk)), .int .u32 c, .agg (n12 (atL ln)), .sl 0 0 off 1 0 n false]) ?_ fun w0 O ρ Φ w vs r d => ?_
      · have hr := yo_run c off n l (atL lk) (atL ln)
        have e := xoP_eq (subI l off n) (strm (atL lk) c (atL ln))
        rw [subI_length ho] at e
        rw [strm_list, e] at hr
        refine FnOk.run (out := { val := .own 1, new := [.ints .u8 (xorF (subI l off n) 0 n (strm (atL lk) c (atL ln)))] }) (new := [4]) g9_ok hr (by simp only [allC_cons, allC_nil, and_true]; exact ⟨hL, b1, b2, hc, hl, ho⟩) (by simp [upto]) rfl (by simp) (by simp) fun j hj => ?_
        match j, hj with
        | 0, _ => rfl
        | 1, _ => rfl
        | j + 2, hj => exact absurd hj (by simp)
      · simp only [DenT] at d ⊢
        obtain ⟨v2, r2, rfl, d2, v3, r3, rfl, d3, v4, r4, rfl, d4, v5, r5, rfl, d5, rfl⟩ := d
        exact ⟨_, _, rfl, nums_imp hk _ _ _ _ d2, _, _, rfl, d3, _, _, rfl, nums_imp hn _ _ _ _ d4, _, _, rfl, vwI_den hx r rfl d5, rfl⟩
    · simp at h
  · simp at h
end Go.Proofs.Ytibfkpgdpldjbaa
