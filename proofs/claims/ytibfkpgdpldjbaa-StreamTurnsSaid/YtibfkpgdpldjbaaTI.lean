/- Accounts of this seat's functions: lemmas, no statement of their own. No conditions. -/
import Derived.Test.YtibfkpgdpldjbaaTH
namespace Go.Proofs.Ytibfkpgdpldjbaa
open Go Go.Vx

/-! ### plain: XOR is one run over the bytes -/
theorem blk_congr {x y : Nat → Int} (h : ∀ i, i < 16 → x i = y i) {j : Nat} (hj : j < 64) : blk x j = blk y j := by
  unfold blk
  rw [drN_congr h 10 (j / 4) (by omega), h (j / 4) (by omega)]
theorem bump_congr {x y : Nat → Int} (h : ∀ i, i < 16 → x i = y i) (c : Nat) : ∀ i, i < 16 → bump x c i = bump y c i := fun i hi => by
  unfold bump; rw [h 12 (by decide), h i hi]
theorem sb_congr {x y : Nat → Int} (h : ∀ i, i < 16 → x i = y i) (j : Nat) : sb x j = sb y j := blk_congr (bump_congr h _) (by omega)
theorem sb_listF (s : Nat → Int) (j : Nat) : sb (atL (listF 16 s 0)) j = sb s j := sb_congr (fun _ h => atL_listF h) j
theorem m32 : modulus .u32 = 4294967296 := rfl
theorem uadd_nat (x : Int) (a b : Nat) : uadd .u32 (uadd .u32 x a) b = uadd .u32 x ((a + b : Nat) : Int) := by
  unfold uadd
  rw [m32]
  simp only [Int.ofNat_eq_natCast, Int.toNat_natCast]
  congr 1
  omega
theorem uadd_zero {x : Int} (h : Fits .u32 x) : uadd .u32 x ((0 : Nat) : Int) = x := by
  obtain ⟨h1, h2⟩ := h
  have h1 : (0 : Int) ≤ x := h1
  have h2 : x ≤ (4294967295 : Int) := h2
  unfold uadd
  rw [m32]
  simp only [Int.ofNat_eq_natCast, Int.toNat_natCast]
  omega
theorem bump_bump (s : Nat → Int) (a b i : Nat) : bump (bump s a) b i = bump s (a + b) i := by
  unfold bump
  by_cases h : i = 12
  · rw [if_pos h, if_pos h, if_pos rfl, uadd_nat]
  · rw [if_neg h, if_neg h, if_neg h]
theorem bump_zero {s : Nat → Int} (h : Fits .u32 (s 12)) (i : Nat) : bump s 0 i = s i := by
  unfold bump
  by_cases e : i = 12
  · subst e; rw [if_pos rfl, uadd_zero h]
  · rw [if_neg e]
theorem sb_bump (s : Nat → Int) (c j : Nat) : sb (bump s c) j = sb s (64 * c + j) := by
  unfold sb
  rw [show (64 * c + j) / 64 = c + j / 64 by omega, show (64 * c + j) % 64 = j % 64 by omega]
  exact blk_congr (fun i _ => bump_bump s c _ i) (by omega)
theorem blk_bump (s : Nat → Int) (c : Nat) {j : Nat} (hj : j < 64) : blk (bump s c) j = sb s (64 * c + j) := by
  unfold sb
  rw [show (64 * c + j) / 64 = c by omega, show (64 * c + j) % 64 = j by omega]
theorem xorF_congr {l : List Int} {off m : Nat} {f g : Nat → Int} (h : ∀ j, j < m → f j = g j) : xorF l off m f = xorF l off m g := by
  refine ext_getD (by rw [xorF_len, xorF_len]) fun p hp => ?_
  rw [xorF_len] at hp
  rw [xorF_get l off m f hp, xorF_get l off m g hp]
  by_cases c : off ≤ p ∧ p < off + m
  · rw [if_pos c, if_pos c, h _ (by omega)]
  · rw [if_neg c, if_neg c]
theorem xorF_append {l : List Int} {off a m : Nat} {f g : Nat → Int} (h : ∀ j, j < m → g j = f (a + j)) : xorF (xorF l off a f) (off + a) m g = xorF l off (a + m) f := by
  refine ext_getD (by simp [xorF_len]) fun p hp => ?_
  rw [xorF_len, xorF_len] at hp
  rw [xorF_get _ _ _ _ (by rw [xorF_len]; exact hp), xorF_get l off a f hp, xorF_get l off (a + m) f hp]
  by_cases c1 : off ≤ p ∧ p < off + a
  · rw [if_pos c1, if_neg (by omega), if_pos (by omega)]
  · rw [if_neg c1]
    by_cases c2 : off + a ≤ p ∧ p < off + a + m
    · rw [if_pos c2, if_pos (by omega), h _ (by omega)]
      congr 2; omega
    · rw [if_neg c2, if_neg (by omega)]

theorem w16_bump0 {s : Nat → Int} (h : Fits .u32 (s 12)) : w16 (bump s 0) = w16 s := by
  have : bump s 0 = s := funext fun i => bump_zero h i
  rw [this]
theorem n1_go' (off n a : Nat) (l : List Int) (s : Nat → Int) : runC g3 300 92 [.br true] x1Body (xnS off n a) (xnB l s) xoKeep [0, 1] =
    some (Ex.normal, [.raw (.pointer none), .sl 0 0 off 1 0 n false, .ptr 1 0, .int .i64 ((a : Int) + 256)], [some (.ints .u8 (xorF l (off + a) 256 (sb (atL (listF 16 s 0))))), some (.cells (w16 (bump s 4)))],
      [Fits .i64 ((n : Int) - a), Fits .i64 (n : Int), decide ((256 : Int) ≤ (n : Int) - a) = true, 256 ≤ n - a, (0 : Int) ≤ (a : Int) ∧ (a : Int) ≤ (n : Int) ∧ (n : Int) ≤ (n : Int), off + a + 256 ≤ l.length, Fits .i64 ((a : Int) + 256)]) := n1_go off n a l s
theorem n2_go' (off n a : Nat) (l : List Int) (s : Nat → Int) : runC g3 300 92 [.br true] x2Body (xnS off n a) (xnB l s) xoKeep [0, 1] =
    some (Ex.normal, [.raw (.pointer none), .sl 0 0 off 1 0 n false, .ptr 1 0, .int .i64 ((a : Int) + 64)], [some (.ints .u8 (xorF l (off + a) 64 (atL (listF 64 (blk (atL (listF 16 s 0))) 0)))), some (.cells (w16 (bump s 1)))],
      [Fits .i64 ((n : Int) - a), Fits .i64 (n : Int), decide ((64 : Int) ≤ (n : Int) - a) = true, 64 ≤ n - a, (0 : Int) ≤ (a : Int) ∧ (a : Int) ≤ (n : Int) ∧ (n : Int) ≤ (n : Int), off + a + 64 ≤ l.length, Fits .i64 ((a : Int) + 64)]) := by kernel_rfl
theorem n1_end' (off n a : Nat) (l : List Int) (s : Nat → Int) : runC g3 300 92 [.br false] x1Body (xnS off n a) (xnB l s) xoKeep [0, 1] =
    some (Ex.exit 0, [.raw (.pointer none), .sl 0 0 off 1 0 n false, .ptr 1 0, .int .i64 (a : Int)], [some (.ints .u8 l), some (.cells (w16 s))], [Fits .i64 ((n : Int) - a), Fits .i64 (n : Int), decide ((256 : Int) ≤ (n : Int) - a) = false]) := by kernel_rfl
theorem n2_end' (off n a : Nat) (l : List Int) (s : Nat → Int) : runC g3 300 92 [.br false] x2Body (xnS off n a) (xnB l s) xoKeep [0, 1] =
    some (Ex.exit 2, [.raw (.pointer none), .sl 0 0 off 1 0 n false, .ptr 1 0, .int .i64 (a : Int)], [some (.ints .u8 l), some (.cells (w16 s))], [Fits .i64 ((n : Int) - a), Fits .i64 (n : Int), decide ((64 : Int) ≤ (n : Int) - a) = false]) := by kernel_rfl
theorem n1_loop : LoopGood g3 92 (.loop x1Body) xoKeep 2 (.exit 0) (mkLoopN n1G) := by
  refine LoopGood.mkN (by decide) fun vals B S' B' C hG hC hlen w0 O hgl => ?_
  clear hlen
  unfold n1G at hG
  split at hG
  · rename_i off n K l ss
    split at hG
    · rename_i ls hK hb
      obtain rfl := kidx_inj hK
      simp only [Option.some.injEq, Prod.mk.injEq] at hG
      obtain ⟨rfl, rfl, rfl⟩ := hG
      simp only [allC_cons, allC_nil, and_true] at hC
      obtain ⟨h1, h2, h3⟩ := hC
      refine SimC.preI (B1 := xnB l (atL ls)) ?_ ⟨⟨BImp.refl _, fun _ h => by simp at h⟩, cells_nums hb, trivial⟩
      generalize atL ls = s at h3 ⊢
      have key := SimC.iter (g := g3) (nT := 92) (c := x1Body) (m := 2) (w0 := w0) (O := O) (e := .exit 0) (S := fun i => xnS off n (256 * i)) (B := fun i => xnB (xorF l off (256 * i) (sb s)) (bump s (4 * i))) (N := n / 256)
        (S' := [(0, .raw (.pointer none)), (4, .sl 0 0 off 1 0 n false), (10, .ptr 1 0), (11, .int .i64 ((256 * (n / 256) : Nat) : Int))]) (B' := [.ints .u8 (xorF l off (256 * (n / 256)) (sb s)), .cells (w16 (bump s (4 * (n / 256))))]) (fun i hi => ?_) ?_ (by simp) 0 (by omega)
      · simp only [Nat.mul_zero, xorF_zero] at key
        rw [show xnB l (bump s 0) = xnB l s by simp only [xnB, w16_bump0 h3]] at key
        exact key
      · have hx := xorF_len l off (256 * i) (sb s)
        have F1 : Fits .i64 (((256 * i : Nat) : Int) + 256) := fits_of (by omega) (by omega)
        have F2 : Fits .i64 ((n : Int) - (256 * i : Nat)) := fits_of (by omega) (by omega)
        have F3 : Fits .i64 (n : Int) := fits_of (by omega) (by omega)
        have hr := n1_go' off n (256 * i) (xorF l off (256 * i) (sb s)) (bump s (4 * i))
        rw [xorF_append (f := sb s) (fun j _ => by rw [sb_listF, sb_bump]; rw [show 64 * (4 * i) + j = 256 * i + j by omega])] at hr
        rw [show w16 (bump (bump s (4 * i)) 4) = w16 (bump s (4 * (i + 1))) by rw [show bump (bump s (4 * i)) 4 = bump s (4 * (i + 1)) from funext fun j => bump_bump s _ 4 j]] at hr
        exact SimC.run (B' := xnB (xorF l off (256 * (i + 1)) (sb s)) (bump s (4 * (i + 1)))) g3_ok (by decide) hr (by rw [hx]; (simp only [allC_cons, allC_nil, and_true]; repeat' (with_reducible (first | refine And.intro ?_ ?_ | exact True.intro | assumption | omega | exact decide_eq_true (by first | assumption | omega) | exact decide_eq_false (by first | assumption | omega) | rfl | (simp; done))))) (by decide) j2 (by decide) (by simp) hgl
      · have F2 : Fits .i64 ((n : Int) - (256 * (n / 256) : Nat)) := fits_of (by omega) (by omega)
        have F3 : Fits .i64 (n : Int) := fits_of (by omega) (by omega)
        exact SimC.weaken (SimC.run (B' := xnB (xorF l off (256 * (n / 256)) (sb s)) (bump s (4 * (n / 256)))) g3_ok (by decide) (n1_end' off n (256 * (n / 256)) _ _) (by (simp only [allC_cons, allC_nil, and_true]; repeat' (with_reducible (first | refine And.intro ?_ ?_ | exact True.intro | assumption | omega | exact decide_eq_true (by first | assumption | omega) | exact decide_eq_false (by first | assumption | omega) | rfl | (simp; done))))) (by decide) j2 (by decide) (by simp) hgl) (sub_mkT (by simp; exact ⟨rfl, rfl, rfl, rfl⟩))
    · simp at hG
  · simp at hG
theorem n2_loop : LoopGood g3 92 (.loop x2Body) xoKeep 2 (.exit 2) (mkLoopN n2G) := by
  refine LoopGood.mkN (by decide) fun vals B S' B' C hG hC hlen w0 O hgl => ?_
  clear hlen
  unfold n2G at hG
  split at hG
  · rename_i off n a K l ss
    split at hG
    · rename_i ls hK hb
      obtain rfl := kidx_inj hK
      simp only [Option.some.injEq, Prod.mk.injEq] at hG
      obtain ⟨rfl, rfl, rfl⟩ := hG
      simp only [allC_cons, allC_nil, and_true] at hC
      obtain ⟨h0, h0', h1, h2, h3⟩ := hC
      obtain ⟨a, rfl⟩ := Int.eq_ofNat_of_zero_le h0
      simp only [Int.toNat_natCast]
      refine SimC.preI (B1 := xnB l (atL ls)) ?_ ⟨⟨BImp.refl _, fun _ h => by simp at h⟩, cells_nums hb, trivial⟩
      generalize atL ls = s at h3 ⊢
      have key := SimC.iter (g := g3) (nT := 92) (c := x2Body) (m := 2) (w0 := w0) (O := O) (e := .exit 2) (S := fun i => xnS off n (a + 64 * i)) (B := fun i => xnB (xorF l (off + a) (64 * i) (sb s)) (bump s i)) (N := (n - a) / 64)
        (S' := [(0, .raw (.pointer none)), (4, .sl 0 0 off 1 0 n false), (10, .ptr 1 0), (11, .int .i64 ((a + 64 * ((n - a) / 64) : Nat) : Int))]) (B' := [.ints .u8 (xorF l (off + a) (64 * ((n - a) / 64)) (sb s)), .cells (w16 (bump s ((n - a) / 64)))]) (fun i hi => ?_) ?_ (by simp) 0 (by omega)
      · simp only [Nat.mul_zero, xorF_zero, Nat.add_zero] at key
        rw [show xnB l (bump s 0) = xnB l s by simp only [xnB, w16_bump0 h3]] at key
        exact key
      · have hx := xorF_len l (off + a) (64 * i) (sb s)
        have F1 : Fits .i64 (((a + 64 * i : Nat) : Int) + 64) := fits_of (by omega) (by omega)
        have F2 : Fits .i64 ((n : Int) - (a + 64 * i : Nat)) := fits_of (by omega) (by omega)
        have F3 : Fits .i64 (n : Int) := fits_of (by omega) (by omega)
        have hr := n2_go' off n (a + 64 * i) (xorF l (off + a) (64 * i) (sb s)) (bump s i)
        rw [show off + (a + 64 * i) = off + a + 64 * i by omega] at hr
        rw [xorF_append (f := sb s) (fun j hj => by rw [atL_listF hj, blk_congr (fun i' h' => atL_listF h') hj, blk_bump s i hj])] at hr
        rw [show w16 (bump (bump s i) 1) = w16 (bump s (i + 1)) by rw [show bump (bump s i) 1 = bump s (i + 1) from funext fun j => bump_bump s _ 1 j]] at hr
        exact SimC.run (B' := xnB (xorF l (off + a) (64 * (i + 1)) (sb s)) (bump s (i + 1))) g3_ok (by decide) hr (by rw [hx]; (simp only [allC_cons, allC_nil, and_true]; repeat' (with_reducible (first | refine And.intro ?_ ?_ | exact True.intro | assumption | omega | exact decide_eq_true (by first | assumption | omega) | exact decide_eq_false (by first | assumption | omega) | rfl | (simp; done))))) (by decide) j2 (by decide) (by simp) hgl
      · have F2 : Fits .i64 ((n : Int) - (a + 64 * ((n - a) / 64) : Nat)) := fits_of (by omega) (by omega)
        have F3 : Fits .i64 (n : Int) := fits_of (by omega) (by omega)
        exact SimC.weaken (SimC.run (B' := xnB (xorF l (off + a) (64 * ((n - a) / 64)) (sb s)) (bump s ((n - a) / 64))) g3_ok (by decide) (n2_end' off n (a + 64 * ((n - a) / 64)) _ _) (by (simp only [allC_cons, allC_nil, and_true]; repeat' (with_reducible (first | refine And.intro ?_ ?_ | exact True.intro | assumption | omega | exact decide_eq_true (by first | assumption | omega) | exact decide_eq_false (by first | assumption | omega) | rfl | (simp; done))))) (by decide) j2 (by decide) (by simp) hgl) (sub_mkT (by simp; exact ⟨rfl, rfl, rfl, rfl⟩))
    · simp at hG
  · simp at hG
end Go.Proofs.Ytibfkpgdpldjbaa
