/- Accounts of this seat's functions: lemmas, no statement of their own. No conditions. -/
import Derived.Test.YtibfkpgdpldjbaaTJ
namespace Go.Proofs.Ytibfkpgdpldjbaa
open Go Go.Vx
/-! ### XOR, logged -/
noncomputable abbrev xlS (off n : Nat) (at' : Nat) : List (Nat × SV) := xoKeep.zip [.ptr 0 0, .sl 1 0 off 1 0 n false, .ptr 2 0, .int .i64 (at' : Int)]
noncomputable abbrev xlB (w : List (List Int)) (l : List Int) (s : Nat → Int) : List Body := [.log w, .ints .u8 l, .cells (w16 s)]
abbrev oneIf (p : Prop) [Decidable p] : List (List Int) := [[1, if decide p = true then 1 else 0]]
theorem l1_go (off n a : Nat) (w : List (List Int)) (l : List Int) (s : Nat → Int) : runC g3 300 92 [.br true] x1Body (xlS off n a) (xlB w l s) xoKeep [0, 1, 2] =
    some (.normal, [.ptr 0 0, .sl 1 0 off 1 0 n false, .ptr 2 0, .int .i64 ((a : Int) + 256)], [some (.log (w ++ oneIf ((256 : Int) ≤ (n : Int) - a) ++ [[2, (a : Int)]] ++ [[3, 21]])), some (.ints .u8 (xorF l (off + a) 256 (sb (atL (listF 16 s 0))))), some (.cells (w16 (bump s 4)))],
      [w.length < 1099511627776, Fits .i64 ((n : Int) - a), Fits .i64 (n : Int), decide ((256 : Int) ≤ (n : Int) - a) = true, 256 ≤ n - a, (0 : Int) ≤ (a : Int) ∧ (a : Int) ≤ (n : Int) ∧ (n : Int) ≤ (n : Int), (w ++ oneIf ((256 : Int) ≤ (n : Int) - a)).length < 1099511627776, (w ++ oneIf ((256 : Int) ≤ (n : Int) - a) ++ [[2, (a : Int)]]).length < 1099511627776, off + a + 256 ≤ l.length, Fits .i64 ((a : Int) + 256)]) := by kernel_rfl
theorem l2_go (off n a : Nat) (w : List (List Int)) (l : List Int) (s : Nat → Int) : runC g3 300 92 [.br true] x2Body (xlS off n a) (xlB w l s) xoKeep [0, 1, 2] =
    some (.normal, [.ptr 0 0, .sl 1 0 off 1 0 n false, .ptr 2 0, .int .i64 ((a : Int) + 64)], [some (.log (w ++ oneIf ((64 : Int) ≤ (n : Int) - a) ++ [[2, (a : Int)]] ++ [[3, 22]])), some (.ints .u8 (xorF l (off + a) 64 (atL (listF 64 (blk (atL (listF 16 s 0))) 0)))), some (.cells (w16 (bump s 1)))],
      [w.length < 1099511627776, Fits .i64 ((n : Int) - a), Fits .i64 (n : Int), decide ((64 : Int) ≤ (n : Int) - a) = true, 64 ≤ n - a, (0 : Int) ≤ (a : Int) ∧ (a : Int) ≤ (n : Int) ∧ (n : Int) ≤ (n : Int), (w ++ oneIf ((64 : Int) ≤ (n : Int) - a)).length < 1099511627776, (w ++ oneIf ((64 : Int) ≤ (n : Int) - a) ++ [[2, (a : Int)]]).length < 1099511627776, off + a + 64 ≤ l.length, Fits .i64 ((a : Int) + 64)]) := by kernel_rfl
theorem l1_end (off n a : Nat) (w : List (List Int)) (l : List Int) (s : Nat → Int) : runC g3 300 92 [.br false] x1Body (xlS off n a) (xlB w l s) xoKeep [0, 1, 2] =
    some (.exit 0, [.ptr 0 0, .sl 1 0 off 1 0 n false, .ptr 2 0, .int .i64 (a : Int)], [some (.log (w ++ oneIf ((256 : Int) ≤ (n : Int) - a))), some (.ints .u8 l), some (.cells (w16 s))], [w.length < 1099511627776, Fits .i64 ((n : Int) - a), Fits .i64 (n : Int), decide ((256 : Int) ≤ (n : Int) - a) = false]) := by kernel_rfl
theorem l2_end (off n a : Nat) (w : List (List Int)) (l : List Int) (s : Nat → Int) : runC g3 300 92 [.br false] x2Body (xlS off n a) (xlB w l s) xoKeep [0, 1, 2] =
    some (.exit 2, [.ptr 0 0, .sl 1 0 off 1 0 n false, .ptr 2 0, .int .i64 (a : Int)], [some (.log (w ++ oneIf ((64 : Int) ≤ (n : Int) - a))), some (.ints .u8 l), some (.cells (w16 s))], [w.length < 1099511627776, Fits .i64 ((n : Int) - a), Fits .i64 (n : Int), decide ((64 : Int) ≤ (n : Int) - a) = false]) := by kernel_rfl
def e1 : Nat → List (List Int)
  | 0 => []
  | i + 1 => e1 i ++ [[1, 1], [2, ((256 * i : Nat) : Int)], [3, 21]]
def e2 (a : Nat) : Nat → List (List Int)
  | 0 => []
  | i + 1 => e2 a i ++ [[1, 1], [2, ((a + 64 * i : Nat) : Int)], [3, 22]]
theorem e1_len : ∀ n, (e1 n).length = 3 * n
  | 0 => rfl
  | n + 1 => by simp [e1, e1_len n]; omega
theorem e2_len (a : Nat) : ∀ n, (e2 a n).length = 3 * n
  | 0 => rfl
  | n + 1 => by simp [e2, e2_len a n]; omega
noncomputable def l1G : LoopF := fun vals B => match vals, B with
  | [.ptr 0 0, .sl 1 0 off 1 0 n false, .ptr 2 0, .int .i64 0], [.log w, .ints K l, .cells ss] => match sameK K .u8, numsAs (List.replicate 16 .u32) ss with
    | true, some ls => some ([(0, .ptr 0 0), (4, .sl 1 0 off 1 0 n false), (10, .ptr 2 0), (11, .int .i64 ((256 * (n / 256) : Nat) : Int))], [.log (w ++ e1 (n / 256) ++ [[1, 0]]), .ints .u8 (xorF l off (256 * (n / 256)) (sb (atL ls))), .cells (w16 (bump (atL ls) (4 * (n / 256))))], [off + n ≤ l.length, n ≤ 140737488355328, Fits .u32 (atL ls 12), w.length + n < 1099511627000])
    | _, _ => none
  | _, _ => none
noncomputable def l2G : LoopF := fun vals B => match vals, B with
  | [.ptr 0 0, .sl 1 0 off 1 0 n false, .ptr 2 0, .int .i64 a], [.log w, .ints K l, .cells ss] => match sameK K .u8, numsAs (List.replicate 16 .u32) ss with
    | true, some ls => some ([(0, .ptr 0 0), (4, .sl 1 0 off 1 0 n false), (10, .ptr 2 0), (11, .int .i64 ((a.toNat + 64 * ((n - a.toNat) / 64) : Nat) : Int))], [.log (w ++ e2 a.toNat ((n - a.toNat) / 64) ++ [[1, 0]]), .ints .u8 (xorF l (off + a.toNat) (64 * ((n - a.toNat) / 64)) (sb (atL ls))), .cells (w16 (bump (atL ls) ((n - a.toNat) / 64)))], [0 ≤ a, a ≤ n, off + n ≤ l.length, n ≤ 140737488355328, Fits .u32 (atL ls 12), w.length + (n - a.toNat) < 1099511627500])
    | _, _ => none
  | _, _ => none
theorem l1_loop : LoopGood g3 92 (.loop x1Body) xoKeep 3 (.exit 0) (mkLoopN l1G) := by
  refine LoopGood.mkN (by decide) fun vals B S' B' C hG hC hlen w0 O hgl => ?_
  clear hlen
  unfold l1G at hG
  split at hG
  · rename_i off n w K l ss
    split at hG
    · rename_i ls hK hb
      obtain rfl := kidx_inj hK
      simp only [Option.some.injEq, Prod.mk.injEq] at hG
      obtain ⟨rfl, rfl, rfl⟩ := hG
      simp only [allC_cons, allC_nil, and_true] at hC
      obtain ⟨h1, h2, h3, h4⟩ := hC
      refine SimC.preI (B1 := xlB w l (atL ls)) ?_ ⟨⟨BImp.refl _, fun _ h => by simp at h⟩, ⟨BImp.refl _, fun _ h => by simp at h⟩, cells_nums hb, trivial⟩
      generalize atL ls = s at h3 ⊢
      have key := SimC.iter (g := g3) (nT := 92) (c := x1Body) (m := 3) (w0 := w0) (O := O) (e := .exit 0) (S := fun i => xlS off n (256 * i)) (B := fun i => xlB (w ++ e1 i) (xorF l off (256 * i) (sb s)) (bump s (4 * i))) (N := n / 256)
        (S' := [(0, .ptr 0 0), (4, .sl 1 0 off 1 0 n false), (10, .ptr 2 0), (11, .int .i64 ((256 * (n / 256) : Nat) : Int))]) (B' := [.log (w ++ e1 (n / 256) ++ [[1, 0]]), .ints .u8 (xorF l off (256 * (n / 256)) (sb s)), .cells (w16 (bump s (4 * (n / 256))))]) (fun i hi => ?_) ?_ (by simp) 0 (by omega)
      · simp only [Nat.mul_zero, xorF_zero, e1, List.append_nil] at key
        rw [show xlB w l (bump s 0) = xlB w l s by simp only [xlB, w16_bump0 h3]] at key
        exact key
      · have hx := xorF_len l off (256 * i) (sb s)
        have he := e1_len i
        have hw : (w ++ e1 i).length = w.length + 3 * i := by simp [he]
        have F1 : Fits .i64 (((256 * i : Nat) : Int) + 256) := fits_of (by omega) (by omega)
        have F2 : Fits .i64 ((n : Int) - (256 * i : Nat)) := fits_of (by omega) (by omega)
        have F3 : Fits .i64 (n : Int) := fits_of (by omega) (by omega)
        have hr := l1_go off n (256 * i) (w ++ e1 i) (xorF l off (256 * i) (sb s)) (bump s (4 * i))
        have hd : decide ((256 : Int) ≤ (n : Int) - (256 * i : Nat)) = true := decide_eq_true (by omega)
        rw [show oneIf ((256 : Int) ≤ (n : Int) - (256 * i : Nat)) = [[1, 1]] by unfold oneIf; rw [if_pos hd]] at hr
        rw [xorF_append (f := sb s) (fun j _ => by rw [sb_listF, sb_bump]; rw [show 64 * (4 * i) + j = 256 * i + j by omega])] at hr
        rw [show w16 (bump (bump s (4 * i)) 4) = w16 (bump s (4 * (i + 1))) by rw [show bump (bump s (4 * i)) 4 = bump s (4 * (i + 1)) from funext fun j => bump_bump s _ 4 j]] at hr
        have hlog : w ++ e1 i ++ [[1, 1]] ++ [[2, ((256 * i : Nat) : Int)]] ++ [[3, 21]] = w ++ e1 (i + 1) := by simp [e1]
        have q1 : (w ++ e1 i ++ [[1, 1]]).length < 1099511627776 := by rw [List.length_append, hw]; simp; omega
        have q2 : (w ++ e1 i ++ [[1, 1]] ++ [[2, ((256 * i : Nat) : Int)]]).length < 1099511627776 := by rw [List.length_append, List.length_append, hw]; simp; omega
        have q0 : (w ++ e1 i).length < 1099511627776 := by omega
        rw [hlog] at hr
        exact SimC.run (B' := xlB (w ++ e1 (i + 1)) (xorF l off (256 * (i + 1)) (sb s)) (bump s (4 * (i + 1)))) g3_ok (by decide) hr (by rw [hx]; (simp only [allC_cons, allC_nil, and_true]; repeat' (with_reducible (first | refine And.intro ?_ ?_ | exact True.intro | assumption | omega | exact decide_eq_true (by first | assumption | omega) | exact decide_eq_false (by first | assumption | omega) | rfl | (simp; done))))) (by decide) i3 (by decide) (by simp) hgl
      · have F2 : Fits .i64 ((n : Int) - (256 * (n / 256) : Nat)) := fits_of (by omega) (by omega)
        have F3 : Fits .i64 (n : Int) := fits_of (by omega) (by omega)
        have he := e1_len (n / 256)
        have q0 : (w ++ e1 (n / 256)).length < 1099511627776 := by simp [he]; omega
        have hr := l1_end off n (256 * (n / 256)) (w ++ e1 (n / 256)) (xorF l off (256 * (n / 256)) (sb s)) (bump s (4 * (n / 256)))
        have hd : decide ((256 : Int) ≤ (n : Int) - (256 * (n / 256) : Nat)) = false := decide_eq_false (by omega)
        rw [show oneIf ((256 : Int) ≤ (n : Int) - (256 * (n / 256) : Nat)) = [[1, 0]] by unfold oneIf; rw [hd]; rfl] at hr
        exact SimC.weaken (SimC.run (B' := xlB (w ++ e1 (n / 256) ++ [[1, 0]]) (xorF l off (256 * (n / 256)) (sb s)) (bump s (4 * (n / 256)))) g3_ok (by decide) hr (by (simp only [allC_cons, allC_nil, and_true]; repeat' (with_reducible (first | refine And.intro ?_ ?_ | exact True.intro | assumption | omega | exact decide_eq_true (by first | assumption | omega) | exact decide_eq_false (by first | assumption | omega) | rfl | (simp; done))))) (by decide) i3 (by decide) (by simp) hgl) (sub_mkT (by simp; exact ⟨rfl, rfl, rfl, rfl⟩))
    · simp at hG
  · simp at hG
theorem l2_loop : LoopGood g3 92 (.loop x2Body) xoKeep 3 (.exit 2) (mkLoopN l2G) := by
  refine LoopGood.mkN (by decide) fun vals B S' B' C hG hC hlen w0 O hgl => ?_
  clear hlen
  unfold l2G at hG
  split at hG
  · rename_i off n a w K l ss
    split at hG
    · rename_i ls hK hb
      obtain rfl := kidx_inj hK
      simp only [Option.some.injEq, Prod.mk.injEq] at hG
      obtain ⟨rfl, rfl, rfl⟩ := hG
      simp only [allC_cons, allC_nil, and_true] at hC
      obtain ⟨h0, h0', h1, h2, h3, h4⟩ := hC
      obtain ⟨a, rfl⟩ := Int.eq_ofNat_of_zero_le h0
      simp only [Int.toNat_natCast] at h4 ⊢
      refine SimC.preI (B1 := xlB w l (atL ls)) ?_ ⟨⟨BImp.refl _, fun _ h => by simp at h⟩, ⟨BImp.refl _, fun _ h => by simp at h⟩, cells_nums hb, trivial⟩
      generalize atL ls = s at h3 ⊢
      have key := SimC.iter (g := g3) (nT := 92) (c := x2Body) (m := 3) (w0 := w0) (O := O) (e := .exit 2) (S := fun i => xlS off n (a + 64 * i)) (B := fun i => xlB (w ++ e2 a i) (xorF l (off + a) (64 * i) (sb s)) (bump s i)) (N := (n - a) / 64)
        (S' := [(0, .ptr 0 0), (4, .sl 1 0 off 1 0 n false), (10, .ptr 2 0), (11, .int .i64 ((a + 64 * ((n - a) / 64) : Nat) : Int))]) (B' := [.log (w ++ e2 a ((n - a) / 64) ++ [[1, 0]]), .ints .u8 (xorF l (off + a) (64 * ((n - a) / 64)) (sb s)), .cells (w16 (bump s ((n - a) / 64)))]) (fun i hi => ?_) ?_ (by simp) 0 (by omega)
      · simp only [Nat.mul_zero, xorF_zero, Nat.add_zero, e2, List.append_nil] at key
        rw [show xlB w l (bump s 0) = xlB w l s by simp only [xlB, w16_bump0 h3]] at key
        exact key
      · have hx := xorF_len l (off + a) (64 * i) (sb s)
        have he := e2_len a i
        have hw : (w ++ e2 a i).length = w.length + 3 * i := by simp [he]
        have F1 : Fits .i64 (((a + 64 * i : Nat) : Int) + 64) := fits_of (by omega) (by omega)
        have F2 : Fits .i64 ((n : Int) - (a + 64 * i : Nat)) := fits_of (by omega) (by omega)
        have F3 : Fits .i64 (n : Int) := fits_of (by omega) (by omega)
        have hr := l2_go off n (a + 64 * i) (w ++ e2 a i) (xorF l (off + a) (64 * i) (sb s)) (bump s i)
        have hd : decide ((64 : Int) ≤ (n : Int) - (a + 64 * i : Nat)) = true := decide_eq_true (by omega)
        rw [show oneIf ((64 : Int) ≤ (n : Int) - (a + 64 * i : Nat)) = [[1, 1]] by unfold oneIf; rw [if_pos hd]] at hr
        rw [show off + (a + 64 * i) = off + a + 64 * i by omega] at hr
        rw [xorF_append (f := sb s) (fun j hj => by rw [atL_listF hj, blk_congr (fun i' h' => atL_listF h') hj, blk_bump s i hj])] at hr
        rw [show w16 (bump (bump s i) 1) = w16 (bump s (i + 1)) by rw [show bump (bump s i) 1 = bump s (i + 1) from funext fun j => bump_bump s _ 1 j]] at hr
        have hlog : w ++ e2 a i ++ [[1, 1]] ++ [[2, ((a + 64 * i : Nat) : Int)]] ++ [[3, 22]] = w ++ e2 a (i + 1) := by simp [e2]
        have q1 : (w ++ e2 a i ++ [[1, 1]]).length < 1099511627776 := by rw [List.length_append, hw]; simp; omega
        have q2 : (w ++ e2 a i ++ [[1, 1]] ++ [[2, ((a + 64 * i : Nat) : Int)]]).length < 1099511627776 := by rw [List.length_append, List.length_append, hw]; simp; omega
        have q0 : (w ++ e2 a i).length < 1099511627776 := by omega
        rw [hlog] at hr
        exact SimC.run (B' := xlB (w ++ e2 a (i + 1)) (xorF l (off + a) (64 * (i + 1)) (sb s)) (bump s (i + 1))) g3_ok (by decide) hr (by rw [hx]; (simp only [allC_cons, allC_nil, and_true]; repeat' (with_reducible (first | refine And.intro ?_ ?_ | exact True.intro | assumption | omega | exact decide_eq_true (by first | assumption | omega) | exact decide_eq_false (by first | assumption | omega) | rfl | (simp; done))))) (by decide) i3 (by decide) (by simp) hgl
      · have F2 : Fits .i64 ((n : Int) - (a + 64 * ((n - a) / 64) : Nat)) := fits_of (by omega) (by omega)
        have F3 : Fits .i64 (n : Int) := fits_of (by omega) (by omega)
        have he := e2_len a ((n - a) / 64)
        have q0 : (w ++ e2 a ((n - a) / 64)).length < 1099511627776 := by simp [he]; omega
        have hr := l2_end off n (a + 64 * ((n - a) / 64)) (w ++ e2 a ((n - a) / 64)) (xorF l (off + a) (64 * ((n - a) / 64)) (sb s)) (bump s ((n - a) / 64))
        have hd : decide ((64 : Int) ≤ (n : Int) - (a + 64 * ((n - a) / 64) : Nat)) = false := decide_eq_false (by omega)
        rw [show oneIf ((64 : Int) ≤ (n : Int) - (a + 64 * ((n - a) / 64) : Nat)) = [[1, 0]] by unfold oneIf; rw [hd]; rfl] at hr
        exact SimC.weaken (SimC.run (B' := xlB (w ++ e2 a ((n - a) / 64) ++ [[1, 0]]) (xorF l (off + a) (64 * ((n - a) / 64)) (sb s)) (bump s ((n - a) / 64))) g3_ok (by decide) hr (by (simp only [allC_cons, allC_nil, and_true]; repeat' (with_reducible (first | refine And.intro ?_ ?_ | exact True.intro | assumption | omega | exact decide_eq_true (by first | assumption | omega) | exact decide_eq_false (by first | assumption | omega) | rfl | (simp; done))))) (by decide) i3 (by decide) (by simp) hgl) (sub_mkT (by simp; exact ⟨rfl, rfl, rfl, rfl⟩))
    · simp at hG
  · simp at hG
/-- what is logged of n bytes -/
def evX (n : Nat) : List (List Int) := e1 (n / 256) ++ [[1, 0]] ++ e2 (a1 n) ((n - a1 n) / 64) ++ [[1, 0]] ++ (if n - a2 n = 0 then [[1, 0]] else [[1, 1], [2, ((a2 n : Nat) : Int)], [3, 22]])
abbrev wl (n : Nat) (w : List (List Int)) : List (List Int) := w ++ e1 (n / 256) ++ [[1, 0]] ++ e2 (a1 n) ((n - a1 n) / 64) ++ [[1, 0]]
abbrev D1 (off n : Nat) (w : List (List Int)) (l : List Int) (s : Nat → Int) : List Prop :=
  [LoopGood g3 92 (.loop x1Body) xoKeep 3 (.exit 0) (mkLoopN l1G), off + n ≤ l.length, n ≤ 140737488355328, Fits .u32 (s 12), w.length + n < 1099511627000,
   LoopGood g3 92 (.loop x2Body) xoKeep 3 (.exit 2) (mkLoopN l2G), (0 : Int) ≤ (a1 n : Nat), ((a1 n : Nat) : Int) ≤ (n : Nat), off + n ≤ (xorF l off (a1 n) (sb s)).length, n ≤ 140737488355328, Fits .u32 (S1 n s 12), (w ++ e1 (n / 256) ++ [[1, 0]]).length + (n - a1 n) < 1099511627500]
theorem xl_run0 (off n : Nat) (w : List (List Int)) (l : List Int) (k : Nat → Int) (c : Int) (m : Nat → Int) : runF g3 2000 [.loop 3 xoKeep 3 (.exit 0) (mkLoopN l1G), .loop 9 xoKeep 3 (.exit 2) (mkLoopN l2G), .br false] 10 [.ptr 0 0, .agg (k32 k), .int .u32 c, .agg (n12 m), .sl 1 0 off 1 0 n false] [.log w, .ints .u8 l] [] =
    some (.tuple [], [some (.log (wl n w ++ oneIf ((0 : Int) < (n : Int) - (a2 n : Nat)))), some (.ints .u8 (L2 off n l (S0 k c m)))], D1 off n w l (S0 k c m) ++ [(wl n w).length < 1099511627776, Fits .i64 ((n : Int) - (a2 n : Nat)), Fits .i64 (n : Int), decide ((0 : Int) < (n : Int) - (a2 n : Nat)) = false]) := by kernel_rfl
theorem xl_run1 (off n : Nat) (w : List (List Int)) (l : List Int) (k : Nat → Int) (c : Int) (m : Nat → Int) : runF g3 2000 [.loop 3 xoKeep 3 (.exit 0) (mkLoopN l1G), .loop 9 xoKeep 3 (.exit 2) (mkLoopN l2G), .br true] 10 [.ptr 0 0, .agg (k32 k), .int .u32 c, .agg (n12 m), .sl 1 0 off 1 0 n false] [.log w, .ints .u8 l] [] =
    some (.tuple [], [some (.log (wl n w ++ oneIf ((0 : Int) < (n : Int) - (a2 n : Nat)) ++ [[2, ((a2 n : Nat) : Int)]] ++ [[3, 22]])), some (.ints .u8 (splice (L2 off n l (S0 k c m)) (off + a2 n) ((Y3 (X3 off n (L2 off n l (S0 k c m))) (blk (S2 n (S0 k c m)))).take (n - a2 n))))],
      D1 off n w l (S0 k c m) ++ [(wl n w).length < 1099511627776, Fits .i64 ((n : Int) - (a2 n : Nat)), Fits .i64 (n : Int), decide ((0 : Int) < (n : Int) - (a2 n : Nat)) = true, (0 : Int) ≤ (a2 n : Nat) ∧ ((a2 n : Nat) : Int) ≤ (n : Nat) ∧ ((n : Nat) : Int) ≤ (n : Nat), (wl n w ++ oneIf ((0 : Int) < (n : Int) - (a2 n : Nat))).length < 1099511627776, (wl n w ++ oneIf ((0 : Int) < (n : Int) - (a2 n : Nat)) ++ [[2, ((a2 n : Nat) : Int)]]).length < 1099511627776,
        Fits .i64 ((min (X3 off n (L2 off n l (S0 k c m))).length 64 : Nat) : Int), 0 + ((X3 off n (L2 off n l (S0 k c m))).take 64).length ≤ 64, off + a2 n + 0 + (n - a2 n) ≤ (L2 off n l (S0 k c m)).length,
        Fits .i64 ((min (Y3 (X3 off n (L2 off n l (S0 k c m))) (blk (S2 n (S0 k c m)))).length (n - a2 n) : Nat) : Int), off + a2 n + 0 + ((Y3 (X3 off n (L2 off n l (S0 k c m))) (blk (S2 n (S0 k c m)))).take (n - a2 n)).length ≤ (L2 off n l (S0 k c m)).length]) := by kernel_rfl
end Go.Proofs.Ytibfkpgdpldjbaa
