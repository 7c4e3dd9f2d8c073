/- Accounts of this seat's functions: lemmas, no statement of their own. No conditions. -/
import Derived.Test.YtibfkpgdpldjbaaTO
namespace Go.Proofs.Ytibfkpgdpldjbaa
open Go Go.Vx
/-! ### StreamBack -/
abbrev bkKeep : List Nat := [1, 3, 4, 6, 9, 10, 11, 12]
noncomputable abbrev bkBody : Code := bodyAt Try.prog 3 9
abbrev bkS (c : Int) (d : List Int) (n m n1 m2 n2 i : Nat) : List (Nat × SV) := bkKeep.zip [.int .u32 c, .roi .u8 d, .ptr 0 0, .ptr 1 0, .int .i64 (n : Int), .sl 2 m 0 1 0 n1 false, .sl 3 m2 0 1 0 n2 false, .int .i64 (i : Int)]
noncomputable abbrev bkB (k : Nat → Int) (o : Nat → Int) (l2 l3 : List Int) : List Body := [.cells (k32 k), .cells (n12 o), .ints .u8 l2, .ints .u8 l3]
theorem bk_go (c : Int) (d : List Int) (n m n1 m2 n2 i : Nat) (k o : Nat → Int) (l2 l3 : List Int) : runC g5 300 72 [.br true, .br false] bkBody (bkS c d n m n1 m2 n2 i) (bkB k o l2 l3) bkKeep [0, 1, 2, 3] =
    some (.normal, [.int .u32 c, .roi .u8 d, .ptr 0 0, .ptr 1 0, .int .i64 (n : Int), .sl 2 m 0 1 0 n1 false, .sl 3 m2 0 1 0 n2 false, .int .i64 ((i : Int) + 1)], (bkB k o l2 l3).map some, [decide ((i : Int) < (n : Int)) = true, 0 + i + 0 < l3.length, (0 : Int) ≤ (i : Int) ∧ (i : Int) < (n2 : Int), (0 : Int) ≤ (i : Int) ∧ (i : Int) < (d.length : Int), 0 + i + 0 < l2.length, (0 : Int) ≤ (i : Int) ∧ (i : Int) < (n1 : Int),
      (!decide (l2.getD (0 + i + 0) 0 = uxor (d.getD i 0) (l3.getD (0 + i + 0) 0))) = false, Fits .i64 ((i : Int) + 1)]) := by kernel_rfl
theorem bk_end (c : Int) (d : List Int) (n m n1 m2 n2 i : Nat) (k o : Nat → Int) (l2 l3 : List Int) : runC g5 300 72 [.br false] bkBody (bkS c d n m n1 m2 n2 i) (bkB k o l2 l3) bkKeep [0, 1, 2, 3] =
    some (.exit 0, [.int .u32 c, .roi .u8 d, .ptr 0 0, .ptr 1 0, .int .i64 (n : Int), .sl 2 m 0 1 0 n1 false, .sl 3 m2 0 1 0 n2 false, .int .i64 (i : Int)], (bkB k o l2 l3).map some, [decide ((i : Int) < (n : Int)) = false]) := by kernel_rfl
def bkC (d l2 l3 : List Int) (n : Int) (n1 n2 : Nat) : Prop := n = (d.length : Int) ∧ d.length ≤ 131072 ∧ d.length ≤ n1 ∧ n1 ≤ l2.length ∧ n2 = d.length ∧ l3.length = d.length ∧ ∀ i, i < d.length → l2.getD i 0 = uxor (d.getD i 0) (l3.getD i 0)
noncomputable def bkG : LoopF := fun vals B => match vals, B with
  | [.int .u32 c, .roi K1 d, .ptr 0 0, .ptr 1 0, .int .i64 n, .sl 2 m 0 1 0 n1 false, .sl 3 m2 0 1 0 n2 false, .int .i64 0], [.cells ks, .cells ns, .ints K2 l2, .ints K3 l3] => match sameK K1 .u8, sameK K2 .u8, sameK K3 .u8, numsAs (List.replicate 32 .u8) ks, numsAs (List.replicate 12 .u8) ns with
    | true, true, true, some lk, some ln => some ([(1, .int .u32 c), (3, .roi .u8 d), (4, .ptr 0 0), (6, .ptr 1 0), (9, .int .i64 n), (10, .sl 2 m 0 1 0 n1 false), (11, .sl 3 m2 0 1 0 n2 false)], bkB (atL lk) (atL ln) l2 l3, [bkC d l2 l3 n n1 n2])
    | _, _, _, _, _ => none
  | _, _ => none
theorem bk_big (k : Nat → Int) (c : Int) (o : Nat → Int) (d : List Int) : runF g5 300 [.br true] 3 [.agg (k32 k), .int .u32 c, .agg (n12 o), .roi .u8 d] [] [] =
    some (SV.bool true, [], [Fits IntKind.i64 (↑d.length : Int), decide ((131072 : Int) < (↑d.length : Int)) = true]) := by kernel_rfl
theorem strm_list (k : Nat → Int) (c : Int) (o : Nat → Int) : strm (atL (listF 32 k 0)) c (atL (listF 12 o 0)) = strm k c o := by
  unfold strm
  rw [stt_congr c (fun i h => atL_listF h) (fun i h => atL_listF h)]
theorem i4 : ∀ j : Nat, j < 4 → ([0, 1, 2, 3] : List Nat)[j]? = some j := fun j hj => by
  match j, hj with
  | 0, _ => rfl
  | 1, _ => rfl
  | 2, _ => rfl
  | 3, _ => rfl
theorem bk_loop : LoopGood g5 72 (.loop bkBody) bkKeep 4 (.exit 0) (mkLoopN bkG) := by
  refine LoopGood.mkN (by decide) fun vals B S' B' C hG hC hlen w0 O hgl => ?_
  clear hlen
  unfold bkG at hG
  split at hG
  · rename_i c K1 d n m n1 m2 n2 ks ns K2 l2 K3 l3
    split at hG
    · rename_i lk ln hK1 hK2 hK3 hk hn
      obtain rfl := kidx_inj hK1
      obtain rfl := kidx_inj hK2
      obtain rfl := kidx_inj hK3
      simp only [Option.some.injEq, Prod.mk.injEq] at hG
      obtain ⟨rfl, rfl, rfl⟩ := hG
      simp only [allC_cons, allC_nil, and_true] at hC
      obtain ⟨rfl, h1, h2, h3, h4, h5, h6⟩ := hC
      refine SimC.preI (B1 := bkB (atL lk) (atL ln) l2 l3) ?_ ⟨cells_nums hk, cells_nums hn, ⟨BImp.refl _, fun _ h => by simp at h⟩, ⟨BImp.refl _, fun _ h => by simp at h⟩, trivial⟩
      refine SimC.iter (g := g5) (S := bkS c d d.length m n1 m2 n2) (B := fun _ => bkB (atL lk) (atL ln) l2 l3) (N := d.length) (fun i hi => ?_) ?_ (by simp) 0 (by omega)
      · have F2 : Fits .i64 ((i : Int) + 1) := fits_of (by omega) (by omega)
        have q : (!decide (l2.getD i 0 = uxor (d.getD i 0) (l3.getD i 0))) = false := by rw [decide_eq_true (h6 i hi)]; rfl
        have hr := bk_go c d d.length m n1 m2 n2 i (atL lk) (atL ln) l2 l3
        simp only [Nat.zero_add, Nat.add_zero] at hr
        exact SimC.run (B' := bkB (atL lk) (atL ln) l2 l3) g5_ok (by decide) hr (by (simp only [allC_cons, allC_nil, and_true]; repeat' (with_reducible (first | refine And.intro ?_ ?_ | exact True.intro | assumption | omega | exact decide_eq_true (by first | assumption | omega) | exact decide_eq_false (by first | assumption | omega) | rfl | (simp; done))))) (by decide) i4 (by decide) (by simp) hgl
      · exact SimC.weaken (SimC.run (B' := bkB (atL lk) (atL ln) l2 l3) g5_ok (by decide) (bk_end c d d.length m n1 m2 n2 d.length (atL lk) (atL ln) l2 l3) (by (simp only [allC_cons, allC_nil, and_true]; repeat' (with_reducible (first | refine And.intro ?_ ?_ | exact True.intro | assumption | omega | exact decide_eq_true (by first | assumption | omega) | exact decide_eq_false (by first | assumption | omega) | rfl | (simp; done))))) (by decide) i4 (by decide) (by simp) hgl) (sub_mkT (by simp; exact ⟨rfl, rfl, rfl, rfl, rfl, rfl, rfl⟩))
    · simp at hG
  · simp at hG
abbrev s1 (k : Nat → Int) (c : Int) (o : Nat → Int) : Nat → Int := strm (atL (listF 32 k 0)) c (atL (listF 12 o 0))
abbrev s2 (k : Nat → Int) (c : Int) (o : Nat → Int) : Nat → Int := strm (atL (listF 32 (atL (listF 32 k 0)) 0)) c (atL (listF 12 (atL (listF 12 o 0)) 0))
abbrev onc (d : List Int) (s : Nat → Int) : List Int := xorF (roomL d) 0 (d.length - 0) s
abbrev zer (d : List Int) (s : Nat → Int) : List Int := xorF (List.replicate d.length 0) 0 d.length s
abbrev twi (d : List Int) (s t : Nat → Int) : List Int := xorF (onc d s) 0 (d.length - 0) t
theorem bk_run (k : Nat → Int) (c : Int) (o : Nat → Int) (d : List Int) : runF g5 3000 [.br false, .loop 9 bkKeep 4 (.exit 0) (mkLoopN bkG), .br true, .br true, .br true] 3 [.agg (k32 k), .int .u32 c, .agg (n12 o), .roi .u8 d] [] [] =
    some (.sbool true, [], [Fits .i64 (d.length : Int), decide ((131072 : Int) < (d.length : Int)) = false, d.length ≤ 1000000000, (0 : Int) ≤ (d.length : Int) ∧ (d.length : Int) = (d.length : Int) ∧ d.length * 1 ≤ 140737488355328,
      0 + (d.length - 0) ≤ (roomL d).length, d.length - 0 ≤ 1000000000, Fits .u32 c, (0 : Int) ≤ 0 ∧ (0 : Int) ≤ (d.length : Int) ∧ (d.length : Int) ≤ ((d.length + 70 : Nat) : Int), 0 + d.length ≤ (List.replicate d.length (0 : Int)).length, d.length ≤ 1000000000, Fits .u32 c,
      LoopGood g5 72 (.loop bkBody) bkKeep 4 (.exit 0) (mkLoopN bkG), bkC d (onc d (s1 k c o)) (zer d (s1 k c o)) (d.length : Int) (d.length + 70) d.length,
      0 + (d.length - 0) ≤ (onc d (s1 k c o)).length, d.length - 0 ≤ 1000000000, Fits .u32 c, (0 : Int) ≤ 0 ∧ (0 : Int) ≤ (d.length : Int) ∧ (d.length : Int) ≤ ((d.length + 70 : Nat) : Int), true = true,
      0 + (d.length + 70) ≤ (twi d (s1 k c o) (s2 k c o)).length, d.length + 70 ≤ 140737488355328, marked (twi d (s1 k c o) (s2 k c o)) 0 (d.length + 70) (d.length : Int), true = true,
      0 + (d.length - 0) ≤ (twi d (s1 k c o) (s2 k c o)).length, d.length - 0 ≤ 140737488355328, subI (twi d (s1 k c o) (s2 k c o)) 0 (d.length - 0) = d, (0 : Int) ≤ 0 ∧ (0 : Int) ≤ (d.length : Int) ∧ (d.length : Int) ≤ ((d.length + 70 : Nat) : Int)]) :=
  run_parts (by kernel_rfl) (by kernel_rfl) (by kernel_rfl)
theorem fits_u8i {x : Int} (h : Fits .u8 x) : 0 ≤ x ∧ x < 256 := by
  obtain ⟨h1, h2⟩ := h
  have h1 : (0 : Int) ≤ x := h1
  have h2 : x ≤ (255 : Int) := h2
  omega
theorem uxor_back {x y : Int} (h : 0 ≤ x) : uxor (uxor x y) y = x := by
  unfold uxor
  simp only [Int.ofNat_eq_natCast, Int.toNat_natCast, Nat.xor_assoc, Nat.xor_self, Nat.xor_zero]
  omega
theorem uxor_zero (x y : Int) : uxor x (uxor 0 y) = uxor x y := by
  unfold uxor
  simp only [Int.ofNat_eq_natCast, Int.toNat_natCast]
  rw [show (0 : Int).toNat = 0 from rfl, Nat.zero_xor]
theorem getD_fits {d : List Int} (h : ∀ x ∈ d, Fits .u8 x) (i : Nat) : 0 ≤ d.getD i 0 := by
  rw [List.getD_eq_getElem?_getD]
  by_cases hi : i < d.length
  · rw [List.getElem?_eq_getElem hi]
    exact (fits_u8i (h _ (List.getElem_mem hi))).1
  · rw [List.getElem?_eq_none (by omega)]; exact Int.le_refl 0
theorem twi_eq {d : List Int} (h : ∀ x ∈ d, Fits .u8 x) (s : Nat → Int) : twi d s s = roomL d := by
  refine ext_getD (by simp [xorF_len]) fun p hp => ?_
  rw [xorF_len, xorF_len] at hp
  rw [xorF_get _ _ _ _ (by rw [xorF_len]; exact hp), xorF_get _ _ _ _ hp]
  by_cases c : 0 ≤ p ∧ p < 0 + (d.length - 0)
  · rw [if_pos c, if_pos c]
    rw [roomL_len] at hp
    have hg : 0 ≤ (roomL d).getD p 0 := by rw [roomL_get d hp, if_pos (by omega)]; exact getD_fits h p
    exact uxor_back hg
  · rw [if_neg c, if_neg c]
theorem back_ok (k : Nat → Int) (c : Int) (hc : Fits .u32 c) (o : Nat → Int) (d : List Int) (hd : ∀ x ∈ d, Fits .u8 x) (hl : d.length * Try.prog.bytesOf 5 ≤ 140737488351232) : FnOk g5 3 [.agg (k32 k), .int .u32 c, .agg (n12 o), .roi .u8 d] [] { val := .sbool true } := by
  have e1 : Try.prog.bytesOf 5 = 1 := by kernel_rfl
  rw [e1] at hl
  have F1 : Fits .i64 (d.length : Int) := fits_small (by omega)
  by_cases hb : 131072 < d.length
  · exact FnOk.toSb (b := true) (FnOk.pure g5_ok (bk_big k c o d) (by (simp only [allC_cons, allC_nil, and_true]; repeat' (with_reducible (first | refine And.intro ?_ ?_ | exact True.intro | assumption | omega | exact decide_eq_true (by first | assumption | omega) | exact decide_eq_false (by first | assumption | omega) | rfl | (simp; done)))))) rfl
  · refine FnOk.pure g5_ok (bk_run k c o d) ?_
    have e1 : s1 k c o = strm k c o := strm_list k c o
    have e2 : s2 k c o = strm k c o := by unfold s2; rw [strm_list, strm_list]
    rw [e1, e2, twi_eq hd]
    have hr := roomL_len d
    have ho : (onc d (strm k c o)).length = d.length + 70 := by rw [xorF_len, hr]
    have hz : (zer d (strm k c o)).length = d.length := by rw [xorF_len, List.length_replicate]
    have hB : bkC d (onc d (strm k c o)) (zer d (strm k c o)) (d.length : Int) (d.length + 70) d.length := by
      refine ⟨rfl, by omega, by omega, by omega, rfl, hz, fun i hi => ?_⟩
      rw [xorF_get _ _ _ _ (by rw [hr]; omega), if_pos (by omega), xorF_get _ _ _ _ (by rw [List.length_replicate]; exact hi), if_pos (by omega), roomL_get d (by omega), if_pos hi]
      rw [show (List.replicate d.length (0 : Int)).getD i 0 = 0 by rw [List.getD_eq_getElem?_getD, List.getElem?_replicate, if_pos hi]; rfl]
      exact (uxor_zero _ _).symm
    have hM : marked (roomL d) 0 (d.length + 70) (d.length : Int) := ⟨d.length, rfl, by omega, fun i h1 h2 => by rw [Nat.zero_add, roomL_get d h2, if_neg (by omega)]⟩
    have hS : subI (roomL d) 0 (d.length - 0) = d := by
      refine ext_getD (by rw [subI_length (by omega)]; omega) fun p hp => ?_
      rw [subI_length (by omega)] at hp
      rw [subI_get hp, Nat.zero_add, roomL_get d (by omega), if_pos (by omega)]
    have hL := bk_loop
    rw [ho, hr, List.length_replicate]
    (simp only [allC_cons, allC_nil, and_true]; repeat' (with_reducible (first | refine And.intro ?_ ?_ | exact True.intro | assumption | omega | exact decide_eq_true (by first | assumption | omega) | exact decide_eq_false (by first | assumption | omega) | rfl | (simp; done))))
end Go.Proofs.Ytibfkpgdpldjbaa
