/- Accounts of this seat's functions: lemmas, no statement of their own. No conditions. -/
import Derived.Test.YtibfkpgdpldjbaaTQ
namespace Go.Proofs.Ytibfkpgdpldjbaa
open Go Go.Vx
/-! ### StreamPieces -/
abbrev piKeep : List Nat := [1, 4, 5, 7, 11, 12, 13, 14, 15]
noncomputable abbrev piBody : Code := bodyAt Try.prog 4 9
abbrev piS (c : Int) (q : List Int) (n m1 n1 m2 n2 : Nat) (a i : Nat) : List (Nat × SV) := piKeep.zip [.int .u32 c, .roi .i64 q, .ptr 0 0, .ptr 1 0, .int .i64 (n : Int), .sl 2 m1 0 1 0 n1 false, .sl 3 m2 0 1 0 n2 false, .int .i64 (a : Int), .int .i64 (i : Int)]
noncomputable abbrev piB (k : Nat → Int) (o : Nat → Int) (l1 l2 : List Int) : List Body := [.cells (k32 k), .cells (n12 o), .ints .u8 l1, .ints .u8 l2]
theorem pi_neg (c : Int) (q : List Int) (n m1 n1 m2 n2 a i : Nat) (k o : Nat → Int) (l1 l2 : List Int) : runC g5 300 100 [.br true, .br true, .br true] piBody (piS c q n m1 n1 m2 n2 a i) (piB k o l1 l2) piKeep [0, 1, 2, 3] =
    some (.normal, [.int .u32 c, .roi .i64 q, .ptr 0 0, .ptr 1 0, .int .i64 (n : Int), .sl 2 m1 0 1 0 n1 false, .sl 3 m2 0 1 0 n2 false, .int .i64 (a : Int), .int .i64 ((i : Int) + 1)], (piB k o l1 l2).map some,
      [decide ((i : Int) < (q.length : Int)) = true, Fits .i64 (q.length : Int), decide ((i : Int) < 100) = true, decide (q.getD i 0 < 0) = true, (0 : Int) ≤ (i : Int) ∧ (i : Int) < (q.length : Int), Fits .i64 ((i : Int) + 1)]) := by kernel_rfl
theorem pi_big (c : Int) (q : List Int) (n m1 n1 m2 n2 a i : Nat) (k o : Nat → Int) (l1 l2 : List Int) : runC g5 300 100 [.br true, .br true, .br false, .br true] piBody (piS c q n m1 n1 m2 n2 a i) (piB k o l1 l2) piKeep [0, 1, 2, 3] =
    some (.normal, [.int .u32 c, .roi .i64 q, .ptr 0 0, .ptr 1 0, .int .i64 (n : Int), .sl 2 m1 0 1 0 n1 false, .sl 3 m2 0 1 0 n2 false, .int .i64 (a : Int), .int .i64 ((i : Int) + 1)], (piB k o l1 l2).map some,
      [decide ((i : Int) < (q.length : Int)) = true, Fits .i64 (q.length : Int), decide ((i : Int) < 100) = true, Fits .i64 ((n : Int) - a), (0 : Int) ≤ (i : Int) ∧ (i : Int) < (q.length : Int), decide (q.getD i 0 < 0) = false, (0 : Int) ≤ (i : Int) ∧ (i : Int) < (q.length : Int), decide (((n : Int) - a).tdiv 64 < q.getD i 0) = true, Fits .i64 ((i : Int) + 1)]) := by kernel_rfl
theorem pi_go (c : Int) (q : List Int) (n m1 n1 m2 n2 a i : Nat) (k o : Nat → Int) (l1 l2 : List Int) : runC g5 300 100 [.br true, .br true, .br false, .br false] piBody (piS c q n m1 n1 m2 n2 a i) (piB k o l1 l2) piKeep [0, 1, 2, 3] =
    some (.normal, [.int .u32 (uadd .u32 c (scut .u32 (q.getD i 0))), .roi .i64 q, .ptr 0 0, .ptr 1 0, .int .i64 (n : Int), .sl 2 m1 0 1 0 n1 false, .sl 3 m2 0 1 0 n2 false, .int .i64 ((a : Int) + 64 * q.getD i 0), .int .i64 ((i : Int) + 1)],
      (piB k o l1 (xorF l2 (0 + a) (((a : Int) + 64 * q.getD i 0).toNat - a) (s1 k c o))).map some,
      [decide ((i : Int) < (q.length : Int)) = true, Fits .i64 (q.length : Int), decide ((i : Int) < 100) = true, Fits .i64 ((n : Int) - a), (0 : Int) ≤ (i : Int) ∧ (i : Int) < (q.length : Int), decide (q.getD i 0 < 0) = false, (0 : Int) ≤ (i : Int) ∧ (i : Int) < (q.length : Int), decide (((n : Int) - a).tdiv 64 < q.getD i 0) = false,
        Fits .i64 ((a : Int) + 64 * q.getD i 0), Fits .i64 (64 * q.getD i 0), (0 : Int) ≤ (i : Int) ∧ (i : Int) < (q.length : Int), 0 + a + (((a : Int) + 64 * q.getD i 0).toNat - a) ≤ l2.length, ((a : Int) + 64 * q.getD i 0).toNat - a ≤ 1000000000, Fits .u32 c, (0 : Int) ≤ (a : Int) ∧ (a : Int) ≤ (a : Int) + 64 * q.getD i 0 ∧ (a : Int) + 64 * q.getD i 0 ≤ (n2 : Int), (0 : Int) ≤ (i : Int) ∧ (i : Int) < (q.length : Int), Fits .i64 ((i : Int) + 1)]) := by kernel_rfl
theorem pi_end (c : Int) (q : List Int) (n m1 n1 m2 n2 a i : Nat) (k o : Nat → Int) (l1 l2 : List Int) : runC g5 300 100 [.br false] piBody (piS c q n m1 n1 m2 n2 a i) (piB k o l1 l2) piKeep [0, 1, 2, 3] =
    some (.exit 0, [.int .u32 c, .roi .i64 q, .ptr 0 0, .ptr 1 0, .int .i64 (n : Int), .sl 2 m1 0 1 0 n1 false, .sl 3 m2 0 1 0 n2 false, .int .i64 (a : Int), .int .i64 (i : Int)], (piB k o l1 l2).map some, [decide ((i : Int) < (q.length : Int)) = false, Fits .i64 (q.length : Int)]) := by kernel_rfl
theorem pi_most (c : Int) (q : List Int) (n m1 n1 m2 n2 a i : Nat) (k o : Nat → Int) (l1 l2 : List Int) : runC g5 300 100 [.br true, .br false] piBody (piS c q n m1 n1 m2 n2 a i) (piB k o l1 l2) piKeep [0, 1, 2, 3] =
    some (.exit 0, [.int .u32 c, .roi .i64 q, .ptr 0 0, .ptr 1 0, .int .i64 (n : Int), .sl 2 m1 0 1 0 n1 false, .sl 3 m2 0 1 0 n2 false, .int .i64 (a : Int), .int .i64 (i : Int)], (piB k o l1 l2).map some, [decide ((i : Int) < (q.length : Int)) = true, Fits .i64 (q.length : Int), decide ((i : Int) < 100) = false]) := by kernel_rfl
/-- blocks that are turned behind so many cuts -/
def bl (q : List Int) (n : Nat) : Nat → Nat
  | 0 => 0
  | i + 1 => if 0 ≤ q.getD i 0 ∧ q.getD i 0 ≤ ((n - 64 * bl q n i) / 64 : Nat) then bl q n i + (q.getD i 0).toNat else bl q n i
theorem bl_le (q : List Int) (n : Nat) : ∀ i, 64 * bl q n i ≤ n
  | 0 => by simp [bl]
  | i + 1 => by
    have := bl_le q n i
    unfold bl
    split
    · omega
    · exact this
theorem uadd_scut (c : Int) (b : Nat) {x : Int} (hx : 0 ≤ x) : uadd .u32 (uadd .u32 c (b : Nat)) (scut .u32 x) = uadd .u32 c ((b + x.toNat : Nat) : Int) := by
  unfold uadd scut
  rw [m32]
  simp only [Int.ofNat_eq_natCast, Int.toNat_natCast]
  congr 1
  omega
theorem uadd_fits (c x : Int) : Fits .u32 (uadd .u32 c x) := by
  unfold uadd
  rw [m32, Int.ofNat_eq_natCast]
  refine ⟨?_, ?_⟩
  · show (0 : Int) ≤ _; omega
  · show _ ≤ (4294967295 : Int); omega
theorem stt_bump (k : Nat → Int) (c : Int) (o : Nat → Int) (b : Nat) : ∀ i, i < 16 → stt k (uadd .u32 c (b : Nat)) o i = bump (stt k c o) b i := fun i hi => by
  match i, hi with
  | 0, _ => rfl
  | 1, _ => rfl
  | 2, _ => rfl
  | 3, _ => rfl
  | 4, _ => rfl
  | 5, _ => rfl
  | 6, _ => rfl
  | 7, _ => rfl
  | 8, _ => rfl
  | 9, _ => rfl
  | 10, _ => rfl
  | 11, _ => rfl
  | 12, _ => rfl
  | 13, _ => rfl
  | 14, _ => rfl
  | 15, _ => rfl
  | i + 16, h => exact absurd h (by omega)
theorem strm_later (k : Nat → Int) (c : Int) (o : Nat → Int) (b j : Nat) : strm k (uadd .u32 c (b : Nat)) o j = strm k c o (64 * b + j) := by
  unfold strm
  rw [sb_congr (stt_bump k c o b), sb_bump]
def piG' (q : List Int) (n : Nat) : Nat := bl q n (min q.length 100)
noncomputable def piG : LoopF := fun vals B => match vals, B with
  | [.int .u32 c, .roi K1 q, .ptr 0 0, .ptr 1 0, .int .i64 n, .sl 2 m1 0 1 0 n1 false, .sl 3 m2 0 1 0 n2 false, .int .i64 0, .int .i64 0], [.cells ks, .cells ns, .ints K2 l1, .ints K3 l2] => match sameK K1 .i64, sameK K2 .u8, sameK K3 .u8, numsAs (List.replicate 32 .u8) ks, numsAs (List.replicate 12 .u8) ns with
    | true, true, true, some lk, some ln => some ([(1, .int .u32 (uadd .u32 c (piG' q n.toNat : Nat))), (5, .ptr 0 0), (7, .ptr 1 0), (11, .int .i64 n), (12, .sl 2 m1 0 1 0 n1 false), (13, .sl 3 m2 0 1 0 n2 false), (14, .int .i64 ((64 * piG' q n.toNat : Nat) : Int))],
        piB (atL lk) (atL ln) l1 (xorF l2 0 (64 * piG' q n.toNat) (strm (atL lk) c (atL ln))), [0 ≤ n, n ≤ 131072, n.toNat ≤ n2, n2 ≤ l2.length, Fits .u32 c, Fits .i64 (q.length : Int)])
    | _, _, _, _, _ => none
  | _, _ => none
theorem pi_step {c : Int} {q : List Int} {n m1 n1 m2 n2 : Nat} {k o : Nat → Int} {l1 l2 : List Int} (h1 : n ≤ 131072) (h2 : n ≤ n2) (h3 : n2 ≤ l2.length) (hq : Fits .i64 (q.length : Int)) {i : Nat} (hi : i < q.length) (hi2 : i < 100) {w0 : World} {O : Vx.Own} (hG : GlobOk g5 w0 O) :
    SimC g5.P w0 O 100 piBody (piS (uadd .u32 c (bl q n i : Nat)) q n m1 n1 m2 n2 (64 * bl q n i) i) (piB k o l1 (xorF l2 0 (64 * bl q n i) (strm k c o))) .normal
      (piS (uadd .u32 c (bl q n (i + 1) : Nat)) q n m1 n1 m2 n2 (64 * bl q n (i + 1)) (i + 1)) (piB k o l1 (xorF l2 0 (64 * bl q n (i + 1)) (strm k c o))) 4 := by
  have hb := bl_le q n i
  have F1 : Fits .i64 ((i : Int) + 1) := fits_of (by omega) (by omega)
  have hx := xorF_len l2 0 (64 * bl q n i) (strm k c o)
  by_cases c1 : q.getD i 0 < 0
  · have e : bl q n (i + 1) = bl q n i := by simp only [bl]; rw [if_neg (by omega)]
    rw [e]
    exact SimC.run (B' := piB k o l1 (xorF l2 0 (64 * bl q n i) (strm k c o))) g5_ok (by decide) (pi_neg _ q n m1 n1 m2 n2 _ i k o l1 _) (by (simp only [allC_cons, allC_nil, and_true]; repeat' (with_reducible (first | refine And.intro ?_ ?_ | exact True.intro | assumption | omega | exact decide_eq_true (by first | assumption | omega) | exact decide_eq_false (by first | assumption | omega) | rfl | (simp; done))))) (by decide) i4 (by decide) (by simp) hG
  · have F2 : Fits .i64 ((n : Int) - (64 * bl q n i : Nat)) := fits_of (by omega) (by omega)
    have et : ((n : Int) - (64 * bl q n i : Nat)).tdiv 64 = (((n - 64 * bl q n i) / 64 : Nat) : Int) := by
      rw [Int.tdiv_eq_ediv_of_nonneg (by omega)]; omega
    by_cases c2 : (((n - 64 * bl q n i) / 64 : Nat) : Int) < q.getD i 0
    · have e : bl q n (i + 1) = bl q n i := by simp only [bl]; rw [if_neg (by omega)]
      rw [e]
      have hr := pi_big (uadd .u32 c (bl q n i : Nat)) q n m1 n1 m2 n2 (64 * bl q n i) i k o l1 (xorF l2 0 (64 * bl q n i) (strm k c o))
      rw [et] at hr
      exact SimC.run (B' := piB k o l1 (xorF l2 0 (64 * bl q n i) (strm k c o))) g5_ok (by decide) hr (by (simp only [allC_cons, allC_nil, and_true]; repeat' (with_reducible (first | refine And.intro ?_ ?_ | exact True.intro | assumption | omega | exact decide_eq_true (by first | assumption | omega) | exact decide_eq_false (by first | assumption | omega) | rfl | (simp; done))))) (by decide) i4 (by decide) (by simp) hG
    · have e : bl q n (i + 1) = bl q n i + (q.getD i 0).toNat := by simp only [bl]; rw [if_pos (by omega)]
      have hb' := bl_le q n (i + 1)
      have hr := pi_go (uadd .u32 c (bl q n i : Nat)) q n m1 n1 m2 n2 (64 * bl q n i) i k o l1 (xorF l2 0 (64 * bl q n i) (strm k c o))
      rw [et] at hr
      have e2 : (((64 * bl q n i : Nat) : Int) + 64 * q.getD i 0) = ((64 * bl q n (i + 1) : Nat) : Int) := by rw [e]; omega
      have e3 : s1 k (uadd .u32 c (bl q n i : Nat)) o = strm k (uadd .u32 c (bl q n i : Nat)) o := strm_list _ _ _
      rw [e2, Int.toNat_natCast, e3, uadd_scut c _ (by omega), ← e, xorF_append (f := strm k c o) (fun j _ => strm_later k c o _ j)] at hr
      rw [show 64 * bl q n i + (64 * bl q n (i + 1) - 64 * bl q n i) = 64 * bl q n (i + 1) by rw [e]; omega] at hr
      have F3 : Fits .i64 ((64 * bl q n (i + 1) : Nat) : Int) := fits_of (by omega) (by omega)
      have F4 : Fits .i64 (64 * q.getD i 0) := fits_of (by omega) (by omega)
      have F5 := uadd_fits c (bl q n i : Nat)
      exact SimC.run (B' := piB k o l1 (xorF l2 0 (64 * bl q n (i + 1)) (strm k c o))) g5_ok (by decide) hr (by rw [hx]; (simp only [allC_cons, allC_nil, and_true]; repeat' (with_reducible (first | refine And.intro ?_ ?_ | exact True.intro | assumption | omega | exact decide_eq_true (by first | assumption | omega) | exact decide_eq_false (by first | assumption | omega) | rfl | (simp; done))))) (by decide) i4 (by decide) (by simp) hG
theorem pi_loop : LoopGood g5 100 (.loop piBody) piKeep 4 (.exit 0) (mkLoopN piG) := by
  refine LoopGood.mkN (by decide) fun vals B S' B' C hG hC hlen w0 O hgl => ?_
  clear hlen
  unfold piG at hG
  split at hG
  · rename_i c K1 q n m1 n1 m2 n2 ks ns K2 l1 K3 l2
    split at hG
    · rename_i lk ln hK1 hK2 hK3 hk hn
      obtain rfl := kidx_inj hK1
      obtain rfl := kidx_inj hK2
      obtain rfl := kidx_inj hK3
      simp only [Option.some.injEq, Prod.mk.injEq] at hG
      obtain ⟨rfl, rfl, rfl⟩ := hG
      simp only [allC_cons, allC_nil, and_true] at hC
      obtain ⟨h0, h1, h2, h3, hc, hq⟩ := hC
      obtain ⟨n, rfl⟩ := Int.eq_ofNat_of_zero_le h0
      simp only [Int.toNat_natCast] at h2 ⊢
      refine SimC.preI (B1 := piB (atL lk) (atL ln) l1 l2) ?_ ⟨cells_nums hk, cells_nums hn, ⟨BImp.refl _, fun _ h => by simp at h⟩, ⟨BImp.refl _, fun _ h => by simp at h⟩, trivial⟩
      generalize atL lk = k
      generalize atL ln = o
      have key := SimC.iter (g := g5) (nT := 100) (c := piBody) (m := 4) (w0 := w0) (O := O) (e := .exit 0) (S := fun i => piS (uadd .u32 c (bl q n i : Nat)) q n m1 n1 m2 n2 (64 * bl q n i) i) (B := fun i => piB k o l1 (xorF l2 0 (64 * bl q n i) (strm k c o))) (N := min q.length 100)
        (S' := [(1, .int .u32 (uadd .u32 c (piG' q n : Nat))), (5, .ptr 0 0), (7, .ptr 1 0), (11, .int .i64 n), (12, .sl 2 m1 0 1 0 n1 false), (13, .sl 3 m2 0 1 0 n2 false), (14, .int .i64 ((64 * piG' q n : Nat) : Int))])
        (B' := piB k o l1 (xorF l2 0 (64 * piG' q n) (strm k c o))) (fun i hi => pi_step (by omega) h2 h3 hq (by omega) (by omega) hgl) ?_ (by simp) 0 (by omega)
      · simp only [bl, Nat.mul_zero, xorF_zero, uadd_zero hc] at key
        exact key
      · by_cases hm : q.length ≤ 100
        · have e : min q.length 100 = q.length := by omega
          unfold piG'
          rw [e]
          exact SimC.weaken (SimC.run (B' := piB k o l1 (xorF l2 0 (64 * bl q n q.length) (strm k c o))) g5_ok (by decide) (pi_end _ q n m1 n1 m2 n2 _ q.length k o l1 _) (by (simp only [allC_cons, allC_nil, and_true]; repeat' (with_reducible (first | refine And.intro ?_ ?_ | exact True.intro | assumption | omega | exact decide_eq_true (by first | assumption | omega) | exact decide_eq_false (by first | assumption | omega) | rfl | (simp; done))))) (by decide) i4 (by decide) (by simp) hgl) (sub_mkT (by simp; exact ⟨rfl, rfl, rfl, rfl, rfl, rfl, rfl⟩))
        · have e : min q.length 100 = 100 := by omega
          unfold piG'
          rw [e]
          exact SimC.weaken (SimC.run (B' := piB k o l1 (xorF l2 0 (64 * bl q n 100) (strm k c o))) g5_ok (by decide) (pi_most _ q n m1 n1 m2 n2 _ 100 k o l1 _) (by (simp only [allC_cons, allC_nil, and_true]; repeat' (with_reducible (first | refine And.intro ?_ ?_ | exact True.intro | assumption | omega | exact decide_eq_true (by first | assumption | omega) | exact decide_eq_false (by first | assumption | omega) | rfl | (simp; done))))) (by decide) i4 (by decide) (by simp) hgl) (sub_mkT (by simp; exact ⟨rfl, rfl, rfl, rfl, rfl, rfl, rfl⟩))
    · simp at hG
  · simp at hG
end Go.Proofs.Ytibfkpgdpldjbaa
