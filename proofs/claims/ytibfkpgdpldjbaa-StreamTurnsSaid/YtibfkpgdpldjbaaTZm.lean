/- Accounts of this seat's functions: lemmas, no statement of their own. No conditions. -/
import Derived.Test.YtibfkpgdpldjbaaTZl
import Derived.Test.YtibfkpgdpldjbaaTS
namespace Go.Proofs.Ytibfkpgdpldjbaa
open Go Go.Vx
def xoP (l : List Int) (s : Nat → Int) : Nat → List Int
  | 0 => []
  | i + 1 => xoP l s i ++ [uxor (l.getD i 0) (s i)]
theorem xoP_len (l : List Int) (s : Nat → Int) : ∀ n, (xoP l s n).length = n
  | 0 => rfl
  | n + 1 => by simp [xoP, xoP_len l s n]
def XA (k n : Nat → Int) (c : Int) (x : Nat → Int) : Nat → Nat → Int
  | 0 => x
  | i + 1 => if (i : Int).tmod 64 = 0 then rxX k n c i else XA k n c x i
theorem rxc_eq {c : Int} (hc : U c) (i : Nat) : rxc c i = uadd .u32 c ((i / 64 : Nat) : Int) := by
  have h1 := hc.1
  have e1 : (i : Int).tdiv 64 = ((i / 64 : Nat) : Int) := by
    rw [Int.tdiv_eq_ediv_of_nonneg (Int.natCast_nonneg _)]; rfl
  unfold rxc scut uadd
  rw [e1, Int.tmod_eq_emod_of_nonneg (by omega), m32, Int.toNat_natCast, Int.ofNat_eq_natCast]
  show (c + _) % 4294967296 % 4294967296 = _
  omega
theorem mod64 (i : Nat) : (i : Int).tmod 64 = ((i % 64 : Nat) : Int) := by
  rw [Int.tmod_eq_emod_of_nonneg (Int.natCast_nonneg _)]; rfl
theorem XA_blk (k n : Nat → Int) {c : Int} (hc : U c) (x : Nat → Int) : ∀ i j, j < 64 → XA k n c x (i + 1) j = blk (stt (atL (listF 32 k 0)) (uadd .u32 c ((i / 64 : Nat) : Int)) (atL (listF 12 n 0))) j
  | 0, j, hj => by
    show (if ((0 : Nat) : Int).tmod 64 = 0 then rxX k n c 0 else XA k n c x 0) j = _
    rw [if_pos (by decide)]
    show blk (stt _ (rxc c 0) _) j = _
    rw [rxc_eq hc]
  | i + 1, j, hj => by
    show (if ((i + 1 : Nat) : Int).tmod 64 = 0 then rxX k n c (i + 1) else XA k n c x (i + 1)) j = _
    split
    · show blk (stt _ (rxc c (i + 1)) _) j = _
      rw [rxc_eq hc]
    · rename_i h
      rw [XA_blk k n hc x i j hj, show (i + 1) / 64 = i / 64 by rw [mod64] at h; omega]
theorem rxV_eq {k n : Nat → Int} {c : Int} (hc : U c) (x : Nat → Int) (l : List Int) (i : Nat) : rxV l (XA k n c x (i + 1)) i = uxor (l.getD i 0) (strm k c n i) := by
  have h64 : i % 64 < 64 := Nat.mod_lt _ (by decide)
  unfold rxV
  rw [mod64, Int.toNat_natCast]
  congr 1
  rw [List.getD_eq_getElem?_getD, listF_get, if_pos h64, Nat.zero_add]
  simp only [Option.getD_some]
  rw [XA_blk k n hc x i _ h64, ← strm_list k c n]
  unfold strm sb
  exact blk_congr (stt_bump _ c _ _) h64
noncomputable def rxG : LoopF := fun vals B => match vals, B with
  | [.int .u32 c, .roi K l, .ptr 0 0, .ptr 1 0, .raw (.slice none 0 0), .ptr 2 0, .int .i64 0], [.cells ks, .cells ns, .cells xs] => match sameK K .u8, numsAs (List.replicate 32 .u8) ks, numsAs (List.replicate 12 .u8) ns, numsAs (List.replicate 64 .u8) xs with
    | true, some lk, some ln, some lx => some ([(9, .own 3)], rxB (atL lk) (atL ln) (XA (atL lk) (atL ln) c (atL lx) l.length) (xoP l (strm (atL lk) c (atL ln)) l.length), [BN 32 (atL lk), BN 12 (atL ln), U c, l.length ≤ 1000000000])
    | _, _, _, _ => none
  | _, _ => none
theorem rx_loop : LoopGood g9 44 (.loop rxBody) rxKeep 3 (.exit 0) (mkLoopN rxG) := by
  refine LoopGood.mkN (by decide) fun vals B S' B' C hG hC hlen w0 O hgl => ?_
  clear hlen
  unfold rxG at hG
  split at hG
  · rename_i c K l ks ns xs
    split at hG
    · rename_i lk ln lx hK hk hn hx
      obtain rfl := kidx_inj hK
      simp only [Option.some.injEq, Prod.mk.injEq] at hG
      obtain ⟨rfl, rfl, rfl⟩ := hG
      simp only [allC_cons, allC_nil, and_true] at hC
      obtain ⟨h1, h2, hc, hl⟩ := hC
      have b1 := BN_listF h1
      have b2 := BN_listF h2
      have F1 : Fits .i64 (l.length : Int) := fits_small (by omega)
      refine SimC.preI (B1 := [.cells (k32 (atL lk)), .cells (n12 (atL ln)), .cells (b64 (atL lx))]) ?_ ⟨cells_nums hk, cells_nums hn, cells_nums hx, trivial⟩
      refine SimC.adoptS (.ints .u8 []) 9 rfl rfl (by simp) (by simp) ?_
      have j3 : ∀ j : Nat, j < 3 → ([0, 1, 2, 5] : List Nat)[j]? = some j := fun j hj => by
        match j, hj with
        | 0, _ => rfl
        | 1, _ => rfl
        | 2, _ => rfl
      have j4 : ∀ j : Nat, j < 3 → ([0, 1, 2, 3] : List Nat)[j]? = some j := fun j hj => by
        match j, hj with
        | 0, _ => rfl
        | 1, _ => rfl
        | 2, _ => rfl
      refine SimC.iter (g := g9) (S := rxS c l) (B := fun i => rxB (atL lk) (atL ln) (XA (atL lk) (atL ln) c (atL lx) i) (xoP l (strm (atL lk) c (atL ln)) i)) (N := l.length) (fun i hi => ?_) ?_ (by simp) 0 (by omega)
      · have hw := xoP_len l (strm (atL lk) c (atL ln)) i
        have F2 : Fits .i64 ((i : Int) + 1) := fits_of (by omega) (by omega)
        have hv := rxV_eq (k := atL lk) (n := atL ln) hc (atL lx) l i
        have hm : (i : Int).tmod 64 = ((i % 64 : Nat) : Int) := mod64 i
        have hd : (i : Int).tdiv 64 = ((i / 64 : Nat) : Int) := by
          rw [Int.tdiv_eq_ediv_of_nonneg (Int.natCast_nonneg _)]; rfl
        have h64 : i % 64 < 64 := Nat.mod_lt _ (by decide)
        by_cases hz : (i : Int).tmod 64 = 0
        · have e : XA (atL lk) (atL ln) c (atL lx) (i + 1) = rxX (atL lk) (atL ln) c i := if_pos hz
          have hr := rx_go1 c i l (atL lk) (atL ln) (XA (atL lk) (atL ln) c (atL lx) i) (xoP l (strm (atL lk) c (atL ln)) i)
          rw [← e, hv] at hr
          have q1 : U (rxc c i) := by rw [rxc_eq hc]; exact U_uadd _ _
          have q2 : Fits .i64 (c + (i : Int).tdiv 64) := by have := hc.1; have := hc.2; rw [hd]; exact fits_of (by omega) (by omega)
          refine SimC.run (B' := rxB (atL lk) (atL ln) (XA (atL lk) (atL ln) c (atL lx) (i + 1)) (xoP l (strm (atL lk) c (atL ln)) (i + 1))) g9_ok (by decide) hr ?_ (by decide) j3 (by decide) (by simp) hgl
          simp only [rxC, List.cons_append, List.nil_append, List.length_append, hw, List.length_cons, List.length_nil, allC_cons, allC_nil, and_true]
          refine ⟨F1, decide_eq_true (by omega), decide_eq_true hz, q1, b1, b2, q2, by omega, by rw [hm]; omega, ⟨by rw [hm]; omega, by rw [hm]; omega⟩, ⟨by omega, by omega⟩, F2⟩
        · have e : XA (atL lk) (atL ln) c (atL lx) (i + 1) = XA (atL lk) (atL ln) c (atL lx) i := if_neg hz
          have hr := rx_go0 c i l (atL lk) (atL ln) (XA (atL lk) (atL ln) c (atL lx) i) (xoP l (strm (atL lk) c (atL ln)) i)
          rw [← e, hv] at hr
          rw [← e]
          refine SimC.run (B' := rxB (atL lk) (atL ln) (XA (atL lk) (atL ln) c (atL lx) (i + 1)) (xoP l (strm (atL lk) c (atL ln)) (i + 1))) g9_ok (by decide) hr ?_ (by decide) j3 (by decide) (by simp) hgl
          simp only [rxC, List.cons_append, List.nil_append, List.length_append, hw, List.length_cons, List.length_nil, allC_cons, allC_nil, and_true]
          refine ⟨F1, decide_eq_true (by omega), decide_eq_false hz, by omega, by rw [hm]; omega, ⟨by rw [hm]; omega, by rw [hm]; omega⟩, ⟨by omega, by omega⟩, F2⟩
      · exact SimC.weaken (SimC.run (B' := rxB (atL lk) (atL ln) (XA (atL lk) (atL ln) c (atL lx) l.length) (xoP l (strm (atL lk) c (atL ln)) l.length)) g9_ok (by decide) (rx_end c l.length l _ _ _ _) (by (simp only [allC_cons, allC_nil, and_true]; repeat' (with_reducible (first | refine And.intro ?_ ?_ | exact True.intro | assumption | omega | exact decide_eq_true (by first | assumption | omega) | exact decide_eq_false (by first | assumption | omega) | rfl | (simp; done))))) (by decide) j4 (by decide) (by simp) hgl) (sub_mkT (by simp; rfl))
    · simp at hG
  · simp at hG
end Go.Proofs.Ytibfkpgdpldjbaa
