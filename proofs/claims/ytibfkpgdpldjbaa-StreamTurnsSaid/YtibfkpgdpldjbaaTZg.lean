/- Accounts of this seat's functions: lemmas, no statement of their own. No conditions. -/
import Derived.Test.YtibfkpgdpldjbaaTZf
namespace Go.Proofs.Ytibfkpgdpldjbaa
open Go Go.Vx
theorem lad_run (k : Nat → Int) (c : Int) (n : Nat → Int) : runF g7 2000 [] 31 [.agg (k32 k), .int .u32 c, .agg (n12 n)] [] [] = some (.agg ([.lit .i64 1634760805, .lit .i64 857760878, .lit .i64 2036477234, .lit .i64 1797285236] ++ (i16 (lad k c n)).drop 4), [],
  wwC (k 0) (k 1) (k 2) (k 3) ++ wwC (k 4) (k 5) (k 6) (k 7) ++ wwC (k 8) (k 9) (k 10) (k 11) ++ wwC (k 12) (k 13) (k 14) (k 15) ++ wwC (k 16) (k 17) (k 18) (k 19) ++ wwC (k 20) (k 21) (k 22) (k 23) ++ wwC (k 24) (k 25) (k 26) (k 27) ++ wwC (k 28) (k 29) (k 30) (k 31) ++ wwC (n 0) (n 1) (n 2) (n 3) ++ wwC (n 4) (n 5) (n 6) (n 7) ++ wwC (n 8) (n 9) (n 10) (n 11)) := by kernel_rfl
def BN (m : Nat) (k : Nat → Int) : Prop := ∀ i, i < m → Byte (k i)
theorem wwC_ok {a b c d : Int} (ha : Byte a) (hb : Byte b) (hc : Byte c) (hd : Byte d) : AllC (wwC a b c d) := by
  have := ha.1; have := ha.2; have := hb.1; have := hb.2; have := hc.1; have := hc.2; have := hd.1; have := hd.2
  have h1 : Fits .i64 (ww a b c d) := fits_of (by unfold ww; omega) (by unfold ww; omega)
  have h2 : Fits .i64 (16777216 * d) := fits_of (by omega) (by omega)
  have h3 : Fits .i64 (a + 256 * b + 65536 * c) := fits_of (by omega) (by omega)
  have h4 : Fits .i64 (65536 * c) := fits_of (by omega) (by omega)
  have h5 : Fits .i64 (a + 256 * b) := fits_of (by omega) (by omega)
  have h6 : Fits .i64 (256 * b) := fits_of (by omega) (by omega)
  simp only [wwC, allC_cons, allC_nil, and_true]
  exact ⟨h1, h2, h3, h4, h5, h6⟩
theorem lad_C {k n : Nat → Int} (hk : BN 32 k) (hn : BN 12 n) : AllC (wwC (k 0) (k 1) (k 2) (k 3) ++ wwC (k 4) (k 5) (k 6) (k 7) ++ wwC (k 8) (k 9) (k 10) (k 11) ++ wwC (k 12) (k 13) (k 14) (k 15) ++ wwC (k 16) (k 17) (k 18) (k 19) ++ wwC (k 20) (k 21) (k 22) (k 23) ++ wwC (k 24) (k 25) (k 26) (k 27) ++ wwC (k 28) (k 29) (k 30) (k 31) ++ wwC (n 0) (n 1) (n 2) (n 3) ++ wwC (n 4) (n 5) (n 6) (n 7) ++ wwC (n 8) (n 9) (n 10) (n 11)) := by
  have H : ∀ {k : Nat → Int} {m : Nat} (hk : BN m k) (i : Nat) (hi : i + 3 < m), AllC (wwC (k i) (k (i + 1)) (k (i + 2)) (k (i + 3))) := fun hk i hi => wwC_ok (hk i (by omega)) (hk (i + 1) (by omega)) (hk (i + 2) (by omega)) (hk (i + 3) (by omega))
  intro p hp
  simp only [List.mem_append, or_assoc] at hp
  rcases hp with h | h | h | h | h | h | h | h | h | h | h
  · exact H hk 0 (by decide) p h
  · exact H hk 4 (by decide) p h
  · exact H hk 8 (by decide) p h
  · exact H hk 12 (by decide) p h
  · exact H hk 16 (by decide) p h
  · exact H hk 20 (by decide) p h
  · exact H hk 24 (by decide) p h
  · exact H hk 28 (by decide) p h
  · exact H hn 0 (by decide) p h
  · exact H hn 4 (by decide) p h
  · exact H hn 8 (by decide) p h
theorem ww_U {a b c d : Int} (ha : Byte a) (hb : Byte b) (hc : Byte c) (hd : Byte d) : U (ww a b c d) := by
  have := ha.1; have := ha.2; have := hb.1; have := hb.2; have := hc.1; have := hc.2; have := hd.1; have := hd.2
  exact ⟨by unfold ww; omega, by unfold ww; omega⟩
theorem lad_stt {k n : Nat → Int} (c : Int) (hk : BN 32 k) (hn : BN 12 n) : stt k c n = lad k c n := by
  have H : ∀ {k : Nat → Int} {m : Nat} (hk : BN m k) (i : Nat) (hi : i + 3 < m), wd (k i) (k (i + 1)) (k (i + 2)) (k (i + 3)) = ww (k i) (k (i + 1)) (k (i + 2)) (k (i + 3)) := fun hk i hi => wd_ww (hk i (by omega)) (hk (i + 1) (by omega)) (hk (i + 2) (by omega)) (hk (i + 3) (by omega))
  unfold stt lad
  rw [show wd (k 0) (k 1) (k 2) (k 3) = _ from H hk 0 (by decide), show wd (k 4) (k 5) (k 6) (k 7) = _ from H hk 4 (by decide), show wd (k 8) (k 9) (k 10) (k 11) = _ from H hk 8 (by decide), show wd (k 12) (k 13) (k 14) (k 15) = _ from H hk 12 (by decide), show wd (k 16) (k 17) (k 18) (k 19) = _ from H hk 16 (by decide), show wd (k 20) (k 21) (k 22) (k 23) = _ from H hk 20 (by decide), show wd (k 24) (k 25) (k 26) (k 27) = _ from H hk 24 (by decide), show wd (k 28) (k 29) (k 30) (k 31) = _ from H hk 28 (by decide), show wd (n 0) (n 1) (n 2) (n 3) = _ from H hn 0 (by decide), show wd (n 4) (n 5) (n 6) (n 7) = _ from H hn 4 (by decide), show wd (n 8) (n 9) (n 10) (n 11) = _ from H hn 8 (by decide)]
theorem lad_U {k n : Nat → Int} {c : Int} (hc : U c) (hk : BN 32 k) (hn : BN 12 n) : U16 (lad k c n) := by
  have H : ∀ {k : Nat → Int} {m : Nat} (hk : BN m k) (i : Nat) (hi : i + 3 < m), U (ww (k i) (k (i + 1)) (k (i + 2)) (k (i + 3))) := fun hk i hi => ww_U (hk i (by omega)) (hk (i + 1) (by omega)) (hk (i + 2) (by omega)) (hk (i + 3) (by omega))
  intro i hi
  unfold lad
  match i, hi with
  | 0, _ => exact ⟨by show (0 : Int) ≤ 1634760805; decide, by show (1634760805 : Int) < 4294967296; decide⟩
  | 1, _ => exact ⟨by show (0 : Int) ≤ 857760878; decide, by show (857760878 : Int) < 4294967296; decide⟩
  | 2, _ => exact ⟨by show (0 : Int) ≤ 2036477234; decide, by show (2036477234 : Int) < 4294967296; decide⟩
  | 3, _ => exact ⟨by show (0 : Int) ≤ 1797285236; decide, by show (1797285236 : Int) < 4294967296; decide⟩
  | 4, _ => exact H hk 0 (by decide)
  | 5, _ => exact H hk 4 (by decide)
  | 6, _ => exact H hk 8 (by decide)
  | 7, _ => exact H hk 12 (by decide)
  | 8, _ => exact H hk 16 (by decide)
  | 9, _ => exact H hk 20 (by decide)
  | 10, _ => exact H hk 24 (by decide)
  | 11, _ => exact H hk 28 (by decide)
  | 12, _ => exact hc
  | 13, _ => exact H hn 0 (by decide)
  | 14, _ => exact H hn 4 (by decide)
  | 15, _ => exact H hn 8 (by decide)
  | i + 16, h => exact absurd h (by omega)
noncomputable def F31 : SumF := fun args B => match args, B with
  | [.agg xs, .int .u32 c, .agg ys], [] => match numsAs (List.replicate 32 .u8) xs, numsAs (List.replicate 12 .u8) ys with
    | some lk, some ln => some { val := .agg (i16 (stt (atL lk) c (atL ln))), C := [BN 32 (atL lk), BN 12 (atL ln)] }
    | _, _ => none
  | _, _ => none
theorem acc31 : Acc g7 31 F31 := by
  intro args B out h hC
  unfold F31 at h
  split at h
  · rename_i xs c ys
    split at h
    · rename_i lk ln hx hy
      simp only [Option.some.injEq] at h; subst h
      have hk : BN 32 (atL lk) := hC _ (by simp)
      have hn : BN 12 (atL ln) := hC _ (by simp)
      refine FnOk.imp (args' := [.agg (k32 (atL lk)), .int .u32 c, .agg (n12 (atL ln))]) ?_ ⟨nums_imp hx, DenImp.refl _, nums_imp hy, trivial⟩
      rw [lad_stt c hk hn]
      exact FnOk.val (FnOk.pure g7_ok (lad_run _ _ _) (lad_C hk hn)) fun _ _ _ _ d => denV_norm d
    · simp at h
  · simp at h
end Go.Proofs.Ytibfkpgdpldjbaa
