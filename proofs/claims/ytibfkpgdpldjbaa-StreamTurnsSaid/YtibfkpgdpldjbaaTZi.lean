/- Accounts of this seat's functions: lemmas, no statement of their own. No conditions. -/
import Derived.Test.YtibfkpgdpldjbaaTZh
namespace Go.Proofs.Ytibfkpgdpldjbaa
open Go Go.Vx
theorem ob_blk {s : Nat → Int} (h : U16 s) {j : Nat} (hj : j < 64) : ob (yN 10 (Lf s)) s j = blk s j := by
  have hq : j / 4 < 16 := by omega
  have e1 : yN 10 (Lf s) (j / 4) = drN 10 s (j / 4) := by
    rw [yN_dr _ 10 _ hq]
    exact drN_congr (x := Lf s) (y := s) (fun i hi => atL_listF hi) 10 _ hq
  have u1 : U (drN 10 s (j / 4)) := by rw [← e1]; exact yN_U (U16_Lf h) 10 _ hq
  have u2 := h _ hq
  unfold ob blk
  rw [e1, iadd u1 u2]
  generalize hX : uadd .u32 (drN 10 s (j / 4)) (s (j / 4)) = X
  have uX : U X := by rw [← hX]; exact U_uadd _ _
  obtain ⟨X, rfl⟩ := Int.eq_ofNat_of_zero_le uX.1
  have hX2 : X < 4294967296 := by have := uX.2; omega
  have e0 : ∀ n, it (X : Int) n = ((X / 256 ^ n : Nat) : Int) := by
    intro n
    induction n with
    | zero => simp [it]
    | succ n ih =>
      show (it (X : Int) n).tdiv 256 = _
      rw [ih, Int.tdiv_eq_ediv_of_nonneg (Int.natCast_nonneg _), Nat.pow_succ, ← Nat.div_div_eq_div_mul]
      rfl
  rw [e0]
  unfold ucut ushr scut
  rw [Int.tmod_eq_emod_of_nonneg (Int.natCast_nonneg _)]
  show _ % ((256 : Nat) : Int) = Int.ofNat ((Int.ofNat _).toNat % 256)
  have e2 : (((8 * (j % 4) : Nat) : Int)).toNat = 8 * (j % 4) := by omega
  rw [e2, Int.ofNat_eq_natCast, Int.ofNat_eq_natCast, Int.toNat_natCast, Int.toNat_natCast, show 256 = 2 ^ 8 from rfl, ← Nat.pow_mul]
  omega
theorem obC_ok {s : Nat → Int} (h : U16 s) : AllC (obC (yN 10 (Lf s)) s) := by
  have H : ∀ i, i < 16 → Fits .i64 (yN 10 (Lf s) i + s i) := fun i hi => U_fits (yN_U (U16_Lf h) 10 _ hi) (h i hi)
  simp only [obC, allC_cons, allC_nil, and_true]
  exact ⟨H 0 (by decide), H 1 (by decide), H 2 (by decide), H 3 (by decide), H 4 (by decide), H 5 (by decide), H 6 (by decide), H 7 (by decide), H 8 (by decide), H 9 (by decide), H 10 (by decide), H 11 (by decide), H 12 (by decide), H 13 (by decide), H 14 (by decide), H 15 (by decide)⟩
noncomputable def F16 : SumF := fun args B => match args, B with
  | [.agg xs, .int .u32 c, .agg ys], [] => match numsAs (List.replicate 32 .u8) xs, numsAs (List.replicate 12 .u8) ys with
    | some lk, some ln => some { val := .agg (b64 (blk (stt (atL lk) c (atL ln)))), C := [U c, BN 32 (atL lk), BN 12 (atL ln)] }
    | _, _ => none
  | _, _ => none
theorem b64_congr {x y : Nat → Int} (h : ∀ j, j < 64 → x j = y j) : b64 x = b64 y := by
  have H : ∀ (ks : List IntKind) (o : Nat), (∀ j, o ≤ j → j < o + ks.length → x j = y j) → svF ks x o = svF ks y o := by
    intro ks
    induction ks with
    | nil => intros; rfl
    | cons k ks ih =>
      intro o hh
      show _ :: _ = _ :: _
      rw [hh o (Nat.le_refl _) (by simp), ih (o + 1) fun j h1 h2 => hh j (by omega) (by simp only [List.length_cons]; omega)]
  exact H _ 0 fun j _ h2 => h j (by simpa using h2)
theorem BN_listF {m : Nat} {k : Nat → Int} (h : BN m k) : BN m (atL (listF m k 0)) := fun i hi => by rw [atL_listF hi]; exact h i hi
theorem acc16 : Acc g8 16 F16 := by
  intro args B out h hC
  unfold F16 at h
  split at h
  · rename_i xs c ys
    split at h
    · rename_i lk ln hx hy
      simp only [Option.some.injEq] at h; subst h
      have hc : U c := hC _ (by simp)
      have hk : BN 32 (atL lk) := hC _ (by simp)
      have hn : BN 12 (atL ln) := hC _ (by simp)
      have hu : U16 (stt (atL lk) c (atL ln)) := by rw [lad_stt c hk hn]; exact lad_U hc hk hn
      refine FnOk.imp (args' := [.agg (k32 (atL lk)), .int .u32 c, .agg (n12 (atL ln))]) ?_ ⟨nums_imp hx, DenImp.refl _, nums_imp hy, trivial⟩
      have e : b64 (ob (yN 10 (Lf (stt (atL lk) c (atL ln)))) (stt (atL lk) c (atL ln))) = b64 (blk (stt (atL lk) c (atL ln))) := b64_congr (fun j hj => ob_blk hu hj)
      rw [← e]
      refine FnOk.pure g8_ok (blk_run _ _ _) ?_
      intro p hp
      simp only [List.mem_append, List.mem_cons, List.not_mem_nil, or_false] at hp
      rcases hp with (rfl | rfl | rfl | rfl) | hp
      · exact BN_listF hk
      · exact BN_listF hn
      · exact rb_loop
      · exact U16_Lf hu
      · exact obC_ok hu p hp
    · simp at h
  · simp at h
noncomputable abbrev g9 : Ctx := g8.add [(16, F16)]
theorem g9_ok : CtxU g9 := g8_ok.add mixed noGo (by
  intro x hx
  simp only [List.mem_cons, List.not_mem_nil, or_false] at hx
  rcases hx with rfl
  exact acc16)
end Go.Proofs.Ytibfkpgdpldjbaa
