/- Accounts of this seat's functions: lemmas, no statement of their own. No conditions. -/
import Derived.Test.YtejcjdhplpjpjaaTQj
namespace Go.Proofs.Ytejcjdhplpjpjaa
open Go Go.Vx
/-! ### the document's Tag: the account; New -/
theorem dt_val (k : Nat → Int) (l : List Int) : tagB k l = svF (List.replicate 16 .u8) (atL (dTag (kT k) (atL (hiK k)) l)) 0 := svF_cg _ 0 fun j hj => by
  rw [Nat.zero_add]
  rw [List.length_replicate] at hj
  unfold dTag
  rw [atLF hj, leN_L 17]
  have : leN 16 (atL (listF 17 (byteN (dS (leN 17 (clD (atL (loK k))) 0) l ((l.length + 15) / 16))) 0)) 0 = leN 16 (byteN (dS (kT k) l ((l.length + 15) / 16))) 0 := leN_congr 16 0 fun j hj => by rw [Nat.zero_add]; exact atLF (by omega)
  rw [this]
noncomputable def F14 : SumF := fun args B => match args, B with
  | [.agg ks, x], [.ints K l] => match numsAs (List.replicate 32 .u8) ks, vwI 0 l x, sameK K .u8 with
    | some lk, some (0, n), true => some { val := .agg (svF (List.replicate 16 .u8) (atL (dTag (kT (atL lk)) (atL (hiK (atL lk))) l)) 0), C := [n = l.length, l.length ≤ 140737488355328] }
    | _, _, _ => none
  | _, _ => none
theorem clampL_at {f : Nat → Int} (h : ∀ j, j < 16 → Byte (f j)) : ∀ j, j < 17 → atL (clampL f) j = clD f j := by
  have m15 : ∀ j, j < 16 → umask (f j) 15 = f j % 16 := fun j hj => umaskE (f j) 15 (h j hj).1
  have m25 : ∀ j, j < 16 → uand (f j) 252 = f j - f j % 4 := fun j hj => uand252 (h j hj)
  intro j hj
  match j, hj with
  | 0, _ => rfl
  | 1, _ => rfl
  | 2, _ => rfl
  | 3, _ => exact m15 3 (by decide)
  | 4, _ => exact m25 4 (by decide)
  | 5, _ => rfl
  | 6, _ => rfl
  | 7, _ => exact m15 7 (by decide)
  | 8, _ => exact m25 8 (by decide)
  | 9, _ => rfl
  | 10, _ => rfl
  | 11, _ => exact m15 11 (by decide)
  | 12, _ => exact m25 12 (by decide)
  | 13, _ => rfl
  | 14, _ => rfl
  | 15, _ => exact m15 15 (by decide)
  | 16, _ => rfl
  | j + 17, hj => exact absurd hj (by omega)
theorem kT_NG {k : Nat → Int} (h : ∀ j, j < 32 → Byte (k j)) : NG (atL (tmK k)) := by
  refine NG_L.2 ?_
  have hb : ∀ j, j < 16 → Byte (atL (loK k) j) := fun j hj => by rw [atLF hj]; exact h j (by omega)
  refine ⟨fun j hj => clD_byte hb j hj, ?_⟩
  have e : leN 17 (clD (atL (loK k))) 0 = leN 17 (atL (clampL (atL (loK k)))) 0 := leN_congr 17 0 fun j hj => by rw [Nat.zero_add]; exact (clampL_at hb j hj).symm
  rw [e]
  exact (clamp_lt hb).2
theorem acc14 : Acc gw 14 F14 := by
  intro args B out h hC
  unfold F14 at h
  split at h
  · rename_i ks x K l
    split at h
    · rename_i lk n hk hx hK
      obtain rfl := kidx_inj hK
      simp only [Option.some.injEq] at h; subst h
      simp only [allC_cons, allC_nil, and_true] at hC
      obtain ⟨rfl, h1⟩ := hC
      refine FnOk.argsH (args' := [.agg (svF (List.replicate 32 .u8) (atL lk) 0), .sl 0 0 0 1 0 l.length false]) ?_ (fun w0 O ρ Φ w vs x d => by
        simp only [DenT] at d ⊢
        obtain ⟨v1, r1, rfl, d1, v2, r2, rfl, d2, rfl⟩ := d
        exact ⟨_, _, rfl, (nums_imp hk) _ _ _ _ d1, _, _, rfl, vwI_den hx x rfl d2, rfl⟩)
      refine FnOk.facts fun ⟨hf, _⟩ => ?_
      have hb : ∀ j, j < 32 → Byte (atL lk j) := fun j hj => by
        have e : (List.replicate 32 IntKind.u8)[j]? = some .u8 := by rw [List.getElem?_replicate, if_pos hj]
        have f1 := facts_svF hf j .u8 e
        rw [Nat.zero_add] at f1
        exact ⟨f1.1, by have := f1.2; show atL lk j < 256; exact Int.lt_of_le_of_lt this (by decide)⟩
      have hL := tg_loop
      refine FnOk.val (v := .agg (tagB (atL lk) l)) (C := []) (rd := []) ?_ (fun _ _ _ _ h => by rw [← dt_val]; exact h)
      exact FnOk.run (new := []) gw_ok (dt_run (atL lk) l.length l) (by
        simp only [allC_cons, allC_nil, and_true]
        exact ⟨hL, trivial, h1, kT_NG hb, by decide, NG_L.2 (NG_by (dS_lt _ _ _))⟩) (by simp [upto]) rfl (by simp) (by simp) (fun j hj => by
          match j, hj with
          | 0, _ => rfl)
    · simp at h
  · simp at h
noncomputable abbrev nwV (k : Nat → Int) : Body := .cells (nilR :: (svF (List.replicate 5 .u64) (clampN (loK k)) 0 ++ (List.replicate 5 (.lit .u64 0) ++ (svF (List.replicate 16 .u8) (fun j => k (16 + j)) 0 ++ (List.replicate 16 (.lit .u8 0) ++ [.lit .i64 0])))))
theorem nw_run (k : Nat → Int) : runF gp 300 [] 11 [nilR, .agg (svF (List.replicate 32 .u8) k 0)] [] [1] = some (.ptr 0 0, [some (nwV k)], []) := run_parts (by kernel_rfl) (by kernel_rfl) (by kernel_rfl)
end Go.Proofs.Ytejcjdhplpjpjaa
