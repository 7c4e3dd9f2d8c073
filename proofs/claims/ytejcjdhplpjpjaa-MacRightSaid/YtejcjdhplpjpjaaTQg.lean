/- Accounts of this seat's functions: lemmas, no statement of their own. No conditions. -/
import Derived.Test.YtejcjdhplpjpjaaTQf
namespace Go.Proofs.Ytejcjdhplpjpjaa
open Go Go.Vx
theorem tgX_at {l : List Int} {k r : Nat} (hr : r = min 16 (l.length - 16 * k)) (h1 : 1 ≤ r) : ∀ j, j < 17 → atL (tgX l ((16 * k : Nat) : Int) r) j = fbN l k j := fun j hj => by
  have hl : ((List.range r).map fun (j : Nat) => l.getD (0 + (((16 * k : Nat) : Int) + (j : Int)).toNat + 0) 0).length = r := by simp
  show (tgX l ((16 * k : Nat) : Int) r).getD j 0 = _
  unfold tgX fbN
  rw [List.getD_eq_getElem?_getD, List.append_assoc]
  by_cases c : j < r
  · rw [List.getElem?_append_left (by omega), List.getElem?_map, List.getElem?_range c, if_pos ⟨by omega, by omega⟩]
    show l.getD _ 0 = _
    congr 1; omega
  · rw [List.getElem?_append_right (by omega), hl, if_neg (by omega)]
    by_cases c2 : j = r
    · rw [if_pos (by omega), show j - r = 0 by omega]; rfl
    · rw [if_neg (by omega)]
      obtain ⟨q, hq⟩ : ∃ q, j - r = q + 1 := ⟨j - r - 1, by omega⟩
      rw [hq, List.singleton_append, List.getElem?_cons_succ, List.getElem?_replicate]
      split <;> rfl
theorem leN_L (n : Nat) (a : Nat → Int) : leN n (atL (listF n a 0)) 0 = leN n a 0 := leN_congr n 0 fun j hj => by rw [Nat.zero_add]; exact atLF hj
noncomputable def tgG : LoopF := fun vals B => match vals, B with
  | [.sl 0 0 0 1 0 n false, .ptr 1 0, .ptr 2 0, .ptr 3 0, .ptr 4 0, .int .i64 0], [.ints K l, .cells c1, .cells c2, .cells c3, .cells c4] => match sameK K .u8, numsAs (List.replicate 16 .u8) c1, numsAs (List.replicate 16 .u8) c2, numsAs (List.replicate 17 .i64) c3, numsAs (List.replicate 17 .i64) c4 with
    | true, some lz, some ls, some lt, some lm => some ([(4, .ptr 1 0), (6, .ptr 2 0), (9, .ptr 4 0)], tgB l (atL lz) (atL ls) (atL lt) (byteN (dS (leN 17 (atL lt) 0) l ((l.length + 15) / 16))), [n = l.length, l.length ≤ 140737488355328, NG (atL lt), lm = listF 17 (byteN 0) 0])
    | _, _, _, _, _ => none
  | _, _ => none
theorem i5 : ∀ j : Nat, j < 5 → ([0, 1, 2, 3, 4] : List Nat)[j]? = some j := fun j hj => by
  match j, hj with
  | 0, _ => rfl
  | 1, _ => rfl
  | 2, _ => rfl
  | 3, _ => rfl
  | 4, _ => rfl
theorem tg_loop : LoopGood gw 68 (.loop tgBody) tgKeep 5 (.exit 2) (mkLoopN tgG) := by
  refine LoopGood.mkN (by decide) fun vals B S' B' C hG hC hlen w0 O hgl => ?_
  clear hlen
  unfold tgG at hG
  split at hG
  · rename_i n K l c1 c2 c3 c4
    split at hG
    · rename_i lz ls lt lm hK h1 h2 h3 h4
      obtain rfl := kidx_inj hK
      simp only [Option.some.injEq, Prod.mk.injEq] at hG
      obtain ⟨rfl, rfl, rfl⟩ := hG
      simp only [allC_cons, allC_nil, and_true] at hC
      obtain ⟨rfl, hl, hT, hm⟩ := hC
      have F1 : Fits .i64 (l.length : Int) := Go.Vx.fits_small hl
      generalize hTT : leN 17 (atL lt) 0 = T at *
      refine SimC.preI (B1 := tgB l (atL lz) (atL ls) (atL lt) (atL lm)) ?_ ⟨⟨BImp.refl _, fun _ h => by simp at h⟩, cells_nums h1, cells_nums h2, cells_nums h3, cells_nums h4, trivial⟩
      have e0 : tgB l (atL lz) (atL ls) (atL lt) (atL lm) = tgB l (atL lz) (atL ls) (atL lt) (byteN (dS T l 0)) := by
        have : svF (List.replicate 17 .i64) (atL lm) 0 = svF (List.replicate 17 .i64) (byteN (dS T l 0)) 0 := svF_cg _ 0 fun j hj => by
          rw [Nat.zero_add, hm]; rw [List.length_replicate] at hj; exact atLF hj
        simp only [tgB]
        rw [this]
      rw [e0]
      show SimC _ _ _ _ _ (tgS l.length (((16 * 0 : Nat) : Int))) _ _ _ _ _
      refine SimC.iter (g := gw) (e := .exit 2) (S := fun k => tgS l.length ((16 * k : Nat) : Int)) (B := fun k => tgB l (atL lz) (atL ls) (atL lt) (byteN (dS T l k))) (N := (l.length + 15) / 16) (fun k hk => ?_) ?_ (by simp) 0 (by omega)
      · have hr := tg_go l.length l (atL lz) (atL ls) (atL lt) (byteN (dS T l k)) ((16 * k : Nat) : Int) (min 16 (l.length - 16 * k)) (by omega) (by omega)
        unfold TgOk at hr
        have hd := dS_lt T l k
        have eX : leN 17 (atL (tgX l ((16 * k : Nat) : Int) (min 16 (l.length - 16 * k)))) 0 = leN 17 (fbN l k) 0 := leN_congr 17 0 fun j hj => by rw [Nat.zero_add]; exact tgX_at rfl (by omega) j hj
        have eV : tgV l (atL lt) (byteN (dS T l k)) ((16 * k : Nat) : Int) (min 16 (l.length - 16 * k)) = dS T l (k + 1) := by
          unfold tgV
          rw [eX, leN_L, leN_L, leN_L, leN_by hd, leN_by (modP _), leN_L, leN_by (modP _), hTT]
          rfl
        rw [eV, show ((16 * k : Nat) : Int) + 16 = ((16 * (k + 1) : Nat) : Int) by omega] at hr
        refine SimC.run (B' := tgB l (atL lz) (atL ls) (atL lt) (byteN (dS T l (k + 1)))) gw_ok (by decide) hr ?_ (by decide) i5 (by decide) (by simp) hgl
        rw [tgC, allC_append, allC_append, allC_append]
        refine ⟨?_, fun c hc => ?_, ?_, ?_⟩
        · simp only [allC_cons, allC_nil, and_true]; exact ⟨F1, decide_eq_true (by omega)⟩
        · obtain ⟨j, hj, hc⟩ := List.mem_flatMap.1 hc
          have hj := List.mem_range.1 hj
          simp only [tgCi, List.mem_cons, List.not_mem_nil, or_false] at hc
          rcases hc with rfl | rfl | rfl | rfl | rfl | rfl
          · exact F1
          · exact fits_of (by omega) (by omega)
          · exact decide_eq_true (by omega)
          · omega
          · omega
          · exact fits_of (by omega) (by omega)
        · unfold tgE
          cases hb : Nat.blt (min 16 (l.length - 16 * k)) 16 with
          | false => simp [AllC]
          | true =>
            have : min 16 (l.length - 16 * k) + 1 ≤ 16 := Nat.le_of_ble_eq_true hb
            simp only [cond_true, allC_cons, allC_nil, and_true]
            exact ⟨F1, fits_of (by omega) (by omega), decide_eq_false (by omega)⟩
        · simp only [allC_cons, allC_nil, and_true]
          exact ⟨NG_L.2 (NG_by (modP _)), NG_L.2 hT, NG_L.2 (NG_by hd), NG_L.2 (NG_by (modP _)), fits_of (by omega) (by omega)⟩
      · exact SimC.weaken (SimC.run (B' := tgB l (atL lz) (atL ls) (atL lt) (byteN (dS T l ((l.length + 15) / 16)))) gw_ok (by decide) (tg_end _ _ _ _ _ _ _) (by simp only [allC_cons, allC_nil, and_true]; exact ⟨F1, decide_eq_false (by omega)⟩) (by decide) i5 (by decide) (by simp) hgl) (sub_mkT (by simp; exact ⟨rfl, rfl, rfl⟩))
    · simp at hG
  · simp at hG
abbrev loK (k : Nat → Int) : List Int := listF 16 k 0
abbrev hiK (k : Nat → Int) : List Int := listF 16 (fun j => k (16 + j)) 0
/-- the document's number of a key -/
def kT (k : Nat → Int) : Int := leN 17 (clD (atL (loK k))) 0
abbrev tmK (k : Nat → Int) : List Int := listF 17 (clD (atL (loK k))) 0
noncomputable abbrev tagB (k : Nat → Int) (l : List Int) : List SV := svF (List.replicate 16 .u8) (byteN (leN 16 (atL (listF 17 (byteN (dS (leN 17 (atL (tmK k)) 0) l ((l.length + 15) / 16))) 0)) 0 + leN 16 (atL (hiK k)) 0)) 0
theorem dt_run (k : Nat → Int) (n : Nat) (l : List Int) : runF gw 900 [.loop 11 tgKeep 5 (.exit 2) (mkLoopN tgG)] 14 [.agg (svF (List.replicate 32 .u8) k 0), .sl 0 0 0 1 0 n false] [.ints .u8 l] [] =
    some (.agg (tagB k l), [some (.ints .u8 l)], [LoopGood gw 68 (.loop tgBody) tgKeep 5 (.exit 2) (mkLoopN tgG), n = l.length, l.length ≤ 140737488355328, NG (atL (tmK k)), List.replicate 17 (0 : Int) = listF 17 (byteN 0) 0, NG (atL (listF 17 (byteN (dS (leN 17 (atL (tmK k)) 0) l ((l.length + 15) / 16))) 0))]) :=
  run_parts (by kernel_rfl) (by kernel_rfl) (by kernel_rfl)
end Go.Proofs.Ytejcjdhplpjpjaa
