/- Accounts of this seat's functions: lemmas, no statement of their own. No conditions. -/
import Derived.Test.YtejcjdhplpjpjaaTQj
import Derived.Test.YtejcjdhplpjpjaaV5
namespace Go.Proofs.Ytejcjdhplpjpjaa
open Go Go.Vx
/-! ### the document's Tag: the account; New -/
theorem dt_val (k : Nat → Int) (l : List Int) : tagB k l = svF (List.replicate 16 .u8) (atL (dTag (kT k) (atL (hiK k)) l)) 0 := svF_cg _ 0 fun j hj => by
  rw [Nat.zero_add]
  rw [List.length_replicate] at hj
  unfold dTag
  rw [atLF hj, leN_L 17]
  have : leN 16 (atL (listF 17 (byteN (dS (leN 17 (clD (atL (loK k))) 0) l ((l.length + 15) / 16))) 0)) 0 = leN 16 (byteN (dS (kT k) l ((l.length + 15) / 16))) 0 := leN_congr 16 0 fun j hj => by rw [Nat.zero_add]; exact atLF (by omega)
  rw [this]
noncomputable def F14 : SumF := fun args B => match args, B with
  | [.agg ks, x], [.ints K l] => match numsAs (List.replicate 32 .u8) ks, vwI 0 l x, sameK K .u8 with
    | some lk, some (0, n), true => some { val := .agg (svF (List.replicate 16 .u8) (atL (dTag (kT (atL lk)) (atL (hiK (atL lk))) l)) 0), C := [n = l.length, l.length ≤ 140737488355328] }
    | _, _, _ => none
  | _, _ => none
theorem clampL_at {f : Nat → Int} (h : ∀ j, j < 16 → Byte (f j)) : ∀ j, j < 17 → atL (clampL f) j = clD f j := by
  have m15 : ∀ j, j < 16 → umask (f j) 15 = f j % 16 := fun j hj => umaskE (f j) 15 (h j hj).1
  have m25 : ∀ j, j < 16 → uand (f j) 252 = f j - f j % 4 := fun j hj => uand252 (h j hj)
  intro j hj
  match j, hj with
  | 0, _ => rfl
  | 1, _ => rfl
  | 2, _ => rfl
  | 3, _ => exact m15 3 (by decide)
  | 4, _ => exact m25 4 (by decide)
  | 5, _ => rfl
  | 6, _ => rfl
  | 7, _ => exact m15 7 (by decide)
  | 8, _ => exact m25 8 (by decide)
  | 9, _ => rfl
  | 10, _ => rfl
  | 11, _ => exact m15 11 (by decide)
  | 12, _ => exact m25 12 (by decide)
  | 13, _ => rfl
  | 14, _ => rfl
  | 15, _ => exact m15 15 (by decide)
  | 16, _ => rfl
  | j + 17, hj => exact absurd hj (by omega)
theorem kT_NG {k : Nat → Int} (h : ∀ j, j < 32 → Byte (k j)) : NG (atL (tmK k)) := by
  refine NG_L.2 ?_
  have hb : ∀ j, j < 16 → Byte (atL (loK k) j) := fun j hj => by rw [atLF hj]; exact h j (by omega)
  refine ⟨fun j hj => clD_byte hb j hj, ?_⟩
  have e : leN 17 (clD (atL (loK k))) 0 = leN 17 (atL (clampL (atL (loK k)))) 0 := leN_congr 17 0 fun j hj => by rw [Nat.zero_add]; exact (clampL_at hb j hj).symm
  rw [e]
  exact (clamp_lt hb).2
theorem acc14 : Acc gw 14 F14 := by
  intro args B out h hC
  unfold F14 at h
  split at h
  · rename_i ks x K l
    split at h
    · rename_i lk n hk hx hK
      obtain rfl := kidx_inj hK
      simp only [Option.some.injEq] at h; subst h
      simp only [allC_cons, allC_nil, and_true] at hC
      obtain ⟨rfl, h1⟩ := hC
      refine FnOk.argsH (args' := [.agg (svF (List.replicate 32 .u8) (atL lk) 0), .sl 0 0 0 1 0 l.length false]) ?_ (fun w0 O ρ Φ w vs x d => by
        simp only [DenT] at d ⊢
        obtain ⟨v1, r1, rfl, d1, v2, r2, rfl, d2, rfl⟩ := d
        exact ⟨_, _, rfl, (nums_imp hk) _ _ _ _ d1, _, _, rfl, vwI_den hx x rfl d2, rfl⟩)
      refine FnOk.facts fun ⟨hf, _⟩ => ?_
      have hb : ∀ j, j < 32 → Byte (atL lk j) := fun j hj => by
        have e : (List.replicate 32 IntKind.u8)[j]? = some .u8 := by rw [List.getElem?_replicate, if_pos hj]
        have f1 := facts_svF hf j .u8 e
        rw [Nat.zero_add] at f1
        exact ⟨f1.1, by have := f1.2; show atL lk j < 256; exact Int.lt_of_le_of_lt this (by decide)⟩
      have hL := tg_loop
      refine FnOk.val (v := .agg (tagB (atL lk) l)) (C := []) (rd := []) ?_ (fun _ _ _ _ h => by rw [← dt_val]; exact h)
      exact FnOk.run (new := []) gw_ok (dt_run (atL lk) l.length l) (by
        simp only [allC_cons, allC_nil, and_true]
        exact ⟨hL, trivial, h1, kT_NG hb, by decide, NG_L.2 (NG_by (dS_lt _ _ _))⟩) (by simp [upto]) rfl (by simp) (by simp) (fun j hj => by
          match j, hj with
          | 0, _ => rfl)
    · simp at h
  · simp at h
noncomputable abbrev nwV (k : Nat → Int) : Body := .cells (nilR :: (svF (List.replicate 5 .u64) (clampN (loK k)) 0 ++ (List.replicate 5 (.lit .u64 0) ++ (svF (List.replicate 16 .u8) (fun j => k (16 + j)) 0 ++ (List.replicate 16 (.lit .u8 0) ++ [.lit .i64 0])))))
theorem nw_run (k : Nat → Int) : runF gp 300 [] 11 [nilR, .agg (svF (List.replicate 32 .u8) k 0)] [] [1] = some (.ptr 0 0, [some (nwV k)], []) := run_parts (by kernel_rfl) (by kernel_rfl) (by kernel_rfl)
end Go.Proofs.Ytejcjdhplpjpjaa

namespace Go.Proofs.Ytejcjdhplpjpjaa
open Go Go.Vx
/-! ### New; all accounts -/
noncomputable def F11 : SumF := fun args B => match args, B with
  | [.raw (.pointer none), .agg ks], [] => match numsAs (List.replicate 32 .u8) ks with
    | some lk => some { val := .ptr 0 0, new := [nwV (atL lk)] }
    | _ => none
  | _, _ => none
theorem acc11 : Acc gp 11 F11 := by
  intro args B out h hC
  unfold F11 at h
  split at h
  · split at h
    · rename_i lk hk
      simp only [Option.some.injEq] at h; subst h
      refine FnOk.imp (args' := [nilR, .agg (svF (List.replicate 32 .u8) (atL lk) 0)]) ?_ ⟨DenImp.refl _, nums_imp hk, trivial⟩
      exact FnOk.run (out := { val := .ptr 0 0, new := [nwV (atL lk)] }) (new := [1]) gp_ok (nw_run (atL lk)) (by simp [AllC]) (by simp [upto]) rfl (by simp) (by simp) (fun j hj => by
          match j, hj with
          | 0, _ => rfl)
    · simp at h
  · simp at h
noncomputable abbrev gn : Ctx := gw.add [(11, F11), (12, F12), (13, F13), (14, F14), (15, F15)]
theorem gn_ok : CtxU gn := gw_ok.add mixed noGo (by
  intro x hx
  simp only [List.mem_cons, List.not_mem_nil, or_false] at hx
  rcases hx with rfl | rfl | rfl | rfl | rfl
  · exact Acc.of (g := gp) rfl rfl acc11
  · exact acc12
  · exact acc13
  · exact acc14
  · exact Acc.of (g := gko) rfl rfl acc15)
/-! ### steps as rows -/
noncomputable abbrev rowY (p : Nat → Bool) (d : Nat → List Int) : Nat → SV := fun i => .agg [.sbool (p i), .roi .u8 (d i)]
def pOf (f : Nat → SV) (i : Nat) : Bool := match f i with | .agg [.sbool b, _] => b | _ => false
def dOf (f : Nat → SV) (i : Nat) : List Int := match f i with | .agg [_, .roi _ l] => l | _ => []
end Go.Proofs.Ytejcjdhplpjpjaa

namespace Go.Proofs.Ytejcjdhplpjpjaa
open Go Go.Vx
/-! ### MacNothing: the loop -/
abbrev noKeep : List Nat := [0, 3, 4, 5, 6]
noncomputable abbrev noBody : Code := bodyAt Try.prog 4 7
noncomputable abbrev noO (p : Nat → Bool) (d : Nat → List Int) (m : Nat) (i : Int) : List SV := [.ro 2 m (rowY p d), nilR, .ptr 0 0, .own 1, .int .i64 i]
noncomputable abbrev noS (p : Nat → Bool) (d : Nat → List Int) (m i : Nat) : List (Nat × SV) := noKeep.zip (noO p d m (i : Int))
noncomputable abbrev noB (a : Nat → Int) (x : List Int) : List Body := [macV nilR a, .ints .u8 x]
abbrev z32 : List Int := List.replicate 32 0
abbrev z16 : List Int := List.replicate 16 0
abbrev stC (m i : Nat) (x e : List Int) (b : Bool) : List Prop := [Fits .i64 (m : Int), decide ((i : Int) < (m : Int)) = true, (0 : Int) ≤ (i : Int) ∧ (i : Int) < (m : Int), Fits .i64 (131072 - (x.length : Int)), Fits .i64 (x.length : Int), Fits .i64 (e.length : Int), decide (131072 - (x.length : Int) < (e.length : Int)) = b]
theorem no_go0 (p : Nat → Bool) (d : Nat → List Int) (m i : Nat) (a : Nat → Int) (x : List Int) : runC gn 300 71 [.br true, .br false, .br false] noBody (noS p d m i) (noB a x) noKeep [0, 2] =
    some (.normal, noO p d m ((i : Int) + 1), (noB (wrA (n43 a) (d i)) (x ++ d i)).map some, stC m i x (d i) false ++ [0 ≤ n43 a 42 ∧ n43 a 42 < 16, (d i).length ≤ 140737488355328, (x ++ d i).length * 1 ≤ 2 ^ 47, p i = false, (0 : Int) ≤ (i : Int) ∧ (i : Int) < (m : Int), Fits .i64 ((i : Int) + 1)]) :=
  r3_parts4 (by kernel_rfl) (by kernel_rfl) (by kernel_rfl) (by kernel_rfl)
theorem no_go1 (p : Nat → Bool) (d : Nat → List Int) (m i : Nat) (a : Nat → Int) (x : List Int) : runC gn 300 71 [.br true, .br false, .br true, .br false, .br false] noBody (noS p d m i) (noB a x) noKeep [0, 2] =
    some (.normal, noO p d m ((i : Int) + 1), (noB (wrA (n43 a) (d i)) (x ++ d i)).map some, stC m i x (d i) false ++ [0 ≤ n43 a 42 ∧ n43 a 42 < 16, (d i).length ≤ 140737488355328, (x ++ d i).length * 1 ≤ 2 ^ 47, (x ++ d i).length = (x ++ d i).length, (x ++ d i).length ≤ 140737488355328, 0 ≤ n43 (wrA (n43 a) (d i)) 42 ∧ n43 (wrA (n43 a) (d i)) 42 < 16, (!decide (z16 = z16)) = false, p i = true, (0 : Int) ≤ (i : Int) ∧ (i : Int) < (m : Int),
      (!decide (listF 16 (tgN (n43 (wrA (n43 a) (d i)))) 0 = listF 16 (atL (dTag (kT (atL z32)) (atL (hiK (atL z32))) (x ++ d i))) 0)) = false, Fits .i64 ((i : Int) + 1)]) :=
  r3_parts4 (by kernel_rfl) (by kernel_rfl) (by kernel_rfl) (by kernel_rfl)
theorem no_long (p : Nat → Bool) (d : Nat → List Int) (m i : Nat) (a : Nat → Int) (x : List Int) : runC gn 300 71 [.br true, .br true] noBody (noS p d m i) (noB a x) [2] [0, 1] =
    some (.ret, [.bool true], (noB a x).map some, stC m i x (d i) true) :=
  r3_parts4 (by kernel_rfl) (by kernel_rfl) (by kernel_rfl) (by kernel_rfl)
theorem no_end (p : Nat → Bool) (d : Nat → List Int) (m i : Nat) (a : Nat → Int) (x : List Int) : runC gn 300 71 [.br false] noBody (noS p d m i) (noB a x) noKeep [0, 1] =
    some (.exit 0, noO p d m (i : Int), (noB a x).map some, [Fits .i64 (m : Int), decide ((i : Int) < (m : Int)) = false]) :=
  r3_parts4 (by kernel_rfl) (by kernel_rfl) (by kernel_rfl) (by kernel_rfl)
/-! what was taken -/
def xZ (d : Nat → List Int) : Nat → List Int
  | 0 => []
  | i + 1 => xZ d i ++ d i
noncomputable def aZ (a : Nat → Int) (d : Nat → List Int) : Nat → (Nat → Int)
  | 0 => a
  | i + 1 => wrA (n43 (aZ a d i)) (d i)
/-- the first i below m at which P holds, or m -/
def firstI (P : Nat → Bool) : Nat → Nat
  | 0 => 0
  | m + 1 => if firstI P m < m then firstI P m else if P m then m else m + 1
theorem firstI_spec (P : Nat → Bool) : ∀ m, firstI P m ≤ m ∧ (∀ i, i < firstI P m → P i = false) ∧ (firstI P m < m → P (firstI P m) = true)
  | 0 => ⟨Nat.le_refl _, fun i hi => absurd hi (Nat.not_lt_zero i), fun h => absurd h (Nat.lt_irrefl 0)⟩
  | m + 1 => by
    obtain ⟨h1, h2, h3⟩ := firstI_spec P m
    by_cases c : firstI P m < m
    · have e : firstI P (m + 1) = firstI P m := by simp only [firstI]; rw [if_pos c]
      rw [e]
      exact ⟨by omega, h2, fun _ => h3 c⟩
    · have em : firstI P m = m := by omega
      cases hp : P m with
      | true =>
        have e : firstI P (m + 1) = m := by simp only [firstI]; rw [if_neg c, hp]; rfl
        rw [e]
        exact ⟨by omega, fun i hi => h2 i (by omega), fun _ => hp⟩
      | false =>
        have e : firstI P (m + 1) = m + 1 := by simp only [firstI]; rw [if_neg c, hp]; rfl
        rw [e]
        refine ⟨Nat.le_refl _, fun i hi => ?_, fun h => absurd h (Nat.lt_irrefl _)⟩
        by_cases ci : i < m
        · exact h2 i (by omega)
        · rw [show i = m by omega]; exact hp
def stp (d : Nat → List Int) (m : Nat) : Nat := firstI (fun i => decide (131072 < (xZ d i).length + (d i).length)) m
theorem stp_le (d : Nat → List Int) (m : Nat) : stp d m ≤ m := (firstI_spec _ m).1
theorem stp_lt {d : Nat → List Int} {m i : Nat} (h : i < stp d m) : (xZ d i).length + (d i).length ≤ 131072 := by
  have := (firstI_spec _ m).2.1 i h
  have := of_decide_eq_false this
  omega
theorem stp_at {d : Nat → List Int} {m : Nat} (h : stp d m < m) : 131072 < (xZ d (stp d m)).length + (d (stp d m)).length := of_decide_eq_true ((firstI_spec _ m).2.2 h)
theorem xZ_len {d : Nat → List Int} {m : Nat} : ∀ i, i ≤ stp d m → (xZ d i).length ≤ 131072
  | 0, _ => by simp [xZ]
  | i + 1, h => by
    have := stp_lt (show i < stp d m by omega)
    simp only [xZ, List.length_append]; omega
theorem MS_43 {T : Int} {mk : Nat → Int} {X : List Int} {a : Nat → Int} (h : MS T mk X a) : MS T mk X (n43 a) := by
  obtain ⟨h1, h2, h3, h4, h5, h6⟩ := h
  exact ⟨by rw [byL_43]; exact h1, by rw [smL_43]; exact h2, fun j hj => by rw [n43_at (by omega)]; exact h3 j hj, fun j hj => by rw [n43_at (by omega)]; exact h4 j hj, by rw [n43_at (by omega)]; exact h5, h6⟩
theorem MS_h {T : Int} {mk : Nat → Int} {X : List Int} {a : Nat → Int} (h : MS T mk X a) : 0 ≤ a 42 ∧ a 42 < 16 := by
  have := h.held; omega
theorem bytes_of {l : List Int} (h : ∀ n ∈ l, Fits .u8 n) : Bytes l := fun j => by
  rw [List.getD_eq_getElem?_getD]
  cases e : l[j]? with
  | none => exact ⟨by decide, by decide⟩
  | some v =>
    have := h v (List.mem_of_getElem? e)
    exact ⟨this.1, Int.lt_of_le_of_lt this.2 (by decide)⟩
theorem MS_Z {T : Int} {mk : Nat → Int} {d : Nat → List Int} {m : Nat} {a : Nat → Int} (h0 : MS T mk [] a) (hd : ∀ i, i < m → Bytes (d i)) : ∀ i, i ≤ m → MS T mk (xZ d i) (aZ a d i)
  | 0, _ => h0
  | i + 1, h => MS_write (MS_43 (MS_Z h0 hd i (by omega))) (hd i (by omega))
theorem dTag_L (T : Int) (mk : Nat → Int) (X : List Int) : listF 16 (atL (dTag T mk X)) 0 = dTag T mk X := listF_eq0.2 fun j hj => by
  rw [dTag, atLF hj]
abbrev YB (d : Nat → List Int) (m : Nat) : Prop := ∀ i, i < m → Bytes (d i)
theorem rowY_bytes {f : Nat → SV} {m : Nat} (h : f = rowY (pOf f) (dOf f)) (hf : ∀ i, i < m → factsC (f i)) : YB (dOf f) m := fun i hi => by
  have := hf i hi
  rw [h] at this
  have h2 : factsL [.sbool (pOf f i), .roi .u8 (dOf f i)] := this
  exact bytes_of h2.2.1
end Go.Proofs.Ytejcjdhplpjpjaa

namespace Go.Proofs.Ytejcjdhplpjpjaa
open Go Go.Vx
/-! ### MacNothing -/
theorem idA (k : Nat) : ∀ j : Nat, j < 1 → ([0, k] : List Nat)[j]? = some j := fun j hj => by
  match j, hj with
  | 0, _ => rfl
abbrev zT : Int := kT (atL z32)
abbrev zM : Nat → Int := atL (hiK (atL z32))
theorem zM_byte (j : Nat) (_ : j < 16) : Byte (zM j) := by
  have : zM j = 0 := by
    show (listF 16 (fun j => atL z32 (16 + j)) 0).getD j 0 = 0
    rw [show listF 16 (fun j => atL z32 (16 + j)) 0 = List.replicate 16 (0 : Int) by decide, List.getD_eq_getElem?_getD, List.getElem?_replicate]
    split <;> rfl
  rw [this]; exact ⟨by decide, by decide⟩
theorem stC_ok {m i : Nat} {x e : List Int} {b : Bool} (Fm : Fits .i64 (m : Int)) (hi : i < m) (hx : x.length ≤ 131072) (he : Fits .i64 (e.length : Int)) (hb : decide (131072 < x.length + e.length) = b) : AllC (stC m i x e b) := by
  simp only [stC, allC_cons, allC_nil, and_true]
  refine ⟨Fm, decide_eq_true (by omega), ⟨by omega, by omega⟩, fits_of (by omega) (by omega), fits_of (by omega) (by omega), he, ?_⟩
  rw [← hb]
  exact decide_eq_decide.2 (by omega)
theorem no_round {w0 : World} {O : Go.Vx.Own} (hgl : GlobOk gn w0 O) (p : Nat → Bool) (d : Nat → List Int) (m : Nat) (a : Nat → Int) (h0 : MS zT zM [] a) (hd : YB d m) (Fm : Fits .i64 (m : Int)) (hm : m ≤ 400) (i : Nat) (hi : i < stp d m) :
    SimC gn.P w0 O 71 noBody (noS p d m i) (noB (aZ a d i) (xZ d i)) .normal (noS p d m (i + 1)) (noB (aZ a d (i + 1)) (xZ d (i + 1))) 1 := by
  have hle := stp_le d m
  have hl := stp_lt hi
  have hx := xZ_len (d := d) (m := m) i (by omega)
  have F1 : Fits .i64 ((i : Int) + 1) := fits_of (by omega) (by omega)
  have M := MS_43 (MS_Z h0 hd i (by omega))
  have M2 := MS_43 (MS_Z h0 hd (i + 1) (by omega))
  have hs : AllC (stC m i (xZ d i) (d i) false) := stC_ok Fm (by omega) hx (fits_of (by omega) (by omega)) (decide_eq_false (by omega))
  have hap : (xZ d i ++ d i).length = (xZ d i).length + (d i).length := List.length_append
  cases hp : p i with
  | false =>
    refine SimC.run (B' := noB (aZ a d (i + 1)) (xZ d (i + 1))) gn_ok (by decide) (no_go0 p d m i (aZ a d i) (xZ d i)) (allC_append.2 ⟨hs, ?_⟩) (by decide) (idA 2) (by decide) (by simp) hgl
    simp only [allC_cons, allC_nil, and_true]
    exact ⟨MS_h M, by omega, by omega, hp, ⟨by omega, by omega⟩, F1⟩
  | true =>
    refine SimC.run (B' := noB (aZ a d (i + 1)) (xZ d (i + 1))) gn_ok (by decide) (no_go1 p d m i (aZ a d i) (xZ d i)) (allC_append.2 ⟨hs, ?_⟩) (by decide) (idA 2) (by decide) (by simp) hgl
    simp only [allC_cons, allC_nil, and_true]
    have ht : listF 16 (tgN (n43 (wrA (n43 (aZ a d i)) (d i)))) 0 = listF 16 (atL (dTag zT zM (xZ d i ++ d i))) 0 := by
      rw [dTag_L]; exact MS_tag M2 zM_byte
    refine ⟨MS_h M, by omega, by omega, trivial, by omega, MS_h M2, by decide, hp, ⟨by omega, by omega⟩, ?_, F1⟩
    rw [decide_eq_true ht]; rfl
noncomputable def noG0 : LoopF := fun vals B => match vals, B with
  | [.ro 2 m f, .raw (.pointer none), .ptr 0 0, .raw (.slice none 0 0), .int .i64 0], [.cells ms] => match macAs ms, headK (ms.take 1) with
    | some la, .nil => some ([(3, nilR), (4, .ptr 0 0)], noB (aZ (atL la) (dOf f) m) (xZ (dOf f) m), [f = rowY (pOf f) (dOf f), Fits .i64 (m : Int), ∀ i, i < m → factsC (f i), m ≤ 400, MS zT zM [] (atL la), stp (dOf f) m = m])
    | _, _ => none
  | _, _ => none
noncomputable def noG1 : LoopF := fun vals B => match vals, B with
  | [.ro 2 m f, .raw (.pointer none), .ptr 0 0, .raw (.slice none 0 0), .int .i64 0], [.cells ms] => match macAs ms, headK (ms.take 1) with
    | some la, .nil => some ([(2, .bool true)], noB (aZ (atL la) (dOf f) (stp (dOf f) m)) (xZ (dOf f) (stp (dOf f) m)), [f = rowY (pOf f) (dOf f), Fits .i64 (m : Int), ∀ i, i < m → factsC (f i), m ≤ 400, MS zT zM [] (atL la), stp (dOf f) m < m, Fits .i64 ((dOf f (stp (dOf f) m)).length : Int)])
    | _, _ => none
  | _, _ => none
theorem no_loop0 : LoopGood gn 71 (.loop noBody) noKeep 1 (.exit 0) (mkLoopN noG0) := by
  refine LoopGood.mkN (by decide) fun vals B S' B' C hG hC hlen w0 O hgl => ?_
  clear hlen
  unfold noG0 at hG
  split at hG
  · rename_i m f ms
    split at hG
    · rename_i la ha hr
      have hr := head_nil hr
      simp only [Option.some.injEq, Prod.mk.injEq] at hG
      obtain ⟨rfl, rfl, rfl⟩ := hG
      simp only [allC_cons, allC_nil, and_true] at hC
      obtain ⟨hf, Fm, hff, hm, h0, hN⟩ := hC
      have hd := rowY_bytes hf hff
      generalize pOf f = p at *
      generalize hdd : dOf f = d at *
      rw [hf]
      clear hf hff hdd
      refine SimC.preI (B1 := [macV nilR (atL la)]) ?_ ⟨cells_mac ha hr rfl, trivial⟩
      refine SimC.adoptS (.ints .u8 []) 5 rfl rfl (by simp) (by simp) ?_
      show SimC _ _ _ _ _ (noS p d m 0) (noB (aZ (atL la) d 0) (xZ d 0)) _ _ _ _
      refine SimC.iter (g := gn) (e := .exit 0) (S := fun i => noS p d m i) (B := fun i => noB (aZ (atL la) d i) (xZ d i)) (N := m) (fun i hi => no_round hgl p d m (atL la) h0 hd Fm hm i (by omega)) ?_ (by simp) 0 (by omega)
      exact SimC.weaken (SimC.run (B' := noB (aZ (atL la) d m) (xZ d m)) gn_ok (by decide) (no_end p d m m _ _) (by simp only [allC_cons, allC_nil, and_true]; exact ⟨Fm, decide_eq_false (by omega)⟩) (by decide) (idA 1) (by decide) (by simp) hgl) (sub_mkT (by simp; exact ⟨rfl, rfl⟩))
    · simp at hG
  · simp at hG
theorem no_loop1 : LoopGood gn 71 (.loop noBody) noKeep 1 .ret (mkLoopN noG1) := by
  refine LoopGood.mkN (by decide) fun vals B S' B' C hG hC hlen w0 O hgl => ?_
  clear hlen
  unfold noG1 at hG
  split at hG
  · rename_i m f ms
    split at hG
    · rename_i la ha hr
      have hr := head_nil hr
      simp only [Option.some.injEq, Prod.mk.injEq] at hG
      obtain ⟨rfl, rfl, rfl⟩ := hG
      simp only [allC_cons, allC_nil, and_true] at hC
      obtain ⟨hf, Fm, hff, hm, h0, hN, Fl⟩ := hC
      have hd := rowY_bytes hf hff
      generalize pOf f = p at *
      generalize hdd : dOf f = d at *
      rw [hf]
      clear hf hff hdd
      refine SimC.preI (B1 := [macV nilR (atL la)]) ?_ ⟨cells_mac ha hr rfl, trivial⟩
      refine SimC.adoptS (.ints .u8 []) 5 rfl rfl (by simp) (by simp) ?_
      show SimC _ _ _ _ _ (noS p d m 0) (noB (aZ (atL la) d 0) (xZ d 0)) _ _ _ _
      refine SimC.iter (g := gn) (e := .ret) (S := fun i => noS p d m i) (B := fun i => noB (aZ (atL la) d i) (xZ d i)) (N := stp d m) (fun i hi => no_round hgl p d m (atL la) h0 hd Fm hm i hi) ?_ (by simp) 0 (by omega)
      exact SimC.weaken (SimC.run (B' := noB (aZ (atL la) d (stp d m)) (xZ d (stp d m))) gn_ok (by decide) (no_long p d m (stp d m) _ _) (stC_ok Fm hN (xZ_len _ (Nat.le_refl _)) Fl (decide_eq_true (stp_at hN))) (by decide) (idA 1) (by decide) (by simp) hgl) (sub_mkT (by simp; exact rfl))
    · simp at hG
  · simp at hG
abbrev z43 : List Int := List.replicate 43 0
theorem MS_z : MS zT zM [] (atL z43) := by
  have hz : ∀ j, j < 43 → atL z43 j = 0 := fun j hj => by
    show (List.replicate 43 (0 : Int)).getD j 0 = 0
    rw [List.getD_eq_getElem?_getD, List.getElem?_replicate, if_pos hj]; rfl
  have hi : Is (L5 fun _ => 0) 0 := ⟨⟨by decide, by decide, by decide, by decide, by decide⟩, by decide⟩
  refine ⟨?_, ?_, fun j hj => ?_, fun j hj => ?_, hz 42 (by omega), fun j => ⟨Int.le_refl 0, by show (0 : Int) < 256; decide⟩⟩
  · rw [show zT = 0 by decide +kernel, show byL (atL z43) = L5 (fun _ => 0) from listF_eq0.2 fun j hj => hz j (by omega)]; exact hi
  · rw [show smL (atL z43) = L5 (fun _ => 0) from listF_eq0.2 fun j hj => hz _ (by omega)]; exact hi
  · rw [hz _ (by omega)]
    have e : listF 16 (fun j => atL z32 (16 + j)) 0 = List.replicate 16 (0 : Int) := by decide
    show _ = (listF 16 (fun j => atL z32 (16 + j)) 0).getD j 0
    rw [e, List.getD_eq_getElem?_getD, List.getElem?_replicate, if_pos hj]; rfl
  · rw [hz _ (by omega), if_neg (by simp)]
end Go.Proofs.Ytejcjdhplpjpjaa

namespace Go.Proofs.Ytejcjdhplpjpjaa
open Go Go.Vx
/-! ### MacTwo: a third Mac; the loop's runs -/
noncomputable abbrev w1V (v : Int) (a : Nat → Int) : Body := .cells (nilR :: (svF (List.replicate 5 .u64 ++ List.replicate 5 .u64 ++ List.replicate 16 .u8 ++ List.replicate 16 .u8) (fun j => bif Nat.beq j 26 then v else a j) 0 ++ [.lit .i64 1]))
theorem w1_run (v : Int) (a : Nat → Int) : runF gw 400 [.br false, .br false, .br true] 12 [.ptr 0 0, .sl 1 1 0 1 0 1 true] [macV nilR a, .cells [.int .u8 v]] [] =
    some (.tuple [], [some (w1V v a), some (.cells [.int .u8 v])], [decide (0 < a 42) = false, false = false, true = true]) :=
  run_parts (by kernel_rfl) (by kernel_rfl) (by kernel_rfl)
noncomputable def F12c : SumF := fun args B => match args, B with
  | [.ptr 0 0, .sl 1 1 0 1 0 1 true], [.cells ms, .cells bs] => match macAs ms, headK (ms.take 1), numsAs [.u8] bs with
    | some la, .nil, some [v] => some { val := .tuple [], upd := [(0, some (w1V v (atL la))), (1, some (.cells [.int .u8 v]))], C := [atL la 42 = 0] }
    | _, _, _ => none
  | _, _ => none
theorem acc12c : Acc gw 12 F12c := by
  intro args B out h hC
  unfold F12c at h
  split at h
  · rename_i ms bs
    split at h
    · rename_i la v ha hr hb
      have hr := head_nil hr
      simp only [Option.some.injEq] at h; subst h
      simp only [allC_cons, allC_nil, and_true] at hC
      refine FnOk.preB (B' := [macV nilR (atL la), .cells [.int .u8 v]]) ?_ ⟨cells_mac ha hr rfl, cells_nums hb, trivial⟩ (fun j => by
        match j with
        | 0 => rfl
        | 1 => rfl
        | j + 2 => rfl)
      exact FnOk.val (C := []) (rd := []) (FnOk.run (new := []) gw_ok (w1_run v (atL la)) (by simp only [allC_cons, allC_nil, and_true]; exact decide_eq_false (by omega)) (by simp [upto]) rfl (by simp) (by simp) (fun j hj => by
          match j, hj with
          | 0, _ => rfl
          | 1, _ => rfl)) (fun _ _ _ _ h => h)
    · simp at h
  · simp at h
noncomputable def oneOf (F G : SumF) : SumF := fun args B => match F args B with
  | some o => some o
  | none => G args B
theorem acc_one {g : Ctx} {f : FuncId} {F G : SumF} (hF : Acc g f F) (hG : Acc g f G) : Acc g f (oneOf F G) := by
  intro args B out h hC
  unfold oneOf at h
  split at h
  · rename_i o e
    simp only [Option.some.injEq] at h; subst h
    exact hF _ _ _ e hC
  · exact hG _ _ _ h hC
noncomputable abbrev gt : Ctx := gw.add [(11, F11), (12, oneOf F12 F12c), (13, F13), (14, F14), (15, F15)]
theorem gt_ok : CtxU gt := gw_ok.add mixed noGo (by
  intro x hx
  simp only [List.mem_cons, List.not_mem_nil, or_false] at hx
  rcases hx with rfl | rfl | rfl | rfl | rfl
  · exact Acc.of (g := gp) rfl rfl acc11
  · exact acc_one acc12 acc12c
  · exact acc13
  · exact acc14
  · exact Acc.of (g := gko) rfl rfl acc15)
abbrev twKeep : List Nat := [2, 3, 4, 7, 8, 9, 10, 11]
noncomputable abbrev twBody : Code := bodyAt Try.prog 3 10
noncomputable abbrev twO (p : Nat → Bool) (d : Nat → List Int) (m : Nat) (i : Int) : List SV := [.ro 2 m (rowY p d), .ptr 0 0, .ptr 1 0, .ptr 2 0, .ptr 3 0, .own 4, .own 5, .int .i64 i]
noncomputable abbrev twS (p : Nat → Bool) (d : Nat → List Int) (m i : Nat) : List (Nat × SV) := twKeep.zip (twO p d m (i : Int))
noncomputable abbrev twB (k l a b : Nat → Int) (x y : List Int) : List Body := [.cells (svF (List.replicate 32 .u8) k 0), .cells (svF (List.replicate 32 .u8) l 0), macV nilR a, macV nilR b, .ints .u8 x, .ints .u8 y]
end Go.Proofs.Ytejcjdhplpjpjaa

namespace Go.Proofs.Ytejcjdhplpjpjaa
open Go Go.Vx
/-! ### MacTwo: a round -/
abbrev kk (k : Nat → Int) : Nat → Int := atL (listF 32 k 0)
abbrev Tg (a : Nat → Int) : List Int := listF 16 (tgN (n43 a)) 0
abbrev Dg (k : Nat → Int) (x : List Int) : List Int := listF 16 (atL (dTag (kT (kk k)) (atL (hiK (kk k))) x)) 0
abbrev st2 (m i : Nat) (x y e : List Int) (b : Bool) : List Prop := [Fits .i64 (m : Int), decide ((i : Int) < (m : Int)) = true, (0 : Int) ≤ (i : Int) ∧ (i : Int) < (m : Int), Fits .i64 (131072 - (x.length : Int) - (y.length : Int)), Fits .i64 (y.length : Int), Fits .i64 (131072 - (x.length : Int)), Fits .i64 (x.length : Int), Fits .i64 (e.length : Int), decide (131072 - (x.length : Int) - (y.length : Int) < (e.length : Int)) = b]
noncomputable abbrev wr2 (i : Nat) (b : Bool) (a : Nat → Int) (x e : List Int) : List Prop := [decide ((i : Int).tmod 2 = 0) = b, 0 ≤ n43 a 42 ∧ n43 a 42 < 16, e.length ≤ 140737488355328, (x ++ e).length * 1 ≤ 2 ^ 47]
abbrev th2 (i : Nat) : Bool → List Prop
  | true => [decide ((i : Int) = 1) = true, (0 : Int) = 0, (0 : Int) ≤ 1 ∧ (1 : Int) < 16]
  | false => [decide ((i : Int) = 1) = false]
noncomputable abbrev ask2 (m i : Nat) (p : Nat → Bool) (k l a b : Nat → Int) (x y : List Int) : Bool → List Prop
  | true => [y.length = y.length, y.length ≤ 140737488355328, 0 ≤ n43 b 42 ∧ n43 b 42 < 16, (!decide (Tg a = Dg k x)) = false, x.length = x.length, x.length ≤ 140737488355328, 0 ≤ n43 a 42 ∧ n43 a 42 < 16, p i = true, (0 : Int) ≤ (i : Int) ∧ (i : Int) < (m : Int), (!decide (Tg b = Dg l y)) = false]
  | false => [p i = false, (0 : Int) ≤ (i : Int) ∧ (i : Int) < (m : Int)]
noncomputable abbrev twE (p : Nat → Bool) (d : Nat → List Int) (m i : Nat) (k l a b : Nat → Int) (x y : List Int) (q : Bool) : Prop :=
  runC gt 300 109 (bif q then [.br true, .br false, .br true, .br false, .br true, .br false, .br false, .br false] else [.br true, .br false, .br true, .br false, .br false]) twBody (twS p d m i) (twB k l a b x y) twKeep [0, 1, 2, 3, 6, 5] =
    some (.normal, twO p d m ((i : Int) + 1), (twB k l (wrA (n43 a) (d i)) b (x ++ d i) y).map some, st2 m i x y (d i) false ++ (wr2 i true a x (d i) ++ (th2 i false ++ (ask2 m i p k l (wrA (n43 a) (d i)) b (x ++ d i) y q ++ [Fits .i64 ((i : Int) + 1)]))))
theorem tw_e0 (p : Nat → Bool) (d : Nat → List Int) (m i : Nat) (k l a b : Nat → Int) (x y : List Int) : twE p d m i k l a b x y false := r3_parts4 (by kernel_rfl) (by kernel_rfl) (by kernel_rfl) (by kernel_rfl)
theorem tw_e1 (p : Nat → Bool) (d : Nat → List Int) (m i : Nat) (k l a b : Nat → Int) (x y : List Int) : twE p d m i k l a b x y true := r3_parts4 (by kernel_rfl) (by kernel_rfl) (by kernel_rfl) (by kernel_rfl)
noncomputable abbrev twP (p : Nat → Bool) (d : Nat → List Int) (m i : Nat) (k l a b : Nat → Int) (x y : List Int) (t q : Bool) : Prop :=
  runC gt 300 109 ([.br true, .br false, .br false, .br t] ++ (bif q then [.br true, .br false, .br false, .br false] else [.br false])) twBody (twS p d m i) (twB k l a b x y) twKeep [0, 1, 2, 3, 4, 6] =
    some (.normal, twO p d m ((i : Int) + 1), (twB k l a (wrA (n43 b) (d i)) x (y ++ d i)).map some, st2 m i x y (d i) false ++ (wr2 i false b y (d i) ++ (th2 i t ++ (ask2 m i p k l a (wrA (n43 b) (d i)) x (y ++ d i) q ++ [Fits .i64 ((i : Int) + 1)]))))
theorem tw_p00 (p : Nat → Bool) (d : Nat → List Int) (m i : Nat) (k l a b : Nat → Int) (x y : List Int) : twP p d m i k l a b x y false false := r3_parts4 (by kernel_rfl) (by kernel_rfl) (by kernel_rfl) (by kernel_rfl)
theorem tw_p01 (p : Nat → Bool) (d : Nat → List Int) (m i : Nat) (k l a b : Nat → Int) (x y : List Int) : twP p d m i k l a b x y false true := r3_parts4 (by kernel_rfl) (by kernel_rfl) (by kernel_rfl) (by kernel_rfl)
theorem tw_p10 (p : Nat → Bool) (d : Nat → List Int) (m i : Nat) (k l a b : Nat → Int) (x y : List Int) : twP p d m i k l a b x y true false := r3_parts4 (by kernel_rfl) (by kernel_rfl) (by kernel_rfl) (by kernel_rfl)
theorem tw_p11 (p : Nat → Bool) (d : Nat → List Int) (m i : Nat) (k l a b : Nat → Int) (x y : List Int) : twP p d m i k l a b x y true true := r3_parts4 (by kernel_rfl) (by kernel_rfl) (by kernel_rfl) (by kernel_rfl)
theorem tw_long (p : Nat → Bool) (d : Nat → List Int) (m i : Nat) (k l a b : Nat → Int) (x y : List Int) : runC gt 300 109 [.br true, .br true] twBody (twS p d m i) (twB k l a b x y) [6] [0, 1, 2, 3, 4, 5] =
    some (.ret, [.bool true], (twB k l a b x y).map some, st2 m i x y (d i) true) := r3_parts4 (by kernel_rfl) (by kernel_rfl) (by kernel_rfl) (by kernel_rfl)
theorem tw_end (p : Nat → Bool) (d : Nat → List Int) (m i : Nat) (k l a b : Nat → Int) (x y : List Int) : runC gt 300 109 [.br false] twBody (twS p d m i) (twB k l a b x y) twKeep [0, 1, 2, 3, 4, 5] =
    some (.exit 0, twO p d m (i : Int), (twB k l a b x y).map some, [Fits .i64 (m : Int), decide ((i : Int) < (m : Int)) = false]) := r3_parts4 (by kernel_rfl) (by kernel_rfl) (by kernel_rfl) (by kernel_rfl)
end Go.Proofs.Ytejcjdhplpjpjaa

namespace Go.Proofs.Ytejcjdhplpjpjaa
open Go Go.Vx
/-! ### MacTwo: the loop -/
def xQ (q : Nat) (d : Nat → List Int) : Nat → List Int
  | 0 => []
  | i + 1 => if i % 2 = q then xQ q d i ++ d i else xQ q d i
noncomputable def aQ (q : Nat) (a : Nat → Int) (d : Nat → List Int) : Nat → (Nat → Int)
  | 0 => a
  | i + 1 => if i % 2 = q then wrA (n43 (aQ q a d i)) (d i) else aQ q a d i
theorem MS_Q {T : Int} {mk : Nat → Int} {d : Nat → List Int} {m : Nat} {a : Nat → Int} (q : Nat) (h0 : MS T mk [] a) (hd : YB d m) : ∀ i, i ≤ m → MS T mk (xQ q d i) (aQ q a d i)
  | 0, _ => h0
  | i + 1, h => by
    have ih := MS_Q q h0 hd i (by omega)
    simp only [xQ, aQ]
    split
    · exact MS_write (MS_43 ih) (hd i (by omega))
    · exact ih
def sp2 (d : Nat → List Int) (m : Nat) : Nat := firstI (fun i => decide (131072 < (xQ 0 d i).length + (xQ 1 d i).length + (d i).length)) m
theorem sp2_le (d : Nat → List Int) (m : Nat) : sp2 d m ≤ m := (firstI_spec _ m).1
theorem sp2_lt {d : Nat → List Int} {m i : Nat} (h : i < sp2 d m) : (xQ 0 d i).length + (xQ 1 d i).length + (d i).length ≤ 131072 := by
  have := (firstI_spec _ m).2.1 i h
  have := of_decide_eq_false this
  omega
theorem sp2_at {d : Nat → List Int} {m : Nat} (h : sp2 d m < m) : 131072 < (xQ 0 d (sp2 d m)).length + (xQ 1 d (sp2 d m)).length + (d (sp2 d m)).length := of_decide_eq_true ((firstI_spec _ m).2.2 h)
theorem xQ_len {d : Nat → List Int} {m : Nat} : ∀ i, i ≤ sp2 d m → (xQ 0 d i).length + (xQ 1 d i).length ≤ 131072
  | 0, _ => by simp [xQ]
  | i + 1, h => by
    have := sp2_lt (show i < sp2 d m by omega)
    have h2 : i % 2 < 2 := Nat.mod_lt _ (by decide)
    by_cases c : i % 2 = 0
    · simp only [xQ, if_pos c, if_neg (show ¬ i % 2 = 1 by omega), List.length_append]; omega
    · simp only [xQ, if_neg c, if_pos (show i % 2 = 1 by omega), List.length_append]; omega
theorem st2_ok {m i : Nat} {x y e : List Int} {b : Bool} (Fm : Fits .i64 (m : Int)) (hi : i < m) (hx : x.length + y.length ≤ 131072) (he : Fits .i64 (e.length : Int)) (hb : decide (131072 < x.length + y.length + e.length) = b) : AllC (st2 m i x y e b) := by
  simp only [st2, allC_cons, allC_nil, and_true]
  refine ⟨Fm, decide_eq_true (by omega), ⟨by omega, by omega⟩, fits_of (by omega) (by omega), fits_of (by omega) (by omega), fits_of (by omega) (by omega), fits_of (by omega) (by omega), he, ?_⟩
  rw [← hb]
  exact decide_eq_decide.2 (by omega)
abbrev KB (k : Nat → Int) : Prop := ∀ j, j < 32 → Byte (k j)
theorem hiB {k : Nat → Int} (h : KB k) : ∀ j, j < 16 → Byte (atL (hiK (kk k)) j) := fun j hj => by
  rw [show atL (hiK (kk k)) j = kk k (16 + j) from atLF hj, show kk k (16 + j) = k (16 + j) from atLF (by omega)]; exact h _ (by omega)
abbrev MK (k : Nat → Int) (x : List Int) (a : Nat → Int) : Prop := MS (kT (kk k)) (atL (hiK (kk k))) x a
theorem tag_eq {k : Nat → Int} {x : List Int} {a : Nat → Int} (hk : KB k) (h : MK k x a) : (!decide (Tg a = Dg k x)) = false := by
  have : Tg a = Dg k x := by
    show listF 16 (tgN (n43 a)) 0 = listF 16 (atL (dTag _ _ x)) 0
    rw [dTag_L]; exact MS_tag (MS_43 h) (hiB hk)
  rw [decide_eq_true this]; rfl
theorem ask2_ok {m i : Nat} {p : Nat → Bool} {k l a b : Nat → Int} {x y : List Int} {q : Bool} (hk : KB k) (hl : KB l) (ha : MK k x a) (hb : MK l y b) (hx : x.length + y.length ≤ 131072) (hi : i < m) (hp : p i = q) : AllC (ask2 m i p k l a b x y q) := by
  cases q with
  | false => simp only [ask2, allC_cons, allC_nil, and_true]; exact ⟨hp, by omega, by omega⟩
  | true =>
    simp only [ask2, allC_cons, allC_nil, and_true]
    exact ⟨trivial, by omega, MS_h (MS_43 hb), tag_eq hk ha, trivial, by omega, MS_h (MS_43 ha), hp, ⟨by omega, by omega⟩, tag_eq hl hb⟩
theorem wr2_ok {i : Nat} {b : Bool} {a : Nat → Int} {x e : List Int} {T : Int} {mk : Nat → Int} (h : MS T mk x a) (hb : decide (i % 2 = 0) = b) (hx : x.length + e.length ≤ 131072) : AllC (wr2 i b a x e) := by
  have hap : (x ++ e).length = x.length + e.length := List.length_append
  simp only [wr2, allC_cons, allC_nil, and_true]
  refine ⟨?_, MS_h (MS_43 h), by omega, by omega⟩
  rw [← hb]
  have e : (i : Int).tmod 2 = ((i % 2 : Nat) : Int) := rfl
  rw [e]
  exact decide_eq_decide.2 (by omega)
noncomputable abbrev twZ (d : Nat → List Int) (k l a b : Nat → Int) (i : Nat) : List Body := twB k l (aQ 0 a d i) (aQ 1 b d i) (xQ 0 d i) (xQ 1 d i)
theorem idD (k l : Nat) : ∀ j : Nat, j < 4 → ([0, 1, 2, 3, k, l] : List Nat)[j]? = some j := fun j hj => by
  match j, hj with
  | 0, _ => rfl
  | 1, _ => rfl
  | 2, _ => rfl
  | 3, _ => rfl
theorem tw_round {w0 : World} {O : Go.Vx.Own} (hgl : GlobOk gt w0 O) (p : Nat → Bool) (d : Nat → List Int) (m : Nat) (k l a b : Nat → Int) (hk : KB k) (hl : KB l) (h0 : MK k [] a) (h1 : MK l [] b) (hd : YB d m) (Fm : Fits .i64 (m : Int)) (hm : m ≤ 400) (i : Nat) (hi : i < sp2 d m) :
    SimC gt.P w0 O 109 twBody (twS p d m i) (twZ d k l a b i) .normal (twS p d m (i + 1)) (twZ d k l a b (i + 1)) 4 := by
  have hle := sp2_le d m
  have hs := sp2_lt hi
  have hx := xQ_len (d := d) (m := m) i (by omega)
  have hx1 := xQ_len (d := d) (m := m) (i + 1) (by omega)
  have F1 : AllC [Fits .i64 ((i : Int) + 1)] := by simp only [allC_cons, allC_nil, and_true]; exact fits_of (by omega) (by omega)
  have A := MS_Q 0 h0 hd i (by omega)
  have B := MS_Q 1 h1 hd i (by omega)
  have A1 := MS_Q 0 h0 hd (i + 1) (by omega)
  have B1 := MS_Q 1 h1 hd (i + 1) (by omega)
  have hst : AllC (st2 m i (xQ 0 d i) (xQ 1 d i) (d i) false) := st2_ok Fm (by omega) hx (fits_of (by omega) (by omega)) (decide_eq_false (by omega))
  by_cases c : i % 2 = 0
  · have c1 : ¬ i % 2 = 1 := by omega
    have eB : twZ d k l a b (i + 1) = twB k l (wrA (n43 (aQ 0 a d i)) (d i)) (aQ 1 b d i) (xQ 0 d i ++ d i) (xQ 1 d i) := by
      simp only [twZ, aQ, xQ, if_pos c, if_neg c1]
    simp only [xQ, aQ, if_pos c, if_neg c1] at A1 B1 hx1
    rw [eB]
    have hr : ∀ q, twE p d m i k l (aQ 0 a d i) (aQ 1 b d i) (xQ 0 d i) (xQ 1 d i) q := fun q => by
      cases q with
      | false => exact tw_e0 ..
      | true => exact tw_e1 ..
    refine SimC.run (B' := twB k l (wrA (n43 (aQ 0 a d i)) (d i)) (aQ 1 b d i) (xQ 0 d i ++ d i) (xQ 1 d i)) gt_ok (by decide) (hr (p i)) ?_ (by decide) (idD 6 5) (by decide) (by simp) hgl
    refine allC_append.2 ⟨hst, allC_append.2 ⟨wr2_ok A (decide_eq_true c) (by omega), allC_append.2 ⟨?_, allC_append.2 ⟨ask2_ok hk hl A1 B1 hx1 (by omega) rfl, F1⟩⟩⟩⟩
    simp only [th2, allC_cons, allC_nil, and_true]; exact decide_eq_false (by omega)
  · have c1 : i % 2 = 1 := by omega
    have eB : twZ d k l a b (i + 1) = twB k l (aQ 0 a d i) (wrA (n43 (aQ 1 b d i)) (d i)) (xQ 0 d i) (xQ 1 d i ++ d i) := by
      simp only [twZ, aQ, xQ, if_pos c1, if_neg c]
    simp only [xQ, aQ, if_pos c1, if_neg c] at A1 B1 hx1
    rw [eB]
    have hr : ∀ t q, twP p d m i k l (aQ 0 a d i) (aQ 1 b d i) (xQ 0 d i) (xQ 1 d i) t q := fun t q => by
      cases t <;> cases q
      · exact tw_p00 ..
      · exact tw_p01 ..
      · exact tw_p10 ..
      · exact tw_p11 ..
    refine SimC.run (B' := twB k l (aQ 0 a d i) (wrA (n43 (aQ 1 b d i)) (d i)) (xQ 0 d i) (xQ 1 d i ++ d i)) gt_ok (by decide) (hr (decide (i = 1)) (p i)) ?_ (by decide) (idD 4 6) (by decide) (by simp) hgl
    refine allC_append.2 ⟨hst, allC_append.2 ⟨wr2_ok B (decide_eq_false c) (by omega), allC_append.2 ⟨?_, allC_append.2 ⟨ask2_ok hk hl A1 B1 hx1 (by omega) rfl, F1⟩⟩⟩⟩
    by_cases c2 : i = 1
    · rw [decide_eq_true c2]
      simp only [th2, allC_cons, allC_nil, and_true]
      exact ⟨decide_eq_true (by omega), by decide, by decide⟩
    · rw [decide_eq_false c2]
      simp only [th2, allC_cons, allC_nil, and_true]
      exact decide_eq_false (by omega)
end Go.Proofs.Ytejcjdhplpjpjaa

namespace Go.Proofs.Ytejcjdhplpjpjaa
open Go Go.Vx
noncomputable abbrev twC (f : Nat → SV) (m : Nat) (lk ll la lb : List Int) : List Prop := [f = rowY (pOf f) (dOf f), Fits .i64 (m : Int), ∀ i, i < m → factsC (f i), m ≤ 400, KB (atL lk), KB (atL ll), MK (atL lk) [] (atL la), MK (atL ll) [] (atL lb)]
noncomputable def twG0 : LoopF := fun vals B => match vals, B with
  | [.ro 2 m f, .ptr 0 0, .ptr 1 0, .ptr 2 0, .ptr 3 0, .raw (.slice none 0 0), .raw (.slice none 0 0), .int .i64 0], [.cells c1, .cells c2, .cells m1, .cells m2] =>
    match numsAs (List.replicate 32 .u8) c1, numsAs (List.replicate 32 .u8) c2, macAs m1, headK (m1.take 1), macAs m2, headK (m2.take 1) with
    | some lk, some ll, some la, .nil, some lb, .nil => some ([(3, .ptr 0 0), (4, .ptr 1 0), (7, .ptr 2 0), (8, .ptr 3 0), (9, .own 4), (10, .own 5)], twZ (dOf f) (atL lk) (atL ll) (atL la) (atL lb) m, twC f m lk ll la lb ++ [sp2 (dOf f) m = m])
    | _, _, _, _, _, _ => none
  | _, _ => none
noncomputable def twG1 : LoopF := fun vals B => match vals, B with
  | [.ro 2 m f, .ptr 0 0, .ptr 1 0, .ptr 2 0, .ptr 3 0, .raw (.slice none 0 0), .raw (.slice none 0 0), .int .i64 0], [.cells c1, .cells c2, .cells m1, .cells m2] =>
    match numsAs (List.replicate 32 .u8) c1, numsAs (List.replicate 32 .u8) c2, macAs m1, headK (m1.take 1), macAs m2, headK (m2.take 1) with
    | some lk, some ll, some la, .nil, some lb, .nil => some ([(6, .bool true)], twZ (dOf f) (atL lk) (atL ll) (atL la) (atL lb) (sp2 (dOf f) m), twC f m lk ll la lb ++ [sp2 (dOf f) m < m, Fits .i64 ((dOf f (sp2 (dOf f) m)).length : Int)])
    | _, _, _, _, _, _ => none
  | _, _ => none
theorem tw_loop0 : LoopGood gt 109 (.loop twBody) twKeep 4 (.exit 0) (mkLoopN twG0) := by
  refine LoopGood.mkN (by decide) fun vals B S' B' C hG hC hlen w0 O hgl => ?_
  clear hlen
  unfold twG0 at hG
  split at hG
  · rename_i m f c1 c2 m1 m2
    split at hG
    · rename_i lk ll la lb h1 h2 h3 r3 h4 r4
      have r3 := head_nil r3
      have r4 := head_nil r4
      simp only [Option.some.injEq, Prod.mk.injEq] at hG
      obtain ⟨rfl, rfl, rfl⟩ := hG
      simp only [twC, allC_append, allC_cons, allC_nil, and_true] at hC
      obtain ⟨⟨hf, Fm, hff, hm, k1, k2, a1, a2⟩, hN⟩ := hC
      have hd := rowY_bytes hf hff
      generalize pOf f = p at *
      generalize hdd : dOf f = d at *
      rw [hf]
      clear hf hff hdd
      refine SimC.preI (B1 := [.cells (svF (List.replicate 32 .u8) (atL lk) 0), .cells (svF (List.replicate 32 .u8) (atL ll) 0), macV nilR (atL la), macV nilR (atL lb)]) ?_ ⟨cells_nums h1, cells_nums h2, cells_mac h3 r3 rfl, cells_mac h4 r4 rfl, trivial⟩
      refine SimC.adoptS (.ints .u8 []) 9 rfl rfl (by simp) (by simp) ?_
      show SimC _ _ _ _ _ (twKeep.zip [.ro 2 m (rowY p d), .ptr 0 0, .ptr 1 0, .ptr 2 0, .ptr 3 0, .own 4, .raw (.slice none 0 0), .int .i64 0]) _ _ _ _ _
      refine SimC.adoptS (.ints .u8 []) 10 rfl rfl (by simp) (by simp) ?_
      show SimC _ _ _ _ _ (twS p d m 0) (twZ d (atL lk) (atL ll) (atL la) (atL lb) 0) _ _ _ _
      refine SimC.iter (g := gt) (e := .exit 0) (S := fun i => twS p d m i) (B := fun i => twZ d (atL lk) (atL ll) (atL la) (atL lb) i) (N := m) (fun i hi => tw_round hgl p d m _ _ _ _ k1 k2 a1 a2 hd Fm hm i (by omega)) ?_ (by simp) 0 (by omega)
      exact SimC.weaken (SimC.run (B' := twZ d (atL lk) (atL ll) (atL la) (atL lb) m) gt_ok (by decide) (tw_end p d m m _ _ _ _ _ _) (by simp only [allC_cons, allC_nil, and_true]; exact ⟨Fm, decide_eq_false (by omega)⟩) (by decide) (idD 4 5) (by decide) (by simp) hgl) (sub_mkT (by simp; exact ⟨rfl, rfl, rfl, rfl, rfl, rfl⟩))
    · simp at hG
  · simp at hG
theorem tw_loop1 : LoopGood gt 109 (.loop twBody) twKeep 4 .ret (mkLoopN twG1) := by
  refine LoopGood.mkN (by decide) fun vals B S' B' C hG hC hlen w0 O hgl => ?_
  clear hlen
  unfold twG1 at hG
  split at hG
  · rename_i m f c1 c2 m1 m2
    split at hG
    · rename_i lk ll la lb h1 h2 h3 r3 h4 r4
      have r3 := head_nil r3
      have r4 := head_nil r4
      simp only [Option.some.injEq, Prod.mk.injEq] at hG
      obtain ⟨rfl, rfl, rfl⟩ := hG
      simp only [twC, allC_append, allC_cons, allC_nil, and_true] at hC
      obtain ⟨⟨hf, Fm, hff, hm, k1, k2, a1, a2⟩, hN, Fl⟩ := hC
      have hd := rowY_bytes hf hff
      generalize pOf f = p at *
      generalize hdd : dOf f = d at *
      rw [hf]
      clear hf hff hdd
      refine SimC.preI (B1 := [.cells (svF (List.replicate 32 .u8) (atL lk) 0), .cells (svF (List.replicate 32 .u8) (atL ll) 0), macV nilR (atL la), macV nilR (atL lb)]) ?_ ⟨cells_nums h1, cells_nums h2, cells_mac h3 r3 rfl, cells_mac h4 r4 rfl, trivial⟩
      refine SimC.adoptS (.ints .u8 []) 9 rfl rfl (by simp) (by simp) ?_
      show SimC _ _ _ _ _ (twKeep.zip [.ro 2 m (rowY p d), .ptr 0 0, .ptr 1 0, .ptr 2 0, .ptr 3 0, .own 4, .raw (.slice none 0 0), .int .i64 0]) _ _ _ _ _
      refine SimC.adoptS (.ints .u8 []) 10 rfl rfl (by simp) (by simp) ?_
      show SimC _ _ _ _ _ (twS p d m 0) (twZ d (atL lk) (atL ll) (atL la) (atL lb) 0) _ _ _ _
      refine SimC.iter (g := gt) (e := .ret) (S := fun i => twS p d m i) (B := fun i => twZ d (atL lk) (atL ll) (atL la) (atL lb) i) (N := sp2 d m) (fun i hi => tw_round hgl p d m _ _ _ _ k1 k2 a1 a2 hd Fm hm i hi) ?_ (by simp) 0 (by omega)
      exact SimC.weaken (SimC.run (B' := twZ d (atL lk) (atL ll) (atL la) (atL lb) (sp2 d m)) gt_ok (by decide) (tw_long p d m (sp2 d m) _ _ _ _ _ _) (st2_ok Fm hN (xQ_len _ (Nat.le_refl _)) Fl (decide_eq_true (sp2_at hN))) (by decide) (idD 4 5) (by decide) (by simp) hgl) (sub_mkT (by simp; exact rfl))
    · simp at hG
  · simp at hG
/-! what New makes -/
def nwL (k : Nat → Int) : List Int := listF 5 (clampN (loK k)) 0 ++ (List.replicate 5 0 ++ (listF 16 (fun j => k (16 + j)) 0 ++ (List.replicate 16 0 ++ [0])))
theorem kk_kk (k : Nat → Int) : kk (kk k) = kk k := by
  show atL (listF 32 (atL (listF 32 k 0)) 0) = atL (listF 32 k 0)
  congr 1
theorem MS_new {k : Nat → Int} (h : KB k) : MS (kT k) (atL (hiK k)) [] (atL (nwL k)) := by
  have hb : ∀ j, j < 16 → Byte (atL (loK k) j) := fun j hj => by rw [atLF hj]; exact h j (by omega)
  refine ⟨?_, ?_, fun j hj => ?_, fun j hj => ?_, ?_, fun j => ⟨Int.le_refl 0, by show (0 : Int) < 256; decide⟩⟩
  · have e : byL (atL (nwL k)) = L5 (clampN (loK k)) := rfl
    rw [e]
    have hi := is_block (l := clampL (atL (loK k))) (clamp_bytes hb)
    have e2 : leN 17 (atL (clampL (atL (loK k)))) 0 = kT k := leN_congr 17 0 fun j hj => by rw [Nat.zero_add]; exact clampL_at hb j hj
    rw [e2] at hi
    exact hi
  · have e : smL (atL (nwL k)) = L5 (fun _ => 0) := rfl
    rw [e]
    have hz : Is (L5 fun _ => 0) 0 := ⟨⟨by decide, by decide, by decide, by decide, by decide⟩, by decide⟩
    exact hz
  · have e : listF 16 (fun j => atL (nwL k) (10 + j)) 0 = hiK k := rfl
    rw [show atL (hiK k) j = atL (listF 16 (fun j => atL (nwL k) (10 + j)) 0) j by rw [e], atLF hj]
  · rw [if_neg (by simp)]
    have e : listF 16 (fun j => atL (nwL k) (26 + j)) 0 = List.replicate 16 0 := rfl
    have e2 := atLF (n := 16) (a := fun j => atL (nwL k) (26 + j)) hj
    rw [e] at e2
    rw [← e2]
    show (List.replicate 16 (0 : Int)).getD j 0 = 0
    rw [List.getD_eq_getElem?_getD, List.getElem?_replicate, if_pos hj]; rfl
  · rfl
theorem MK_new {k : Nat → Int} (h : KB k) : MK (kk k) [] (atL (nwL (kk k))) := by
  have h2 : KB (kk k) := fun j hj => by rw [show kk k j = k j from atLF hj]; exact h j hj
  show MS (kT (kk (kk k))) (atL (hiK (kk (kk k)))) [] _
  rw [kk_kk]
  exact MS_new h2
end Go.Proofs.Ytejcjdhplpjpjaa
