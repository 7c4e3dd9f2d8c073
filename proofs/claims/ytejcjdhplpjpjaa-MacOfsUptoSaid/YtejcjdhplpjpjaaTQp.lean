/- Accounts of this seat's functions: lemmas, no statement of their own. No conditions. -/
import Derived.Test.YtejcjdhplpjpjaaTQj
import Derived.Test.YtejcjdhplpjpjaaV5
namespace Go.Proofs.Ytejcjdhplpjpjaa
open Go Go.Vx
/-! ### the document's Tag: the account; New -/
theorem dt_val (k : Nat → Int) (l : List Int) : tagB k l = svF (List.replicate 16 .u8) (atL (dTag (kT k) (atL (hiK k)) l)) 0 := svF_cg _ 0 fun j hj => by
  rw [Nat.zero_add]
  rw [List.length_replicate] at hj
  unfold dTag
  rw [atLF hj, leN_L 17]
  have : leN 16 (atL (listF 17 (byteN (dS (leN 17 (clD (atL (loK k))) 0) l ((l.length + 15) / 16))) 0)) 0 = leN 16 (byteN (dS (kT k) l ((l.length + 15) / 16))) 0 := leN_congr 16 0 fun j hj => by rw [Nat.zero_add]; exact atLF (by omega)
  rw [this]
noncomputable def F14 : SumF := fun args B => match args, B with
  | [.agg ks, x], [.ints K l] => match numsAs (List.replicate 32 .u8) ks, vwI 0 l x, sameK K .u8 with
    | some lk, some (0, n), true => some { val := .agg (svF (List.replicate 16 .u8) (atL (dTag (kT (atL lk)) (atL (hiK (atL lk))) l)) 0), C := [n = l.length, l.length ≤ 140737488355328] }
    | _, _, _ => none
  | _, _ => none
theorem clampL_at {f : Nat → Int} (h : ∀ j, j < 16 → Byte (f j)) : ∀ j, j < 17 → atL (clampL f) j = clD f j := by
  have m15 : ∀ j, j < 16 → umask (f j) 15 = f j % 16 := fun j hj => umaskE (f j) 15 (h j hj).1
  have m25 : ∀ j, j < 16 → uand (f j) 252 = f j - f j % 4 := fun j hj => uand252 (h j hj)
  intro j hj
  match j, hj with
  | 0, _ => rfl
  | 1, _ => rfl
  | 2, _ => rfl
  | 3, _ => exact m15 3 (by decide)
  | 4, _ => exact m25 4 (by decide)
  | 5, _ => rfl
  | 6, _ => rfl
  | 7, _ => exact m15 7 (by decide)
  | 8, _ => exact m25 8 (by decide)
  | 9, _ => rfl
  | 10, _ => rfl
  | 11, _ => exact m15 11 (by decide)
  | 12, _ => exact m25 12 (by decide)
  | 13, _ => rfl
  | 14, _ => rfl
  | 15, _ => exact m15 15 (by decide)
  | 16, _ => rfl
  | j + 17, hj => exact absurd hj (by omega)
theorem kT_NG {k : Nat → Int} (h : ∀ j, j < 32 → Byte (k j)) : NG (atL (tmK k)) := by
  refine NG_L.2 ?_
  have hb : ∀ j, j < 16 → Byte (atL (loK k) j) := fun j hj => by rw [atLF hj]; exact h j (by omega)
  refine ⟨fun j hj => clD_byte hb j hj, ?_⟩
  have e : leN 17 (clD (atL (loK k))) 0 = leN 17 (atL (clampL (atL (loK k)))) 0 := leN_congr 17 0 fun j hj => by rw [Nat.zero_add]; exact (clampL_at hb j hj).symm
  rw [e]
  exact (clamp_lt hb).2
theorem acc14 : Acc gw 14 F14 := by
  intro args B out h hC
  unfold F14 at h
  split at h
  · rename_i ks x K l
    split at h
    · rename_i lk n hk hx hK
      obtain rfl := kidx_inj hK
      simp only [Option.some.injEq] at h; subst h
      simp only [allC_cons, allC_nil, and_true] at hC
      obtain ⟨rfl, h1⟩ := hC
      refine FnOk.argsH (args' := [.agg (svF (List.replicate 32 .u8) (atL lk) 0), .sl 0 0 0 1 0 l.length false]) ?_ (fun w0 O ρ Φ w vs x d => by
        simp only [DenT] at d ⊢
        obtain ⟨v1, r1, rfl, d1, v2, r2, rfl, d2, rfl⟩ := d
        exact ⟨_, _, rfl, (nums_imp hk) _ _ _ _ d1, _, _, rfl, vwI_den hx x rfl d2, rfl⟩)
      refine FnOk.facts fun ⟨hf, _⟩ => ?_
      have hb : ∀ j, j < 32 → Byte (atL lk j) := fun j hj => by
        have e : (List.replicate 32 IntKind.u8)[j]? = some .u8 := by rw [List.getElem?_replicate, if_pos hj]
        have f1 := facts_svF hf j .u8 e
        rw [Nat.zero_add] at f1
        exact ⟨f1.1, by have := f1.2; show atL lk j < 256; exact Int.lt_of_le_of_lt this (by decide)⟩
      have hL := tg_loop
      refine FnOk.val (v := .agg (tagB (atL lk) l)) (C := []) (rd := []) ?_ (fun _ _ _ _ h => by rw [← dt_val]; exact h)
      exact FnOk.run (new := []) gw_ok (dt_run (atL lk) l.length l) (by
        simp only [allC_cons, allC_nil, and_true]
        exact ⟨hL, trivial, h1, kT_NG hb, by decide, NG_L.2 (NG_by (dS_lt _ _ _))⟩) (by simp [upto]) rfl (by simp) (by simp) (fun j hj => by
          match j, hj with
          | 0, _ => rfl)
    · simp at h
  · simp at h
noncomputable abbrev nwV (k : Nat → Int) : Body := .cells (nilR :: (svF (List.replicate 5 .u64) (clampN (loK k)) 0 ++ (List.replicate 5 (.lit .u64 0) ++ (svF (List.replicate 16 .u8) (fun j => k (16 + j)) 0 ++ (List.replicate 16 (.lit .u8 0) ++ [.lit .i64 0])))))
theorem nw_run (k : Nat → Int) : runF gp 300 [] 11 [nilR, .agg (svF (List.replicate 32 .u8) k 0)] [] [1] = some (.ptr 0 0, [some (nwV k)], []) := run_parts (by kernel_rfl) (by kernel_rfl) (by kernel_rfl)
end Go.Proofs.Ytejcjdhplpjpjaa

namespace Go.Proofs.Ytejcjdhplpjpjaa
open Go Go.Vx
/-! ### New; all accounts -/
noncomputable def F11 : SumF := fun args B => match args, B with
  | [.raw (.pointer none), .agg ks], [] => match numsAs (List.replicate 32 .u8) ks with
    | some lk => some { val := .ptr 0 0, new := [nwV (atL lk)] }
    | _ => none
  | _, _ => none
theorem acc11 : Acc gp 11 F11 := by
  intro args B out h hC
  unfold F11 at h
  split at h
  · split at h
    · rename_i lk hk
      simp only [Option.some.injEq] at h; subst h
      refine FnOk.imp (args' := [nilR, .agg (svF (List.replicate 32 .u8) (atL lk) 0)]) ?_ ⟨DenImp.refl _, nums_imp hk, trivial⟩
      exact FnOk.run (out := { val := .ptr 0 0, new := [nwV (atL lk)] }) (new := [1]) gp_ok (nw_run (atL lk)) (by simp [AllC]) (by simp [upto]) rfl (by simp) (by simp) (fun j hj => by
          match j, hj with
          | 0, _ => rfl)
    · simp at h
  · simp at h
noncomputable abbrev gn : Ctx := gw.add [(11, F11), (12, F12), (13, F13), (14, F14), (15, F15)]
theorem gn_ok : CtxU gn := gw_ok.add mixed noGo (by
  intro x hx
  simp only [List.mem_cons, List.not_mem_nil, or_false] at hx
  rcases hx with rfl | rfl | rfl | rfl | rfl
  · exact Acc.of (g := gp) rfl rfl acc11
  · exact acc12
  · exact acc13
  · exact acc14
  · exact Acc.of (g := gko) rfl rfl acc15)
/-! ### steps as rows -/
noncomputable abbrev rowY (p : Nat → Bool) (d : Nat → List Int) : Nat → SV := fun i => .agg [.sbool (p i), .roi .u8 (d i)]
def pOf (f : Nat → SV) (i : Nat) : Bool := match f i with | .agg [.sbool b, _] => b | _ => false
def dOf (f : Nat → SV) (i : Nat) : List Int := match f i with | .agg [_, .roi _ l] => l | _ => []
end Go.Proofs.Ytejcjdhplpjpjaa

namespace Go.Proofs.Ytejcjdhplpjpjaa
open Go Go.Vx
/-! ### MacNothing: the loop -/
abbrev noKeep : List Nat := [0, 3, 4, 5, 6]
noncomputable abbrev noBody : Code := bodyAt Try.prog 4 7
noncomputable abbrev noO (p : Nat → Bool) (d : Nat → List Int) (m : Nat) (i : Int) : List SV := [.ro 2 m (rowY p d), nilR, .ptr 0 0, .own 1, .int .i64 i]
noncomputable abbrev noS (p : Nat → Bool) (d : Nat → List Int) (m i : Nat) : List (Nat × SV) := noKeep.zip (noO p d m (i : Int))
noncomputable abbrev noB (a : Nat → Int) (x : List Int) : List Body := [macV nilR a, .ints .u8 x]
abbrev z32 : List Int := List.replicate 32 0
abbrev z16 : List Int := List.replicate 16 0
abbrev stC (m i : Nat) (x e : List Int) (b : Bool) : List Prop := [Fits .i64 (m : Int), decide ((i : Int) < (m : Int)) = true, (0 : Int) ≤ (i : Int) ∧ (i : Int) < (m : Int), Fits .i64 (131072 - (x.length : Int)), Fits .i64 (x.length : Int), Fits .i64 (e.length : Int), decide (131072 - (x.length : Int) < (e.length : Int)) = b]
theorem no_go0 (p : Nat → Bool) (d : Nat → List Int) (m i : Nat) (a : Nat → Int) (x : List Int) : runC gn 300 71 [.br true, .br false, .br false] noBody (noS p d m i) (noB a x) noKeep [0, 2] =
    some (.normal, noO p d m ((i : Int) + 1), (noB (wrA (n43 a) (d i)) (x ++ d i)).map some, stC m i x (d i) false ++ [0 ≤ n43 a 42 ∧ n43 a 42 < 16, (d i).length ≤ 140737488355328, (x ++ d i).length * 1 ≤ 2 ^ 47, p i = false, (0 : Int) ≤ (i : Int) ∧ (i : Int) < (m : Int), Fits .i64 ((i : Int) + 1)]) :=
  r3_parts4 (by kernel_rfl) (by kernel_rfl) (by kernel_rfl) (by kernel_rfl)
theorem no_go1 (p : Nat → Bool) (d : Nat → List Int) (m i : Nat) (a : Nat → Int) (x : List Int) : runC gn 300 71 [.br true, .br false, .br true, .br false, .br false] noBody (noS p d m i) (noB a x) noKeep [0, 2] =
    some (.normal, noO p d m ((i : Int) + 1), (noB (wrA (n43 a) (d i)) (x ++ d i)).map some, stC m i x (d i) false ++ [0 ≤ n43 a 42 ∧ n43 a 42 < 16, (d i).length ≤ 140737488355328, (x ++ d i).length * 1 ≤ 2 ^ 47, (x ++ d i).length = (x ++ d i).length, (x ++ d i).length ≤ 140737488355328, 0 ≤ n43 (wrA (n43 a) (d i)) 42 ∧ n43 (wrA (n43 a) (d i)) 42 < 16, (!decide (z16 = z16)) = false, p i = true, (0 : Int) ≤ (i : Int) ∧ (i : Int) < (m : Int),
      (!decide (listF 16 (tgN (n43 (wrA (n43 a) (d i)))) 0 = listF 16 (atL (dTag (kT (atL z32)) (atL (hiK (atL z32))) (x ++ d i))) 0)) = false, Fits .i64 ((i : Int) + 1)]) :=
  r3_parts4 (by kernel_rfl) (by kernel_rfl) (by kernel_rfl) (by kernel_rfl)
theorem no_long (p : Nat → Bool) (d : Nat → List Int) (m i : Nat) (a : Nat → Int) (x : List Int) : runC gn 300 71 [.br true, .br true] noBody (noS p d m i) (noB a x) [2] [0, 1] =
    some (.ret, [.bool true], (noB a x).map some, stC m i x (d i) true) :=
  r3_parts4 (by kernel_rfl) (by kernel_rfl) (by kernel_rfl) (by kernel_rfl)
theorem no_end (p : Nat → Bool) (d : Nat → List Int) (m i : Nat) (a : Nat → Int) (x : List Int) : runC gn 300 71 [.br false] noBody (noS p d m i) (noB a x) noKeep [0, 1] =
    some (.exit 0, noO p d m (i : Int), (noB a x).map some, [Fits .i64 (m : Int), decide ((i : Int) < (m : Int)) = false]) :=
  r3_parts4 (by kernel_rfl) (by kernel_rfl) (by kernel_rfl) (by kernel_rfl)
/-! what was taken -/
def xZ (d : Nat → List Int) : Nat → List Int
  | 0 => []
  | i + 1 => xZ d i ++ d i
noncomputable def aZ (a : Nat → Int) (d : Nat → List Int) : Nat → (Nat → Int)
  | 0 => a
  | i + 1 => wrA (n43 (aZ a d i)) (d i)
/-- the first i below m at which P holds, or m -/
def firstI (P : Nat → Bool) : Nat → Nat
  | 0 => 0
  | m + 1 => if firstI P m < m then firstI P m else if P m then m else m + 1
theorem firstI_spec (P : Nat → Bool) : ∀ m, firstI P m ≤ m ∧ (∀ i, i < firstI P m → P i = false) ∧ (firstI P m < m → P (firstI P m) = true)
  | 0 => ⟨Nat.le_refl _, fun i hi => absurd hi (Nat.not_lt_zero i), fun h => absurd h (Nat.lt_irrefl 0)⟩
  | m + 1 => by
    obtain ⟨h1, h2, h3⟩ := firstI_spec P m
    by_cases c : firstI P m < m
    · have e : firstI P (m + 1) = firstI P m := by simp only [firstI]; rw [if_pos c]
      rw [e]
      exact ⟨by omega, h2, fun _ => h3 c⟩
    · have em : firstI P m = m := by omega
      cases hp : P m with
      | true =>
        have e : firstI P (m + 1) = m := by simp only [firstI]; rw [if_neg c, hp]; rfl
        rw [e]
        exact ⟨by omega, fun i hi => h2 i (by omega), fun _ => hp⟩
      | false =>
        have e : firstI P (m + 1) = m + 1 := by simp only [firstI]; rw [if_neg c, hp]; rfl
        rw [e]
        refine ⟨Nat.le_refl _, fun i hi => ?_, fun h => absurd h (Nat.lt_irrefl _)⟩
        by_cases ci : i < m
        · exact h2 i (by omega)
        · rw [show i = m by omega]; exact hp
def stp (d : Nat → List Int) (m : Nat) : Nat := firstI (fun i => decide (131072 < (xZ d i).length + (d i).length)) m
theorem stp_le (d : Nat → List Int) (m : Nat) : stp d m ≤ m := (firstI_spec _ m).1
theorem stp_lt {d : Nat → List Int} {m i : Nat} (h : i < stp d m) : (xZ d i).length + (d i).length ≤ 131072 := by
  have := (firstI_spec _ m).2.1 i h
  have := of_decide_eq_false this
  omega
theorem stp_at {d : Nat → List Int} {m : Nat} (h : stp d m < m) : 131072 < (xZ d (stp d m)).length + (d (stp d m)).length := of_decide_eq_true ((firstI_spec _ m).2.2 h)
theorem xZ_len {d : Nat → List Int} {m : Nat} : ∀ i, i ≤ stp d m → (xZ d i).length ≤ 131072
  | 0, _ => by simp [xZ]
  | i + 1, h => by
    have := stp_lt (show i < stp d m by omega)
    simp only [xZ, List.length_append]; omega
theorem MS_43 {T : Int} {mk : Nat → Int} {X : List Int} {a : Nat → Int} (h : MS T mk X a) : MS T mk X (n43 a) := by
  obtain ⟨h1, h2, h3, h4, h5, h6⟩ := h
  exact ⟨by rw [byL_43]; exact h1, by rw [smL_43]; exact h2, fun j hj => by rw [n43_at (by omega)]; exact h3 j hj, fun j hj => by rw [n43_at (by omega)]; exact h4 j hj, by rw [n43_at (by omega)]; exact h5, h6⟩
theorem MS_h {T : Int} {mk : Nat → Int} {X : List Int} {a : Nat → Int} (h : MS T mk X a) : 0 ≤ a 42 ∧ a 42 < 16 := by
  have := h.held; omega
theorem bytes_of {l : List Int} (h : ∀ n ∈ l, Fits .u8 n) : Bytes l := fun j => by
  rw [List.getD_eq_getElem?_getD]
  cases e : l[j]? with
  | none => exact ⟨by decide, by decide⟩
  | some v =>
    have := h v (List.mem_of_getElem? e)
    exact ⟨this.1, Int.lt_of_le_of_lt this.2 (by decide)⟩
theorem MS_Z {T : Int} {mk : Nat → Int} {d : Nat → List Int} {m : Nat} {a : Nat → Int} (h0 : MS T mk [] a) (hd : ∀ i, i < m → Bytes (d i)) : ∀ i, i ≤ m → MS T mk (xZ d i) (aZ a d i)
  | 0, _ => h0
  | i + 1, h => MS_write (MS_43 (MS_Z h0 hd i (by omega))) (hd i (by omega))
theorem dTag_L (T : Int) (mk : Nat → Int) (X : List Int) : listF 16 (atL (dTag T mk X)) 0 = dTag T mk X := listF_eq0.2 fun j hj => by
  rw [dTag, atLF hj]
abbrev YB (d : Nat → List Int) (m : Nat) : Prop := ∀ i, i < m → Bytes (d i)
theorem rowY_bytes {f : Nat → SV} {m : Nat} (h : f = rowY (pOf f) (dOf f)) (hf : ∀ i, i < m → factsC (f i)) : YB (dOf f) m := fun i hi => by
  have := hf i hi
  rw [h] at this
  have h2 : factsL [.sbool (pOf f i), .roi .u8 (dOf f i)] := this
  exact bytes_of h2.2.1
end Go.Proofs.Ytejcjdhplpjpjaa

namespace Go.Proofs.Ytejcjdhplpjpjaa
open Go Go.Vx
/-! ### MacNothing -/
theorem idA (k : Nat) : ∀ j : Nat, j < 1 → ([0, k] : List Nat)[j]? = some j := fun j hj => by
  match j, hj with
  | 0, _ => rfl
abbrev zT : Int := kT (atL z32)
abbrev zM : Nat → Int := atL (hiK (atL z32))
theorem zM_byte (j : Nat) (_ : j < 16) : Byte (zM j) := by
  have : zM j = 0 := by
    show (listF 16 (fun j => atL z32 (16 + j)) 0).getD j 0 = 0
    rw [show listF 16 (fun j => atL z32 (16 + j)) 0 = List.replicate 16 (0 : Int) by decide, List.getD_eq_getElem?_getD, List.getElem?_replicate]
    split <;> rfl
  rw [this]; exact ⟨by decide, by decide⟩
theorem stC_ok {m i : Nat} {x e : List Int} {b : Bool} (Fm : Fits .i64 (m : Int)) (hi : i < m) (hx : x.length ≤ 131072) (he : Fits .i64 (e.length : Int)) (hb : decide (131072 < x.length + e.length) = b) : AllC (stC m i x e b) := by
  simp only [stC, allC_cons, allC_nil, and_true]
  refine ⟨Fm, decide_eq_true (by omega), ⟨by omega, by omega⟩, fits_of (by omega) (by omega), fits_of (by omega) (by omega), he, ?_⟩
  rw [← hb]
  exact decide_eq_decide.2 (by omega)
theorem no_round {w0 : World} {O : Go.Vx.Own} (hgl : GlobOk gn w0 O) (p : Nat → Bool) (d : Nat → List Int) (m : Nat) (a : Nat → Int) (h0 : MS zT zM [] a) (hd : YB d m) (Fm : Fits .i64 (m : Int)) (hm : m ≤ 400) (i : Nat) (hi : i < stp d m) :
    SimC gn.P w0 O 71 noBody (noS p d m i) (noB (aZ a d i) (xZ d i)) .normal (noS p d m (i + 1)) (noB (aZ a d (i + 1)) (xZ d (i + 1))) 1 := by
  have hle := stp_le d m
  have hl := stp_lt hi
  have hx := xZ_len (d := d) (m := m) i (by omega)
  have F1 : Fits .i64 ((i : Int) + 1) := fits_of (by omega) (by omega)
  have M := MS_43 (MS_Z h0 hd i (by omega))
  have M2 := MS_43 (MS_Z h0 hd (i + 1) (by omega))
  have hs : AllC (stC m i (xZ d i) (d i) false) := stC_ok Fm (by omega) hx (fits_of (by omega) (by omega)) (decide_eq_false (by omega))
  have hap : (xZ d i ++ d i).length = (xZ d i).length + (d i).length := List.length_append
  cases hp : p i with
  | false =>
    refine SimC.run (B' := noB (aZ a d (i + 1)) (xZ d (i + 1))) gn_ok (by decide) (no_go0 p d m i (aZ a d i) (xZ d i)) (allC_append.2 ⟨hs, ?_⟩) (by decide) (idA 2) (by decide) (by simp) hgl
    simp only [allC_cons, allC_nil, and_true]
    exact ⟨MS_h M, by omega, by omega, hp, ⟨by omega, by omega⟩, F1⟩
  | true =>
    refine SimC.run (B' := noB (aZ a d (i + 1)) (xZ d (i + 1))) gn_ok (by decide) (no_go1 p d m i (aZ a d i) (xZ d i)) (allC_append.2 ⟨hs, ?_⟩) (by decide) (idA 2) (by decide) (by simp) hgl
    simp only [allC_cons, allC_nil, and_true]
    have ht : listF 16 (tgN (n43 (wrA (n43 (aZ a d i)) (d i)))) 0 = listF 16 (atL (dTag zT zM (xZ d i ++ d i))) 0 := by
      rw [dTag_L]; exact MS_tag M2 zM_byte
    refine ⟨MS_h M, by omega, by omega, trivial, by omega, MS_h M2, by decide, hp, ⟨by omega, by omega⟩, ?_, F1⟩
    rw [decide_eq_true ht]; rfl
noncomputable def noG0 : LoopF := fun vals B => match vals, B with
  | [.ro 2 m f, .raw (.pointer none), .ptr 0 0, .raw (.slice none 0 0), .int .i64 0], [.cells ms] => match macAs ms, headK (ms.take 1) with
    | some la, .nil => some ([(3, nilR), (4, .ptr 0 0)], noB (aZ (atL la) (dOf f) m) (xZ (dOf f) m), [f = rowY (pOf f) (dOf f), Fits .i64 (m : Int), ∀ i, i < m → factsC (f i), m ≤ 400, MS zT zM [] (atL la), stp (dOf f) m = m])
    | _, _ => none
  | _, _ => none
noncomputable def noG1 : LoopF := fun vals B => match vals, B with
  | [.ro 2 m f, .raw (.pointer none), .ptr 0 0, .raw (.slice none 0 0), .int .i64 0], [.cells ms] => match macAs ms, headK (ms.take 1) with
    | some la, .nil => some ([(2, .bool true)], noB (aZ (atL la) (dOf f) (stp (dOf f) m)) (xZ (dOf f) (stp (dOf f) m)), [f = rowY (pOf f) (dOf f), Fits .i64 (m : Int), ∀ i, i < m → factsC (f i), m ≤ 400, MS zT zM [] (atL la), stp (dOf f) m < m, Fits .i64 ((dOf f (stp (dOf f) m)).length : Int)])
    | _, _ => none
  | _, _ => none
theorem no_loop0 : LoopGood gn 71 (.loop noBody) noKeep 1 (.exit 0) (mkLoopN noG0) := by
  refine LoopGood.mkN (by decide) fun vals B S' B' C hG hC hlen w0 O hgl => ?_
  clear hlen
  unfold noG0 at hG
  split at hG
  · rename_i m f ms
    split at hG
    · rename_i la ha hr
      have hr := head_nil hr
      simp only [Option.some.injEq, Prod.mk.injEq] at hG
      obtain ⟨rfl, rfl, rfl⟩ := hG
      simp only [allC_cons, allC_nil, and_true] at hC
      obtain ⟨hf, Fm, hff, hm, h0, hN⟩ := hC
      have hd := rowY_bytes hf hff
      generalize pOf f = p at *
      generalize hdd : dOf f = d at *
      rw [hf]
      clear hf hff hdd
      refine SimC.preI (B1 := [macV nilR (atL la)]) ?_ ⟨cells_mac ha hr rfl, trivial⟩
      refine SimC.adoptS (.ints .u8 []) 5 rfl rfl (by simp) (by simp) ?_
      show SimC _ _ _ _ _ (noS p d m 0) (noB (aZ (atL la) d 0) (xZ d 0)) _ _ _ _
      refine SimC.iter (g := gn) (e := .exit 0) (S := fun i => noS p d m i) (B := fun i => noB (aZ (atL la) d i) (xZ d i)) (N := m) (fun i hi => no_round hgl p d m (atL la) h0 hd Fm hm i (by omega)) ?_ (by simp) 0 (by omega)
      exact SimC.weaken (SimC.run (B' := noB (aZ (atL la) d m) (xZ d m)) gn_ok (by decide) (no_end p d m m _ _) (by simp only [allC_cons, allC_nil, and_true]; exact ⟨Fm, decide_eq_false (by omega)⟩) (by decide) (idA 1) (by decide) (by simp) hgl) (sub_mkT (by simp; exact ⟨rfl, rfl⟩))
    · simp at hG
  · simp at hG
theorem no_loop1 : LoopGood gn 71 (.loop noBody) noKeep 1 .ret (mkLoopN noG1) := by
  refine LoopGood.mkN (by decide) fun vals B S' B' C hG hC hlen w0 O hgl => ?_
  clear hlen
  unfold noG1 at hG
  split at hG
  · rename_i m f ms
    split at hG
    · rename_i la ha hr
      have hr := head_nil hr
      simp only [Option.some.injEq, Prod.mk.injEq] at hG
      obtain ⟨rfl, rfl, rfl⟩ := hG
      simp only [allC_cons, allC_nil, and_true] at hC
      obtain ⟨hf, Fm, hff, hm, h0, hN, Fl⟩ := hC
      have hd := rowY_bytes hf hff
      generalize pOf f = p at *
      generalize hdd : dOf f = d at *
      rw [hf]
      clear hf hff hdd
      refine SimC.preI (B1 := [macV nilR (atL la)]) ?_ ⟨cells_mac ha hr rfl, trivial⟩
      refine SimC.adoptS (.ints .u8 []) 5 rfl rfl (by simp) (by simp) ?_
      show SimC _ _ _ _ _ (noS p d m 0) (noB (aZ (atL la) d 0) (xZ d 0)) _ _ _ _
      refine SimC.iter (g := gn) (e := .ret) (S := fun i => noS p d m i) (B := fun i => noB (aZ (atL la) d i) (xZ d i)) (N := stp d m) (fun i hi => no_round hgl p d m (atL la) h0 hd Fm hm i hi) ?_ (by simp) 0 (by omega)
      exact SimC.weaken (SimC.run (B' := noB (aZ (atL la) d (stp d m)) (xZ d (stp d m))) gn_ok (by decide) (no_long p d m (stp d m) _ _) (stC_ok Fm hN (xZ_len _ (Nat.le_refl _)) Fl (decide_eq_true (stp_at hN))) (by decide) (idA 1) (by decide) (by simp) hgl) (sub_mkT (by simp; exact rfl))
    · simp at hG
  · simp at hG
abbrev z43 : List Int := List.replicate 43 0
theorem MS_z : MS zT zM [] (atL z43) := by
  have hz : ∀ j, j < 43 → atL z43 j = 0 := fun j hj => by
    show (List.replicate 43 (0 : Int)).getD j 0 = 0
    rw [List.getD_eq_getElem?_getD, List.getElem?_replicate, if_pos hj]; rfl
  have hi : Is (L5 fun _ => 0) 0 := ⟨⟨by decide, by decide, by decide, by decide, by decide⟩, by decide⟩
  refine ⟨?_, ?_, fun j hj => ?_, fun j hj => ?_, hz 42 (by omega), fun j => ⟨Int.le_refl 0, by show (0 : Int) < 256; decide⟩⟩
  · rw [show zT = 0 by decide +kernel, show byL (atL z43) = L5 (fun _ => 0) from listF_eq0.2 fun j hj => hz j (by omega)]; exact hi
  · rw [show smL (atL z43) = L5 (fun _ => 0) from listF_eq0.2 fun j hj => hz _ (by omega)]; exact hi
  · rw [hz _ (by omega)]
    have e : listF 16 (fun j => atL z32 (16 + j)) 0 = List.replicate 16 (0 : Int) := by decide
    show _ = (listF 16 (fun j => atL z32 (16 + j)) 0).getD j 0
    rw [e, List.getD_eq_getElem?_getD, List.getElem?_replicate, if_pos hj]; rfl
  · rw [hz _ (by omega), if_neg (by simp)]
end Go.Proofs.Ytejcjdhplpjpjaa

namespace Go.Proofs.Ytejcjdhplpjpjaa
open Go Go.Vx
/-! ### roomy -/
def rmF (la : List Int) (i : Nat) : Int := if i < la.length then la.getD i 0 else markN i
abbrev rmKeep : List Nat := [0, 3, 4]
noncomputable abbrev rmBody : Code := bodyAt Try.prog 22 3
abbrev rmS (la : List Int) (m n i : Nat) : List (Nat × SV) := rmKeep.zip [.roi .u8 la, .sl 0 m 0 1 0 n false, .int .i64 (i : Int)]
theorem rm_go1 (m n i : Nat) (la lb : List Int) : runC gn 200 34 [.br true, .br true] rmBody (rmS la m n i) [.ints .u8 lb] rmKeep [0] =
    some (.normal, [.roi .u8 la, .sl 0 m 0 1 0 n false, .int .i64 ((i : Int) + 1)], [some (.ints .u8 ((lb.set (0 + i + 0) (markN i)).set (0 + i + 0) (la.getD i 0)))], [Fits .i64 (n : Int), decide ((i : Int) < (n : Int)) = true, 0 + i + 0 < lb.length, (0 : Int) ≤ (i : Int) ∧ (i : Int) < (n : Int), Fits .i64 (161 + (i : Int).tmod 7), Fits .i64 (la.length : Int), decide ((i : Int) < (la.length : Int)) = true,
      0 + i + 0 < (lb.set (0 + i + 0) (markN i)).length, (0 : Int) ≤ (i : Int) ∧ (i : Int) < (n : Int), (0 : Int) ≤ (i : Int) ∧ (i : Int) < (la.length : Int), Fits .i64 ((i : Int) + 1)]) := by kernel_rfl
theorem rm_go0 (m n i : Nat) (la lb : List Int) : runC gn 200 34 [.br true, .br false] rmBody (rmS la m n i) [.ints .u8 lb] rmKeep [0] =
    some (.normal, [.roi .u8 la, .sl 0 m 0 1 0 n false, .int .i64 ((i : Int) + 1)], [some (.ints .u8 (lb.set (0 + i + 0) (markN i)))], [Fits .i64 (n : Int), decide ((i : Int) < (n : Int)) = true, 0 + i + 0 < lb.length, (0 : Int) ≤ (i : Int) ∧ (i : Int) < (n : Int), Fits .i64 (161 + (i : Int).tmod 7), Fits .i64 (la.length : Int), decide ((i : Int) < (la.length : Int)) = false, Fits .i64 ((i : Int) + 1)]) := by kernel_rfl
theorem rm_end (m n i : Nat) (la lb : List Int) : runC gn 200 34 [.br false] rmBody (rmS la m n i) [.ints .u8 lb] rmKeep [0] =
    some (.exit 0, [.roi .u8 la, .sl 0 m 0 1 0 n false, .int .i64 (i : Int)], [some (.ints .u8 lb)], [Fits .i64 (n : Int), decide ((i : Int) < (n : Int)) = false]) := by kernel_rfl
def rmG : LoopF := fun vals B => match vals, B with
  | [.roi K2 la, .sl 0 m 0 1 0 n false, .int .i64 0], [.ints K lb] => match sameK K .u8, sameK K2 .u8 with
    | true, true => some ([(3, .sl 0 m 0 1 0 n false)], [.ints .u8 (roomL la)], [n = la.length + 70, n ≤ 140737488355328, lb = List.replicate n 0])
    | _, _ => none
  | _, _ => none
theorem tmod_fits (i : Nat) : Fits .i64 (161 + (i : Int).tmod 7) := by
  rw [Int.tmod_eq_emod_of_nonneg (by omega)]
  exact fits_of (by omega) (by omega)
theorem rm_loop : LoopGood gn 34 (.loop rmBody) rmKeep 1 (.exit 0) (mkLoopN rmG) := by
  refine LoopGood.mkN (by decide) fun vals B S' B' C hG hC hlen w0 O hgl => ?_
  clear hlen
  unfold rmG at hG
  split at hG
  · rename_i K2 la m n K lb
    split at hG
    · rename_i hK hK2
      obtain rfl := kidx_inj hK
      obtain rfl := kidx_inj hK2
      simp only [Option.some.injEq, Prod.mk.injEq] at hG
      obtain ⟨rfl, rfl, rfl⟩ := hG
      simp only [allC_cons, allC_nil, and_true] at hC
      obtain ⟨h1, h2, rfl⟩ := hC
      have F1 : Fits .i64 (n : Int) := fits_small h2
      have F3 : Fits .i64 (la.length : Int) := fits_small (by omega)
      have key := SimC.iter (g := gn) (nT := 34) (c := rmBody) (m := 1) (w0 := w0) (O := O) (e := .exit 0) (S := rmS la m n) (B := fun i => [.ints .u8 (partF (rmF la) n i)]) (N := n) (S' := [(3, .sl 0 m 0 1 0 n false)]) (B' := [.ints .u8 (roomL la)]) (fun i hi => ?_) ?_ (by simp) 0 (by omega)
      · rw [partF_zero] at key; exact key
      · have F2 : Fits .i64 ((i : Int) + 1) := fits_of (by omega) (by omega)
        have F4 := tmod_fits i
        have hl := partF_len (rmF la) n i
        by_cases hc : i < la.length
        · have hr := rm_go1 m n i la (partF (rmF la) n i)
          have e : rmF la i = la.getD i 0 := if_pos hc
          simp only [Nat.zero_add, Nat.add_zero, set_set] at hr
          rw [← e, partF_set _ hi] at hr
          have q : i < ((partF (rmF la) n i).set i (markN i)).length := by rw [List.length_set, hl]; exact hi
          exact SimC.run (B' := [.ints .u8 (partF (rmF la) n (i + 1))]) gn_ok (by decide) hr (by rw [hl]; (simp only [allC_cons, allC_nil, and_true]; repeat' (with_reducible (first | refine And.intro ?_ ?_ | exact True.intro | assumption | omega | exact decide_eq_true (by first | assumption | omega) | exact decide_eq_false (by first | assumption | omega) | rfl | (simp; done))))) (by decide) q0 (by decide) (by simp) hgl
        · have hr := rm_go0 m n i la (partF (rmF la) n i)
          have e : rmF la i = markN i := if_neg hc
          simp only [Nat.zero_add, Nat.add_zero] at hr
          rw [← e, partF_set _ hi] at hr
          exact SimC.run (B' := [.ints .u8 (partF (rmF la) n (i + 1))]) gn_ok (by decide) hr (by rw [hl]; (simp only [allC_cons, allC_nil, and_true]; repeat' (with_reducible (first | refine And.intro ?_ ?_ | exact True.intro | assumption | omega | exact decide_eq_true (by first | assumption | omega) | exact decide_eq_false (by first | assumption | omega) | rfl | (simp; done))))) (by decide) q0 (by decide) (by simp) hgl
      · have e : partF (rmF la) n n = roomL la := by
          have := partF_all (rmF la) (roomL la) fun p hp => by
            rw [roomL_len] at hp
            rw [roomL_get la hp]; rfl
          rw [roomL_len, ← h1] at this
          exact this
        have hr := rm_end m n n la (partF (rmF la) n n)
        rw [e] at hr ⊢
        exact SimC.weaken (SimC.run (B' := [.ints .u8 (roomL la)]) gn_ok (by decide) hr (by (simp only [allC_cons, allC_nil, and_true]; repeat' (with_reducible (first | refine And.intro ?_ ?_ | exact True.intro | assumption | omega | exact decide_eq_true (by first | assumption | omega) | exact decide_eq_false (by first | assumption | omega) | rfl | (simp; done))))) (by decide) q0 (by decide) (by simp) hgl) (sub_mkT (by simp; rfl))
    · simp at hG
  · simp at hG
theorem rm_run (la : List Int) : runF gn 200 [.loop 3 rmKeep 1 (.exit 0) (mkLoopN rmG)] 22 [.roi .u8 la] [] [0] =
    some (.sl 0 (la.length + 70) 0 1 0 (la.length + 70) false, [some (.ints .u8 (roomL la))], [(0 : Int) ≤ (la.length : Int) + 70 ∧ (la.length : Int) + 70 = (la.length : Int) + 70 ∧ (la.length + 70) * 1 ≤ 140737488355328, Fits .i64 ((la.length : Int) + 70), Fits .i64 (la.length : Int), LoopGood gn 34 (.loop rmBody) rmKeep 1 (.exit 0) (mkLoopN rmG), la.length + 70 = la.length + 70, la.length + 70 ≤ 140737488355328, List.replicate (la.length + 70) 0 = List.replicate (la.length + 70) (0 : Int)]) :=
  run_parts (by kernel_rfl) (by kernel_rfl) (by kernel_rfl)
def F22 : SumF := fun args B => match args, B with
  | [.roi K la], [] => match sameK K .u8 with
    | true => some { val := .sl 0 (la.length + 70) 0 1 0 (la.length + 70) false, new := [.ints .u8 (roomL la)], C := [la.length ≤ 1000000000] }
    | false => none
  | _, _ => none
theorem acc22 : Acc gn 22 F22 := by
  intro args B out h hC
  unfold F22 at h
  split at h
  · rename_i K la
    split at h
    · rename_i hK
      obtain rfl := kidx_inj hK
      simp only [Option.some.injEq] at h; subst h
      simp only [allC_cons, allC_nil, and_true] at hC
      have F1 : Fits .i64 (la.length : Int) := fits_small (by omega)
      have F2 : Fits .i64 ((la.length : Int) + 70) := fits_of (by omega) (by omega)
      have hl := rm_loop
      refine FnOk.run (new := [0]) gn_ok (rm_run la) (by (simp only [allC_cons, allC_nil, and_true]; repeat' (with_reducible (first | refine And.intro ?_ ?_ | exact True.intro | assumption | omega | exact decide_eq_true (by first | assumption | omega) | exact decide_eq_false (by first | assumption | omega) | rfl | (simp; done))))) (by decide) rfl (by simp) (by simp) ?_
      intro j hj
      match j, hj with
      | 0, _ => rfl
      | j + 1, hj => exact absurd hj (by simp)
    · simp at h
  · simp at h

end Go.Proofs.Ytejcjdhplpjpjaa

namespace Go.Proofs.Ytejcjdhplpjpjaa
open Go Go.Vx
/-! ### stands -/
abbrev sdKeep : List Nat := [0, 1, 5]
noncomputable abbrev sdBody : Code := bodyAt Try.prog 23 2
abbrev sdO (o n : Nat) (l : List Int) (i : Int) : List SV := [.sl 0 0 o 1 0 n false, .roi .u8 l, .int .i64 i]
abbrev sdS (o n : Nat) (l : List Int) (i : Nat) : List (Nat × SV) := sdKeep.zip (sdO o n l (i : Int))
theorem sd_go1 (o n i : Nat) (l w : List Int) : runC gn 300 44 [.br true, .br true, .br false, .br false, .br false] sdBody (sdS o n l i) [.ints .u8 w] sdKeep [0] =
    some (.normal, sdO o n l ((i : Int) + 1), [some (.ints .u8 w)], [Fits .i64 (n : Int), decide ((i : Int) < (n : Int)) = true, decide ((l.length : Int) ≤ (i : Int)) = false, Fits .i64 (l.length : Int), (!decide (w.getD (o + i) 0 = l.getD i 0)) = false, (0 : Int) ≤ (i : Int) ∧ (i : Int) < (l.length : Int), o + i + 0 < w.length, (0 : Int) ≤ (i : Int) ∧ (i : Int) < (n : Int), decide ((i : Int) < (l.length : Int)) = true, Fits .i64 (l.length : Int), Fits .i64 ((i : Int) + 1)]) :=
  r3_parts4 (by kernel_rfl) (by kernel_rfl) (by kernel_rfl) (by kernel_rfl)
theorem sd_go0 (o n i : Nat) (l w : List Int) : runC gn 300 44 [.br true, .br false, .br true, .br false, .br false] sdBody (sdS o n l i) [.ints .u8 w] sdKeep [0] =
    some (.normal, sdO o n l ((i : Int) + 1), [some (.ints .u8 w)], [Fits .i64 (n : Int), decide ((i : Int) < (n : Int)) = true, Fits .i64 (161 + (i : Int).tmod 7), o + i + 0 < w.length, (0 : Int) ≤ (i : Int) ∧ (i : Int) < (n : Int), decide ((l.length : Int) ≤ (i : Int)) = true, Fits .i64 (l.length : Int), decide ((i : Int) < (l.length : Int)) = false, Fits .i64 (l.length : Int), (!decide (w.getD (o + i) 0 = markN i)) = false, Fits .i64 ((i : Int) + 1)]) :=
  r3_parts4 (by kernel_rfl) (by kernel_rfl) (by kernel_rfl) (by kernel_rfl)
theorem sd_end (o n i : Nat) (l w : List Int) : runC gn 300 44 [.br false] sdBody (sdS o n l i) [.ints .u8 w] sdKeep [0] =
    some (.exit 0, sdO o n l (i : Int), [some (.ints .u8 w)], [Fits .i64 (n : Int), decide ((i : Int) < (n : Int)) = false]) :=
  r3_parts4 (by kernel_rfl) (by kernel_rfl) (by kernel_rfl) (by kernel_rfl)
def sdG : LoopF := fun vals B => match vals, B with
  | [.sl 0 0 o 1 0 n false, .roi K2 l, .int .i64 0], [.ints K w] => match sameK K .u8, sameK K2 .u8 with
    | true, true => some ([], [.ints .u8 w], [o + n ≤ w.length, n ≤ 140737488355328, l.length ≤ 140737488355328, n = l.length + 70, subI w o n = roomL l])
    | _, _ => none
  | _, _ => none
theorem sd_loop : LoopGood gn 44 (.loop sdBody) sdKeep 1 (.exit 0) (mkLoopN sdG) := by
  refine LoopGood.mkN (by decide) fun vals B S' B' C hG hC hlen w0 O hgl => ?_
  clear hlen
  unfold sdG at hG
  split at hG
  · rename_i o n K2 l K w
    split at hG
    · rename_i hK hK2
      obtain rfl := kidx_inj hK
      obtain rfl := kidx_inj hK2
      simp only [Option.some.injEq, Prod.mk.injEq] at hG
      obtain ⟨rfl, rfl, rfl⟩ := hG
      simp only [allC_cons, allC_nil, and_true] at hC
      obtain ⟨h1, h2, h3, hn, h4⟩ := hC
      have F1 : Fits .i64 (n : Int) := Go.Vx.fits_small h2
      have F3 : Fits .i64 (l.length : Int) := Go.Vx.fits_small h3
      refine SimC.iter (g := gn) (S := sdS o n l) (B := fun _ => [.ints .u8 w]) (N := n) (fun i hi => ?_) ?_ (by simp) 0 (by omega)
      · have F2 : Fits .i64 ((i : Int) + 1) := fits_of (by omega) (by omega)
        have e : w.getD (o + i) 0 = if i < l.length then l.getD i 0 else markN i := by
          rw [← subI_get (l := w) (o := o) hi, h4]
          exact roomL_get l (by omega)
        by_cases c : i < l.length
        · rw [if_pos c] at e
          refine SimC.run (B' := [.ints .u8 w]) gn_ok (by decide) (sd_go1 o n i l w) ?_ (by decide) q0 (by decide) (by simp) hgl
          simp only [allC_cons, allC_nil, and_true]
          exact ⟨F1, decide_eq_true (by omega), decide_eq_false (by omega), F3, by rw [decide_eq_true e]; rfl, ⟨by omega, by omega⟩, by omega, ⟨by omega, by omega⟩, decide_eq_true (by omega), F3, F2⟩
        · rw [if_neg c] at e
          refine SimC.run (B' := [.ints .u8 w]) gn_ok (by decide) (sd_go0 o n i l w) ?_ (by decide) q0 (by decide) (by simp) hgl
          simp only [allC_cons, allC_nil, and_true]
          exact ⟨F1, decide_eq_true (by omega), tmod_fits i, by omega, ⟨by omega, by omega⟩, decide_eq_true (by omega), F3, decide_eq_false (by omega), F3, by rw [decide_eq_true e]; rfl, F2⟩
      · exact SimC.weaken (SimC.run (B' := [.ints .u8 w]) gn_ok (by decide) (sd_end o n n l w) (by simp only [allC_cons, allC_nil, and_true]; exact ⟨F1, decide_eq_false (by omega)⟩) (by decide) q0 (by decide) (by simp) hgl) (fun t => .inr (by simp [mkT, tget, Tr.get_lf]))
    · simp at hG
  · simp at hG
theorem sd_run (o n : Nat) (l w : List Int) : runF gn 300 [.loop 2 sdKeep 1 (.exit 0) (mkLoopN sdG)] 23 [.sl 0 0 o 1 0 n false, .roi .u8 l] [.ints .u8 w] [] =
    some (.bool true, [some (.ints .u8 w)], [LoopGood gn 44 (.loop sdBody) sdKeep 1 (.exit 0) (mkLoopN sdG), o + n ≤ w.length, n ≤ 140737488355328, l.length ≤ 140737488355328, n = l.length + 70, subI w o n = roomL l]) :=
  run_parts (by kernel_rfl) (by kernel_rfl) (by kernel_rfl)
def F23 : SumF := fun args B => match args, B with
  | [x, .roi K2 l], [.ints K w] => match sameK K .u8, sameK K2 .u8, vwI 0 w x with
    | true, true, some (o, n) => some { val := .sbool true, C := [o + n ≤ w.length, n ≤ 140737488355328, l.length ≤ 140737488355328, n = l.length + 70, subI w o n = roomL l] }
    | _, _, _ => none
  | _, _ => none
theorem acc23 : Acc gn 23 F23 := by
  intro args B out h hC
  unfold F23 at h
  split at h
  · rename_i x K2 l K w
    split at h
    · rename_i o n hK hK2 hx
      obtain rfl := kidx_inj hK
      obtain rfl := kidx_inj hK2
      simp only [Option.some.injEq] at h; subst h
      have hL := sd_loop
      refine FnOk.argsH (args' := [.sl 0 0 o 1 0 n false, .roi .u8 l]) (FnOk.toSb (b := true) (FnOk.run (out := { val := .bool true }) (new := []) gn_ok (sd_run o n l w) (allC_cons.2 ⟨hL, hC⟩) (by simp [upto]) rfl (by simp) (by simp) (fun j hj => by
        match j, hj with
        | 0, _ => rfl)) rfl) (fun w0 O ρ Φ w vs x d => ?_)
      simp only [DenT] at d ⊢
      obtain ⟨v1, r1, rfl, d1, v2, r2, rfl, d2, rfl⟩ := d
      exact ⟨_, _, rfl, vwI_den hx x rfl d1, _, _, rfl, d2, rfl⟩
    · simp at h
  · simp at h
end Go.Proofs.Ytejcjdhplpjpjaa

namespace Go.Proofs.Ytejcjdhplpjpjaa
open Go Go.Vx
/-! ### the document's events -/
theorem rif_1 : runF gn 100 [.br true] 49 [.sbool true] [] [] = some (.agg [.lit .i64 1, .lit .i64 1], [], [true = true]) := by kernel_rfl
theorem rif_0 : runF gn 100 [.br false] 49 [.sbool false] [] [] = some (.agg [.lit .i64 1, .lit .i64 0], [], [false = false]) := by kernel_rfl
def F49 : SumF := fun args B => match args, B with
  | [.sbool b], [] => some { val := .agg [.lit .i64 1, .int .i64 (if b = true then 1 else 0)] }
  | _, _ => none
theorem den_lits {w0 : World} {O : Go.Vx.Own} {ρ : Rho} {n : Int} {v : Value} (h : DenV w0 O ρ (.agg [.lit .i64 1, .lit .i64 n]) v) : DenV w0 O ρ (.agg [.lit .i64 1, .int .i64 n]) v := by
  rcases h with h | ⟨h1, h⟩
  · simp at h
  · refine .inr ⟨h1, ?_⟩
    simp only [DenC, DenL] at h ⊢
    exact h
theorem acc49 : Acc gn 49 F49 := by
  intro args B out h hC
  unfold F49 at h
  split at h
  · rename_i b
    simp only [Option.some.injEq] at h; subst h
    cases b with
    | true => exact FnOk.val (C := []) (rd := []) (FnOk.pure gn_ok rif_1 (by simp [AllC])) (fun _ _ _ _ h => den_lits h)
    | false => exact FnOk.val (C := []) (rd := []) (FnOk.pure gn_ok rif_0 (by simp [AllC])) (fun _ _ _ _ h => den_lits h)
  · simp at h
theorem rat_run (n : Int) : runF gn 100 [] 50 [.int .i64 n] [] [] = some (.agg [.lit .i64 2, .int .i64 n], [], []) := by kernel_rfl
def F50 : SumF := fun args B => match args, B with
  | [.int .i64 n], [] => some { val := .agg [.lit .i64 2, .int .i64 n] }
  | _, _ => none
theorem acc50 : Acc gn 50 F50 := by
  intro args B out h hC
  unfold F50 at h
  split at h
  · simp only [Option.some.injEq] at h; subst h
    exact FnOk.pure gn_ok (rat_run _) (by simp [AllC])
  · simp at h
theorem rop_run (n : Int) : runF gn 100 [] 64 [.int .i64 n] [] [] = some (.agg [.lit .i64 3, .int .i64 n], [], []) := by kernel_rfl
def F64 : SumF := fun args B => match args, B with
  | [.int .i64 n], [] => some { val := .agg [.lit .i64 3, .int .i64 n] }
  | _, _ => none
theorem acc64 : Acc gn 64 F64 := by
  intro args B out h hC
  unfold F64 at h
  split at h
  · simp only [Option.some.injEq] at h; subst h
    exact FnOk.pure gn_ok (rop_run _) (by simp [AllC])
  · simp at h
noncomputable abbrev ge : Ctx := gn.add [(22, F22), (23, F23), (49, F49), (50, F50), (64, F64)]
theorem ge_ok : CtxU ge := gn_ok.add mixed noGo (by
  intro x hx
  simp only [List.mem_cons, List.not_mem_nil, or_false] at hx
  rcases hx with rfl | rfl | rfl | rfl | rfl
  · exact acc22
  · exact acc23
  · exact acc49
  · exact acc50
  · exact acc64)
end Go.Proofs.Ytejcjdhplpjpjaa

namespace Go.Proofs.Ytejcjdhplpjpjaa
open Go Go.Vx
/-! ### MacTwo: a third Mac; the loop's runs -/
noncomputable abbrev w1V (v : Int) (a : Nat → Int) : Body := .cells (nilR :: (svF (List.replicate 5 .u64 ++ List.replicate 5 .u64 ++ List.replicate 16 .u8 ++ List.replicate 16 .u8) (fun j => bif Nat.beq j 26 then v else a j) 0 ++ [.lit .i64 1]))
theorem w1_run (v : Int) (a : Nat → Int) : runF gw 400 [.br false, .br false, .br true] 12 [.ptr 0 0, .sl 1 1 0 1 0 1 true] [macV nilR a, .cells [.int .u8 v]] [] =
    some (.tuple [], [some (w1V v a), some (.cells [.int .u8 v])], [decide (0 < a 42) = false, false = false, true = true]) :=
  run_parts (by kernel_rfl) (by kernel_rfl) (by kernel_rfl)
noncomputable def F12c : SumF := fun args B => match args, B with
  | [.ptr 0 0, .sl 1 1 0 1 0 1 true], [.cells ms, .cells bs] => match macAs ms, headK (ms.take 1), numsAs [.u8] bs with
    | some la, .nil, some [v] => some { val := .tuple [], upd := [(0, some (w1V v (atL la))), (1, some (.cells [.int .u8 v]))], C := [atL la 42 = 0] }
    | _, _, _ => none
  | _, _ => none
theorem acc12c : Acc gw 12 F12c := by
  intro args B out h hC
  unfold F12c at h
  split at h
  · rename_i ms bs
    split at h
    · rename_i la v ha hr hb
      have hr := head_nil hr
      simp only [Option.some.injEq] at h; subst h
      simp only [allC_cons, allC_nil, and_true] at hC
      refine FnOk.preB (B' := [macV nilR (atL la), .cells [.int .u8 v]]) ?_ ⟨cells_mac ha hr rfl, cells_nums hb, trivial⟩ (fun j => by
        match j with
        | 0 => rfl
        | 1 => rfl
        | j + 2 => rfl)
      exact FnOk.val (C := []) (rd := []) (FnOk.run (new := []) gw_ok (w1_run v (atL la)) (by simp only [allC_cons, allC_nil, and_true]; exact decide_eq_false (by omega)) (by simp [upto]) rfl (by simp) (by simp) (fun j hj => by
          match j, hj with
          | 0, _ => rfl
          | 1, _ => rfl)) (fun _ _ _ _ h => h)
    · simp at h
  · simp at h
noncomputable def oneOf (F G : SumF) : SumF := fun args B => match F args B with
  | some o => some o
  | none => G args B
theorem acc_one {g : Ctx} {f : FuncId} {F G : SumF} (hF : Acc g f F) (hG : Acc g f G) : Acc g f (oneOf F G) := by
  intro args B out h hC
  unfold oneOf at h
  split at h
  · rename_i o e
    simp only [Option.some.injEq] at h; subst h
    exact hF _ _ _ e hC
  · exact hG _ _ _ h hC
noncomputable abbrev gt : Ctx := gw.add [(11, F11), (12, oneOf F12 F12c), (13, F13), (14, F14), (15, F15)]
theorem gt_ok : CtxU gt := gw_ok.add mixed noGo (by
  intro x hx
  simp only [List.mem_cons, List.not_mem_nil, or_false] at hx
  rcases hx with rfl | rfl | rfl | rfl | rfl
  · exact Acc.of (g := gp) rfl rfl acc11
  · exact acc_one acc12 acc12c
  · exact acc13
  · exact acc14
  · exact Acc.of (g := gko) rfl rfl acc15)
abbrev twKeep : List Nat := [2, 3, 4, 7, 8, 9, 10, 11]
noncomputable abbrev twBody : Code := bodyAt Try.prog 3 10
noncomputable abbrev twO (p : Nat → Bool) (d : Nat → List Int) (m : Nat) (i : Int) : List SV := [.ro 2 m (rowY p d), .ptr 0 0, .ptr 1 0, .ptr 2 0, .ptr 3 0, .own 4, .own 5, .int .i64 i]
noncomputable abbrev twS (p : Nat → Bool) (d : Nat → List Int) (m i : Nat) : List (Nat × SV) := twKeep.zip (twO p d m (i : Int))
noncomputable abbrev twB (k l a b : Nat → Int) (x y : List Int) : List Body := [.cells (svF (List.replicate 32 .u8) k 0), .cells (svF (List.replicate 32 .u8) l 0), macV nilR a, macV nilR b, .ints .u8 x, .ints .u8 y]
end Go.Proofs.Ytejcjdhplpjpjaa
