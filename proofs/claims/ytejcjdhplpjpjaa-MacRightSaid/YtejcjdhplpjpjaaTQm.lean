/- Accounts of this seat's functions: lemmas, no statement of their own. No conditions. -/
import Derived.Test.YtejcjdhplpjpjaaTQl
namespace Go.Proofs.Ytejcjdhplpjpjaa
open Go Go.Vx
/-! ### MacNothing: the loop -/
abbrev noKeep : List Nat := [0, 3, 4, 5, 6]
noncomputable abbrev noBody : Code := bodyAt Try.prog 4 7
noncomputable abbrev noO (p : Nat → Bool) (d : Nat → List Int) (m : Nat) (i : Int) : List SV := [.ro 2 m (rowY p d), nilR, .ptr 0 0, .own 1, .int .i64 i]
noncomputable abbrev noS (p : Nat → Bool) (d : Nat → List Int) (m i : Nat) : List (Nat × SV) := noKeep.zip (noO p d m (i : Int))
noncomputable abbrev noB (a : Nat → Int) (x : List Int) : List Body := [macV nilR a, .ints .u8 x]
abbrev z32 : List Int := List.replicate 32 0
abbrev z16 : List Int := List.replicate 16 0
abbrev stC (m i : Nat) (x e : List Int) (b : Bool) : List Prop := [Fits .i64 (m : Int), decide ((i : Int) < (m : Int)) = true, (0 : Int) ≤ (i : Int) ∧ (i : Int) < (m : Int), Fits .i64 (131072 - (x.length : Int)), Fits .i64 (x.length : Int), Fits .i64 (e.length : Int), decide (131072 - (x.length : Int) < (e.length : Int)) = b]
theorem no_go0 (p : Nat → Bool) (d : Nat → List Int) (m i : Nat) (a : Nat → Int) (x : List Int) : runC gn 300 71 [.br true, .br false, .br false] noBody (noS p d m i) (noB a x) noKeep [0, 2] =
    some (.normal, noO p d m ((i : Int) + 1), (noB (wrA (n43 a) (d i)) (x ++ d i)).map some, stC m i x (d i) false ++ [0 ≤ n43 a 42 ∧ n43 a 42 < 16, (d i).length ≤ 140737488355328, (x ++ d i).length * 1 ≤ 2 ^ 47, p i = false, (0 : Int) ≤ (i : Int) ∧ (i : Int) < (m : Int), Fits .i64 ((i : Int) + 1)]) :=
  r3_parts4 (by kernel_rfl) (by kernel_rfl) (by kernel_rfl) (by kernel_rfl)
theorem no_go1 (p : Nat → Bool) (d : Nat → List Int) (m i : Nat) (a : Nat → Int) (x : List Int) : runC gn 300 71 [.br true, .br false, .br true, .br false, .br false] noBody (noS p d m i) (noB a x) noKeep [0, 2] =
    some (.normal, noO p d m ((i : Int) + 1), (noB (wrA (n43 a) (d i)) (x ++ d i)).map some, stC m i x (d i) false ++ [0 ≤ n43 a 42 ∧ n43 a 42 < 16, (d i).length ≤ 140737488355328, (x ++ d i).length * 1 ≤ 2 ^ 47, (x ++ d i).length = (x ++ d i).length, (x ++ d i).length ≤ 140737488355328, 0 ≤ n43 (wrA (n43 a) (d i)) 42 ∧ n43 (wrA (n43 a) (d i)) 42 < 16, (!decide (z16 = z16)) = false, p i = true, (0 : Int) ≤ (i : Int) ∧ (i : Int) < (m : Int),
      (!decide (listF 16 (tgN (n43 (wrA (n43 a) (d i)))) 0 = listF 16 (atL (dTag (kT (atL z32)) (atL (hiK (atL z32))) (x ++ d i))) 0)) = false, Fits .i64 ((i : Int) + 1)]) :=
  r3_parts4 (by kernel_rfl) (by kernel_rfl) (by kernel_rfl) (by kernel_rfl)
theorem no_long (p : Nat → Bool) (d : Nat → List Int) (m i : Nat) (a : Nat → Int) (x : List Int) : runC gn 300 71 [.br true, .br true] noBody (noS p d m i) (noB a x) [2] [0, 1] =
    some (.ret, [.bool true], (noB a x).map some, stC m i x (d i) true) :=
  r3_parts4 (by kernel_rfl) (by kernel_rfl) (by kernel_rfl) (by kernel_rfl)
theorem no_end (p : Nat → Bool) (d : Nat → List Int) (m i : Nat) (a : Nat → Int) (x : List Int) : runC gn 300 71 [.br false] noBody (noS p d m i) (noB a x) noKeep [0, 1] =
    some (.exit 0, noO p d m (i : Int), (noB a x).map some, [Fits .i64 (m : Int), decide ((i : Int) < (m : Int)) = false]) :=
  r3_parts4 (by kernel_rfl) (by kernel_rfl) (by kernel_rfl) (by kernel_rfl)
/-! what was taken -/
def xZ (d : Nat → List Int) : Nat → List Int
  | 0 => []
  | i + 1 => xZ d i ++ d i
noncomputable def aZ (a : Nat → Int) (d : Nat → List Int) : Nat → (Nat → Int)
  | 0 => a
  | i + 1 => wrA (n43 (aZ a d i)) (d i)
/-- the first i below m at which P holds, or m -/
def firstI (P : Nat → Bool) : Nat → Nat
  | 0 => 0
  | m + 1 => if firstI P m < m then firstI P m else if P m then m else m + 1
theorem firstI_spec (P : Nat → Bool) : ∀ m, firstI P m ≤ m ∧ (∀ i, i < firstI P m → P i = false) ∧ (firstI P m < m → P (firstI P m) = true)
  | 0 => ⟨Nat.le_refl _, fun i hi => absurd hi (Nat.not_lt_zero i), fun h => absurd h (Nat.lt_irrefl 0)⟩
  | m + 1 => by
    obtain ⟨h1, h2, h3⟩ := firstI_spec P m
    by_cases c : firstI P m < m
    · have e : firstI P (m + 1) = firstI P m := by simp only [firstI]; rw [if_pos c]
      rw [e]
      exact ⟨by omega, h2, fun _ => h3 c⟩
    · have em : firstI P m = m := by omega
      cases hp : P m with
      | true =>
        have e : firstI P (m + 1) = m := by simp only [firstI]; rw [if_neg c, hp]; rfl
        rw [e]
        exact ⟨by omega, fun i hi => h2 i (by omega), fun _ => hp⟩
      | false =>
        have e : firstI P (m + 1) = m + 1 := by simp only [firstI]; rw [if_neg c, hp]; rfl
        rw [e]
        refine ⟨Nat.le_refl _, fun i hi => ?_, fun h => absurd h (Nat.lt_irrefl _)⟩
        by_cases ci : i < m
        · exact h2 i (by omega)
        · rw [show i = m by omega]; exact hp
def stp (d : Nat → List Int) (m : Nat) : Nat := firstI (fun i => decide (131072 < (xZ d i).length + (d i).length)) m
theorem stp_le (d : Nat → List Int) (m : Nat) : stp d m ≤ m := (firstI_spec _ m).1
theorem stp_lt {d : Nat → List Int} {m i : Nat} (h : i < stp d m) : (xZ d i).length + (d i).length ≤ 131072 := by
  have := (firstI_spec _ m).2.1 i h
  have := of_decide_eq_false this
  omega
theorem stp_at {d : Nat → List Int} {m : Nat} (h : stp d m < m) : 131072 < (xZ d (stp d m)).length + (d (stp d m)).length := of_decide_eq_true ((firstI_spec _ m).2.2 h)
theorem xZ_len {d : Nat → List Int} {m : Nat} : ∀ i, i ≤ stp d m → (xZ d i).length ≤ 131072
  | 0, _ => by simp [xZ]
  | i + 1, h => by
    have := stp_lt (show i < stp d m by omega)
    simp only [xZ, List.length_append]; omega
theorem MS_43 {T : Int} {mk : Nat → Int} {X : List Int} {a : Nat → Int} (h : MS T mk X a) : MS T mk X (n43 a) := by
  obtain ⟨h1, h2, h3, h4, h5, h6⟩ := h
  exact ⟨by rw [byL_43]; exact h1, by rw [smL_43]; exact h2, fun j hj => by rw [n43_at (by omega)]; exact h3 j hj, fun j hj => by rw [n43_at (by omega)]; exact h4 j hj, by rw [n43_at (by omega)]; exact h5, h6⟩
theorem MS_h {T : Int} {mk : Nat → Int} {X : List Int} {a : Nat → Int} (h : MS T mk X a) : 0 ≤ a 42 ∧ a 42 < 16 := by
  have := h.held; omega
theorem bytes_of {l : List Int} (h : ∀ n ∈ l, Fits .u8 n) : Bytes l := fun j => by
  rw [List.getD_eq_getElem?_getD]
  cases e : l[j]? with
  | none => exact ⟨by decide, by decide⟩
  | some v =>
    have := h v (List.mem_of_getElem? e)
    exact ⟨this.1, Int.lt_of_le_of_lt this.2 (by decide)⟩
theorem MS_Z {T : Int} {mk : Nat → Int} {d : Nat → List Int} {m : Nat} {a : Nat → Int} (h0 : MS T mk [] a) (hd : ∀ i, i < m → Bytes (d i)) : ∀ i, i ≤ m → MS T mk (xZ d i) (aZ a d i)
  | 0, _ => h0
  | i + 1, h => MS_write (MS_43 (MS_Z h0 hd i (by omega))) (hd i (by omega))
theorem dTag_L (T : Int) (mk : Nat → Int) (X : List Int) : listF 16 (atL (dTag T mk X)) 0 = dTag T mk X := listF_eq0.2 fun j hj => by
  rw [dTag, atLF hj]
abbrev YB (d : Nat → List Int) (m : Nat) : Prop := ∀ i, i < m → Bytes (d i)
theorem rowY_bytes {f : Nat → SV} {m : Nat} (h : f = rowY (pOf f) (dOf f)) (hf : ∀ i, i < m → factsC (f i)) : YB (dOf f) m := fun i hi => by
  have := hf i hi
  rw [h] at this
  have h2 : factsL [.sbool (pOf f i), .roi .u8 (dOf f i)] := this
  exact bytes_of h2.2.1
end Go.Proofs.Ytejcjdhplpjpjaa
