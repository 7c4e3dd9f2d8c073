/- Accounts of this seat's functions: lemmas, no statement of their own. No conditions. -/
import Derived.Test.YtghdadkpbofbbaaTXa
namespace Go.Proofs.Ytghdadkpbofbbaa
open Go Go.Vx
theorem acc11 : Acc gRm 11 F11 := by
  intro args B out h hC
  unfold F11 at h
  split at h
  · rename_i cs K l
    split at h
    · rename_i le ln hb hd hK
      obtain rfl := sameKs_eq hK
      simp only [Option.some.injEq] at h; subst h
      have c1 : Inv (atL le) (atL ln) := hC _ (by simp)
      refine FnOk.toSb (b := true) ?_ rfl
      refine FnOk.preB (B' := [bkV (atL le) (atL ln) 1, .rows [.i64, .i64] l]) ?_ ⟨cells_bank hb hd rfl, ⟨BImp.refl _, fun _ h => by simp at h⟩, trivial⟩ (fun j => by
        match j with
        | 0 => rfl
        | 1 => rfl
        | j + 2 => rfl)
      exact FnOk.run (out := { val := .bool true, upd := [(0, some (bkV (atL le) (atL ln) 1))] }) (new := []) gRm_ok (sd_run _ _ _) (sd_ok c1) (by simp [upto]) rfl (by simp) (by simp) (fun j hj => by
        match j, hj with
        | 0, _ => rfl
        | 1, _ => rfl
        | j + 2, hj => exact absurd hj (by simp))
    · simp at h
  · rename_i cs
    split at h
    · rename_i le ln hb hd
      simp only [Option.some.injEq] at h; subst h
      have c1 : Inv (atL le) (atL ln) := hC _ (by simp)
      refine FnOk.toSb (b := true) ?_ rfl
      refine FnOk.preB (B' := [.cells (bk168 (atL le) (atL ln) ++ [.raw (.slice none 0 0)])]) ?_ ⟨cells_bank hb hd rfl, trivial⟩ (fun j => by
        match j with
        | 0 => rfl
        | j + 1 => rfl)
      exact FnOk.run (out := { val := .bool true, upd := [(0, some (.cells (bk168 (atL le) (atL ln) ++ [.raw (.slice none 0 0)])))] }) (new := []) gRm_ok (sd_run0 _ _) (sd_ok c1) (by simp [upto]) rfl (by simp) (by simp) (fun j hj => by
        match j, hj with
        | 0, _ => rfl
        | j + 1, hj => exact absurd hj (by simp))
    · simp at h
  · simp at h
noncomputable abbrev gP : Ctx := gRm.add [(10, F10), (11, F11)]
theorem gP_ok : CtxU gP := gRm_ok.add mixed noGo (by
  intro x hx
  simp only [List.mem_cons, List.not_mem_nil, or_false] at hx
  rcases hx with rfl | rfl
  · exact acc10
  · exact acc11)
/-! ### scripts as rows -/
noncomputable abbrev rowsF (a : Nat → Nat → Int) : Nat → SV := fun i => rwV (a i)
def cellM (cs : List SV) (j : Nat) : Int := match cs[j]? with | some (.int _ n) => n | _ => 0
def aOf (f : Nat → SV) (i j : Nat) : Int := match f i with | .agg cs => cellM cs j | _ => 0
theorem svF_get : ∀ (ks : List IntKind) (a : Nat → Int) (i j : Nat), j < ks.length → ∃ k, (svF ks a i)[j]? = some (.int k (a (i + j)))
  | [], _, _, j, h => absurd h (by simp)
  | k :: ks, a, i, 0, _ => ⟨k, rfl⟩
  | k :: ks, a, i, j + 1, h => by
    obtain ⟨q, hq⟩ := svF_get ks a (i + 1) j (by simpa using h)
    exact ⟨q, by rw [show i + (j + 1) = i + 1 + j by omega]; exact hq⟩
theorem svF_congr : ∀ (ks : List IntKind) {a b : Nat → Int} (i : Nat), (∀ j, j < ks.length → a (i + j) = b (i + j)) → svF ks a i = svF ks b i
  | [], _, _, _, _ => rfl
  | k :: ks, a, b, i, h => by
    show _ :: _ = _ :: _
    have h0 := h 0 (by simp)
    rw [Nat.add_zero] at h0
    have h1 := svF_congr ks (a := a) (b := b) (i + 1) (fun j hj => by rw [show i + 1 + j = i + (j + 1) by omega]; exact h (j + 1) (by simpa using hj))
    rw [h0, h1]
theorem aOf_sc (a : Nat → Nat → Int) : rowsF (aOf (rowsF a)) = rowsF a := funext fun i => by
  show SV.agg _ = SV.agg _
  congr 1
/-- the rows' numbers, as the accounts see them -/
abbrev rX (a : Nat → Nat → Int) (i : Nat) : Nat → Int := atL (listF 38 (a i) 0)
abbrev n40 (e : Nat → Int) : Nat → Int := atL (listF 40 e 0)
abbrev n128 (n : Nat → Int) : Nat → Int := atL (listF 128 n 0)
noncomputable def eZ (a : Nat → Nat → Int) (e : Nat → Int) : Nat → (Nat → Int)
  | 0 => e
  | i + 1 => scE (rX a i) (n40 (eZ a e i))
noncomputable def nZ (a : Nat → Nat → Int) (n : Nat → Int) : Nat → (Nat → Int)
  | 0 => n
  | i + 1 => scN (rX a i) (n128 (nZ a n i))
def lZ (a : Nat → Nat → Int) (l : List (List Int)) : Nat → List (List Int)
  | 0 => l
  | i + 1 => lZ a l i ++ scL (rX a i)
theorem lZ_len (a : Nat → Nat → Int) (l : List (List Int)) : ∀ i, (lZ a l i).length ≤ l.length + i
  | 0 => by simp [lZ]
  | i + 1 => by have := lZ_len a l i; have := scL_len (rX a i); simp only [lZ, List.length_append]; omega
theorem Inv_n {e n : Nat → Int} : Inv (n40 e) (n128 n) ↔ Inv e n := by
  have h1 : ∀ q, q < 8 → L5 (fun r => n40 e (5 * q + r)) = L5 (fun r => e (5 * q + r)) := fun q hq => listF_eq0.2 fun r hr => atL_listF (a := e) (by omega)
  have h2 : ∀ q, q < 8 → ∀ j, j < 16 → n128 n (16 * q + j) = n (16 * q + j) := fun q hq j hj => atL_listF (a := n) (by omega)
  constructor
  · rintro ⟨N, hN⟩
    refine ⟨N, fun q hq => ?_⟩
    obtain ⟨a, b, c⟩ := hN q hq
    rw [h1 q hq] at a
    exact ⟨a, b, fun j hj => by rw [← h2 q hq j hj]; exact c j hj⟩
  · rintro ⟨N, hN⟩
    refine ⟨N, fun q hq => ?_⟩
    obtain ⟨a, b, c⟩ := hN q hq
    rw [← h1 q hq] at a
    exact ⟨a, b, fun j hj => by rw [h2 q hq j hj]; exact c j hj⟩
abbrev RowsOk (m : Nat) (a : Nat → Nat → Int) : Prop := ∀ i, i < m → factsL (svF rowK (a i) 0)
theorem row_facts2 {m : Nat} {a : Nat → Nat → Int} (h : RowsOk m a) {i : Nat} (hi : i < m) : (∀ j, j < 32 → Byte (rX a i (4 + j))) ∧ (0 ≤ rX a i 36 ∧ rX a i 36 < 4294967296) ∧ 0 ≤ rX a i 37 := by
  obtain ⟨r1, r2, r3⟩ := row_facts (h i hi)
  have g : ∀ j, j < 38 → rX a i j = a i j := fun j hj => atL_listF hj
  exact ⟨fun j hj => by rw [g _ (by omega)]; exact r1 j hj, by rw [g _ (by decide)]; exact r2, by rw [g _ (by decide)]; exact r3⟩
theorem Inv_Z {m : Nat} {a : Nat → Nat → Int} (h : RowsOk m a) {e n : Nat → Int} (h0 : Inv e n) : ∀ i, i ≤ m → Inv (eZ a e i) (nZ a n i)
  | 0, _ => h0
  | i + 1, hi => by
    have ih := Inv_Z h h0 i (by omega)
    obtain ⟨r1, r2, r3⟩ := row_facts2 h (i := i) (by omega)
    exact Inv_step (Inv_n.2 ih) r1 r2 r3
theorem Inv_zero : Inv (fun _ => 0) (fun _ => 0) := ⟨fun _ => 0, fun q _ => ⟨is_z, ⟨(by decide : (0 : Int) ≤ 0), (by decide : (0 : Int) < Q)⟩, fun j _ => by unfold dgN; split <;> simp⟩⟩
end Go.Proofs.Ytghdadkpbofbbaa
