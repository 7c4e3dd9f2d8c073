/- Accounts of this seat's functions: lemmas, no statement of their own. No conditions. -/
import Derived.Test.YtibfgdbkobgemaaTE
namespace Go.Proofs.Ytibfgdbkobgemaa
open Go Go.Vx

/-! ### PrimeBytes -/
def bwT (la : List Int) (i : Nat) (b : Bool) : Prop := (!decide (atL la i = 255)) = b
def bwPre (la : List Int) : Nat → List Prop
  | 0 => [decide (3 < atL la 16) = false]
  | k + 1 => bwPre la k ++ [bwT la (k + 1) false]
abbrev in17 (la : List Int) : List SV := [.agg (svF (List.replicate 17 .u8) (atL la) 0)]
theorem bw_over (la : List Int) : runF g5 200 [.br true] 17 (in17 la) [] [] = some (SV.bool false, [], [decide (3 < atL la 16) = true]) := by kernel_rfl
theorem bw_at (la : List Int) : ∀ k, k < 15 → runF g5 200 (List.replicate (k + 1) (.br false) ++ [.br true]) 17 (in17 la) [] [] = some (SV.bool true, [], bwPre la k ++ [bwT la (k + 1) true])
  | 0, _ => by kernel_rfl
  | 1, _ => by kernel_rfl
  | 2, _ => by kernel_rfl
  | 3, _ => by kernel_rfl
  | 4, _ => by kernel_rfl
  | 5, _ => by kernel_rfl
  | 6, _ => by kernel_rfl
  | 7, _ => by kernel_rfl
  | 8, _ => by kernel_rfl
  | 9, _ => by kernel_rfl
  | 10, _ => by kernel_rfl
  | 11, _ => by kernel_rfl
  | 12, _ => by kernel_rfl
  | 13, _ => by kernel_rfl
  | 14, _ => by kernel_rfl
  | k + 15, h => absurd h (by omega)
theorem bw_hi (la : List Int) : runF g5 200 (List.replicate 16 (.br false) ++ [.br true]) 17 (in17 la) [] [] = some (SV.bool true, [], bwPre la 15 ++ [decide (atL la 16 < 3) = true]) := by kernel_rfl
theorem bw_lo (la : List Int) : runF g5 200 (List.replicate 16 (.br false) ++ [.br false]) 17 (in17 la) [] [] = some (SV.sbool (decide (atL la 0 < 251)), [], bwPre la 15 ++ [decide (atL la 16 < 3) = false]) := by kernel_rfl
def belowB (la : List Int) : Bool := decide (leN 17 (atL la) 0 < P5)
def F17w (bw : List Int → Bool) : SumF := fun args B => match args, B with
  | [.agg xs], [] => match numsAs (List.replicate 17 .u8) xs with
    | some la => some { val := .sbool (bw la) }
    | none => none
  | _, _ => none
theorem bwPre_ok {la : List Int} (h : atL la 16 ≤ 3) : ∀ k, (∀ i, i < k → atL la (i + 1) = 255) → AllC (bwPre la k)
  | 0, _ => by
    simp only [bwPre, allC_cons, allC_nil, and_true, decide_eq_false_iff_not]; omega
  | k + 1, hk => by
    have := bwPre_ok h k fun i hi => hk i (by omega)
    intro p hp
    rcases List.mem_append.1 hp with hp | hp
    · exact this p hp
    · simp only [List.mem_singleton] at hp; subst hp
      simp only [bwT, hk k (by omega), decide_true, Bool.not_true]
theorem FnOk.toB {g : Ctx} {f : FuncId} {args : List SV} {b b' : Bool} {l : Bool} (h : FnOk g f args [] { val := bif l then .bool b else .sbool b }) (e : b = b') : FnOk g f args [] { val := .sbool b' } := by
  refine FnOk.val h fun _ _ _ _ d => ?_
  subst e
  cases l
  · exact d
  · have := denV_bool (l := true) (b := b) d (by cases b <;> rfl)
    exact den_cell rfl (by rw [this]; rfl) (by rw [this]; simp [DenC])
/-- the first i below n that isn't so -/
theorem first_not {p : Nat → Prop} [DecidablePred p] : ∀ n, (∀ i, i < n → p i) ∨ ∃ k, k < n ∧ (∀ i, i < k → p i) ∧ ¬ p k
  | 0 => .inl fun i h => absurd h (by omega)
  | n + 1 => by
    rcases first_not (p := p) n with h | ⟨k, hk, h1, h2⟩
    · by_cases hp : p n
      · left; intro i hi
        rcases Nat.lt_succ_iff_lt_or_eq.1 hi with e | e
        · exact h i e
        · subst e; exact hp
      · exact .inr ⟨n, by omega, h, hp⟩
    · exact .inr ⟨k, by omega, h1, h2⟩
theorem leN17 (f : Nat → Int) : leN 17 f 0 = f 0 + 256 * (f 1 + 256 * (f 2 + 256 * (f 3 + 256 * (f 4 + 256 * (f 5 + 256 * (f 6 + 256 * (f 7 + 256 * (f 8 + 256 * (f 9 + 256 * (f 10 + 256 * (f 11 + 256 * (f 12 + 256 * (f 13 + 256 * (f 14 + 256 * (f 15 + 256 * f 16))))))))))))))) := by
  simp only [leN, Nat.zero_add, Nat.reduceAdd]; omega
/-- bytes, one of them not 255 -/
theorem leN_room : ∀ (n : Nat) {f : Nat → Int} (i : Nat), (∀ j, j < n → Byte (f (i + j))) → ∀ k, k < n → f (i + k) ≠ 255 → leN n f i ≤ ((256 ^ n : Nat) : Int) - 1 - ((256 ^ k : Nat) : Int)
  | 0, _, _, _, k, hk, _ => absurd hk (by omega)
  | n + 1, f, i, h, k, hk, hne => by
    have h0 : 0 ≤ f i ∧ f i < 256 := h 0 (by omega)
    have hr : ∀ j, j < n → Byte (f (i + 1 + j)) := fun j hj => by have := h (j + 1) (by omega); rwa [show i + (j + 1) = i + 1 + j by omega] at this
    have hp : ((256 ^ (n + 1) : Nat) : Int) = 256 * ((256 ^ n : Nat) : Int) := by rw [Nat.pow_succ, Int.natCast_mul]; omega
    simp only [leN]
    match k, hk, hne with
    | 0, _, hne =>
      have := (leN_nonneg n (f := f) (i + 1) hr).2
      have hne' : f i ≠ 255 := hne
      have e1 : ((256 ^ 0 : Nat) : Int) = 1 := rfl
      rw [e1, hp]
      omega
    | k + 1, hk, hne =>
      have := leN_room n (f := f) (i + 1) hr k (by omega) (by rwa [show i + 1 + k = i + (k + 1) by omega])
      have hq : ((256 ^ (k + 1) : Nat) : Int) = 256 * ((256 ^ k : Nat) : Int) := by rw [Nat.pow_succ, Int.natCast_mul]; omega
      rw [hp, hq]
      omega
abbrev F17 : SumF := F17w belowB
theorem ok17 : Acc g5 17 F17 := by
  intro args B out h _
  unfold F17 F17w at h
  split at h
  · split at h
    · rename_i la hla
      simp only [Option.some.injEq] at h; subst h
      refine FnOk.imp (args' := in17 la) ?_ ⟨nums_imp hla, trivial⟩
      refine FnOk.facts fun ⟨hf, _⟩ => ?_
      have hb : ∀ i, i < 17 → Byte (atL la i) := fun i hi => facts8 hf i hi
      have h16 : 0 ≤ atL la 16 ∧ atL la 16 < 256 := hb 16 (by decide)
      have e2 := leN_add 16 1 (atL la) 0
      have e4 : leN 1 (atL la) (0 + 16) = atL la 16 := by simp only [leN, Nat.zero_add]; omega
      have e7 : ((256 ^ 16 : Nat) : Int) = 340282366920938463463374607431768211456 := rfl
      rw [e4, e7] at e2
      have g2 : leN 17 (atL la) 0 = leN 16 (atL la) 0 + 340282366920938463463374607431768211456 * atL la 16 := e2
      have l16 := leN_nonneg 16 (f := atL la) 0 (fun j hj => by rw [Nat.zero_add]; exact hb j (by omega))
      rw [e7] at l16
      by_cases h3 : atL la 16 ≤ 3
      · rcases first_not (p := fun i => atL la (i + 1) = 255) 15 with hall | ⟨k, hk, h1, h2⟩
        · by_cases h4 : atL la 16 < 3
          · refine FnOk.toB (l := true) (FnOk.pure g5_ok (bw_hi la) (allC_app (bwPre_ok h3 15 hall) ?_)) ?_
            · simp [AllC, h4]
            · symm; unfold belowB; rw [decide_eq_true_iff, g2]; unfold P5; omega
          · refine FnOk.toB (l := false) (FnOk.pure g5_ok (bw_lo la) (allC_app (bwPre_ok h3 15 hall) ?_)) ?_
            · simp [AllC, h4]
            · unfold belowB
              have := leN17 (atL la)
              have a1 : atL la 1 = 255 := hall 0 (by decide)
              have a2 : atL la 2 = 255 := hall 1 (by decide)
              have a3 : atL la 3 = 255 := hall 2 (by decide)
              have a4 : atL la 4 = 255 := hall 3 (by decide)
              have a5 : atL la 5 = 255 := hall 4 (by decide)
              have a6 : atL la 6 = 255 := hall 5 (by decide)
              have a7 : atL la 7 = 255 := hall 6 (by decide)
              have a8 : atL la 8 = 255 := hall 7 (by decide)
              have a9 : atL la 9 = 255 := hall 8 (by decide)
              have a10 : atL la 10 = 255 := hall 9 (by decide)
              have a11 : atL la 11 = 255 := hall 10 (by decide)
              have a12 : atL la 12 = 255 := hall 11 (by decide)
              have a13 : atL la 13 = 255 := hall 12 (by decide)
              have a14 : atL la 14 = 255 := hall 13 (by decide)
              have a15 : atL la 15 = 255 := hall 14 (by decide)
              have a16 : atL la 16 = 3 := by omega
              rw [this, a1, a2, a3, a4, a5, a6, a7, a8, a9, a10, a11, a12, a13, a14, a15, a16]
              unfold P5
              refine decide_eq_decide.2 ?_
              omega
        · refine FnOk.toB (l := true) (FnOk.pure g5_ok (bw_at la k hk) (allC_app (bwPre_ok h3 k h1) ?_)) ?_
          · simp [AllC, bwT, h2]
          · symm; unfold belowB; rw [decide_eq_true_iff, g2]; unfold P5
            have := leN_room 16 (f := atL la) 0 (fun j hj => by rw [Nat.zero_add]; exact hb j (by omega)) (k + 1) (by omega) (by rw [Nat.zero_add]; exact h2)
            have p1 : (256 : Int) ≤ ((256 ^ (k + 1) : Nat) : Int) := by
              have : 256 ^ 1 ≤ 256 ^ (k + 1) := Nat.pow_le_pow_right (by decide) (by omega)
              omega
            rw [e7] at this
            omega
      · refine FnOk.toB (l := true) (FnOk.pure g5_ok (bw_over la) ?_) ?_
        · have : 3 < atL la 16 := by omega
          simp [AllC, this]
        · symm; unfold belowB; rw [decide_eq_false_iff_not, g2]; unfold P5; omega
    · simp at h
  · simp at h
def rowL (a b c : Int) : List Int := [a, b, b, b, b, b, b, b, b, b, b, b, b, b, b, b, c]
theorem row_run (a b c : Int) : runF g5 200 [] 16 [.int .u8 a, .int .u8 b, .int .u8 c] [] [] = some (.agg (svF (List.replicate 17 .u8) (atL (rowL a b c)) 0), [], []) := by kernel_rfl
def F16 : SumF := fun args B => match args, B with
  | [.int .u8 a, .int .u8 b, .int .u8 c], [] => some { val := .agg (svF (List.replicate 17 .u8) (atL (rowL a b c)) 0) }
  | _, _ => none
theorem ok16 : Acc g5 16 F16 := by
  intro args B out h _
  unfold F16 at h
  split at h
  · simp only [Option.some.injEq] at h; subst h
    exact FnOk.pure g5_ok (row_run _ _ _) (by simp [AllC])
  · simp at h
noncomputable def sum6 (bw : List Int → Bool) : FuncId → Option Sum := fun f => match f with
  | 16 => some (mkSumN F16)
  | 17 => some (mkSumN (F17w bw))
  | f => sum5 f
noncomputable def g6 (bw : List Int → Bool) : Ctx := { P := Try.prog, sum := sum6 bw, glob := fun _ => none }
theorem g6_ok : CtxU (g6 belowB) := by
  refine CtxU.mk (fun f σ h => ?_) mixed noGo
  simp only [g6, sum6] at h
  split at h
  · simp only [Option.some.injEq] at h; subst h
    exact Acc.lift rfl rfl ok16
  · simp only [Option.some.injEq] at h; subst h
    exact Acc.lift rfl rfl ok17
  · exact fun w0 O hG => (g5_ok w0 O hG).sums f σ h

def limP : List Int := [251, 255, 255, 255, 255, 255, 255, 255, 255, 255, 255, 255, 255, 255, 255, 255, 3]
abbrev L17 (f : Nat → Int) : List Int := listF 17 f 0
def bytesC (bw : List Int → Bool) (a : Nat → Int) : List Prop :=
  let n := L5 (blockN (L17 a)); let o := L17 (bytesN n)
  [eqC (L5 (blockN o)) n, (!bw o) = false, eqC (L5 (addN n (L5 (blockN limP)))) n]
theorem bytes_run1 (bw : List Int → Bool) (a : Nat → Int) : runF (g6 bw) 300 [.br false, .br false, .br false, .br true] 4 [.agg (svF (List.replicate 17 .u8) a 0)] [] [] =
    some (SV.bool true, [], bytesC bw a ++ [(!bw (L17 a)) = true]) := by kernel_rfl
theorem bytes_run2 (bw : List Int → Bool) (a : Nat → Int) : runF (g6 bw) 300 [.br false, .br false, .br false, .br false, .br true] 4 [.agg (svF (List.replicate 17 .u8) a 0)] [] [] =
    some (SV.bool true, [], bytesC bw a ++ [decide (BS (L5 (blockN (L17 a))) = L17 a) = true, (!bw (L17 a)) = false]) := by kernel_rfl
theorem is_leN {l : List Int} {n : Int} (hl : l = listF 17 (byteN (n % P5)) 0) : leN 17 (atL l) 0 = n % P5 ∧ (∀ i, i < 17 → Byte (atL l i)) := by
  have h0 : 0 ≤ n % P5 := Int.emod_nonneg n (by unfold P5; decide)
  have h1 : n % P5 < P5 := Int.emod_lt_of_pos n (by unfold P5; decide)
  have hat : ∀ i, i < 17 → atL l i = byteN (n % P5) i := fun i hi => by rw [hl]; exact atL_listF hi
  constructor
  · rw [leN_cong (f' := byteN (n % P5)) fun j hj => by rw [Nat.zero_add]; exact hat j hj, leN_byte 17 0]
    have e1 : ((256 ^ 0 : Nat) : Int) = 1 := rfl
    have e2 : ((256 ^ 17 : Nat) : Int) = 87112285931760246646623899502532662132736 := rfl
    rw [e1, e2]
    unfold P5 at *
    omega
  · intro i hi
    rw [hat i hi]
    unfold byteN Byte
    omega
set_option maxHeartbeats 1000000 in
theorem bytes_ok (a : Nat → Int) : FnOk (g6 belowB) 4 [.agg (svF (List.replicate 17 .u8) a 0)] [] { val := .bool true } := by
  refine FnOk.facts fun ⟨ha, _⟩ => ?_
  have hb := bytes_list ha
  have iN := is_block hb
  have hO := bytes_eq iN
  obtain ⟨o1, o2⟩ := is_leN hO
  have iO := is_block o2
  have eO : leN 17 (atL (BS (L5 (blockN (L17 a))))) 0 % P5 = leN 17 (atL (L17 a)) 0 % P5 := by rw [o1, Int.emod_emod_of_dvd _ (Int.dvd_refl _)]
  have hC : AllC (bytesC belowB a) := by
    simp only [bytesC, allC_cons, allC_nil, and_true]
    have bo : belowB (BS (L5 (blockN (L17 a)))) = true := by
      unfold belowB; rw [decide_eq_true_iff, o1]
      exact Int.emod_lt_of_pos _ (by unfold P5; decide)
    refine ⟨?_, ?_, ?_⟩
    · simp only [eqC, eq_of (iO.cong eO) iN rfl, decide_true, Bool.not_true]
    · rw [show belowB (listF 17 (bytesN (L5 (blockN (L17 a)))) 0) = true from bo]; rfl
    · have il := is_block (l := limP) (fun i hi => getD_byte _ i fun x hx => by
        simp only [limP, List.mem_cons, List.not_mem_nil, or_false] at hx
        rcases hx with e | e | e | e | e | e | e | e | e | e | e | e | e | e | e | e | e <;> rw [e] <;> exact ⟨by decide, by decide⟩)
      have el : leN 17 (atL limP) 0 = P5 := by rw [leN17]; rfl
      have := is_add iN il
      simp only [eqC, eq_of (this.cong (m := leN 17 (atL (L17 a)) 0) (by rw [el, Int.add_emod_right])) iN rfl, decide_true, Bool.not_true]
  cases hbw : belowB (L17 a) with
  | false => exact FnOk.pure g6_ok (bytes_run1 belowB a) (allC_app hC (by simp [AllC, hbw]))
  | true =>
    refine FnOk.pure g6_ok (bytes_run2 belowB a) (allC_app hC ?_)
    have hlt : leN 17 (atL (L17 a)) 0 < P5 := of_decide_eq_true hbw
    have h0 := (leN_nonneg 17 (f := atL (L17 a)) 0 (fun j hj => by rw [Nat.zero_add]; exact hb j hj)).1
    have e : BS (L5 (blockN (L17 a))) = L17 a := by
      rw [hO, Int.emod_eq_of_lt h0 hlt, listF_eq0]
      intro i hi
      have := byte_leN 17 (f := atL (L17 a)) 0 (fun j hj => by rw [Nat.zero_add]; exact hb j hj) i hi
      rw [Nat.zero_add] at this
      rw [this]; exact atL_listF hi
    simp only [allC_cons, allC_nil, and_true, hbw, Bool.not_true]
    exact decide_eq_true e
end Go.Proofs.Ytibfgdbkobgemaa
