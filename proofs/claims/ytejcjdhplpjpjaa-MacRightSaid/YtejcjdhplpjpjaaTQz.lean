/- Accounts of this seat's functions: lemmas, no statement of their own. No conditions. -/
import Derived.Test.YtejcjdhplpjpjaaTQy
namespace Go.Proofs.Ytejcjdhplpjpjaa
open Go Go.Vx
theorem DT_kk (k : Nat → Int) (x : List Int) : DT (kk k) x = DT k x := by
  unfold DT; rw [kk_kk]
theorem CK_eq (k t : Nat → Int) (x : List Int) : CK k t x = decide (DT k x = listF 16 t 0) := by
  unfold CK
  rw [DT_L, DT_kk]
  by_cases h : DT k x = listF 16 t 0
  · rw [if_pos h, decide_eq_true h]; rfl
  · rw [if_neg h, decide_eq_false h]; rfl
theorem LF_idem (t : Nat → Int) : listF 16 (atL (listF 16 t 0)) 0 = listF 16 t 0 := listF_eq0.2 fun j hj => atLF hj
theorem uxor_zero {a v : Int} (ha : 0 ≤ a) (hv : 0 ≤ v) : a = uxor a v ↔ v = 0 := by
  obtain ⟨n, rfl⟩ := Int.eq_ofNat_of_zero_le ha
  obtain ⟨m, rfl⟩ := Int.eq_ofNat_of_zero_le hv
  show (n : Int) = ((n ^^^ m : Nat) : Int) ↔ _
  constructor
  · intro h
    have h2 : n = n ^^^ m := by omega
    have h3 : n ^^^ (n ^^^ m) = n ^^^ n := by rw [← h2]
    rw [← Nat.xor_assoc, Nat.xor_self, Nat.zero_xor] at h3
    omega
  · intro h
    have : m = 0 := by omega
    subst this
    rw [Nat.xor_zero]
theorem T0_nn (k : Nat → Int) (x : List Int) {j : Nat} (hj : j < 16) : 0 ≤ T0 k x j := by
  show 0 ≤ atL (dTag _ _ x) j
  rw [dTag, atLF hj]
  exact Int.emod_nonneg _ (by decide)
theorem T1_eq (k : Nat → Int) (x : List Int) {p v : Int} (hq : (q16 p).toNat < 16) (hv : 0 ≤ v) : (DT (kk k) x = listF 16 (T1 k x p v) 0) ↔ v = 0 := by
  have hg : (listF 16 (T0 k x) 0).getD (q16 p).toNat 0 = T0 k x (q16 p).toNat := atLF hq
  rw [show DT (kk k) x = listF 16 (T0 k x) 0 from (DT_L (kk k) x).symm]
  rw [listF_eq0]
  have ux := uxor_zero (T0_nn k x hq) hv
  constructor
  · intro h
    have := h _ hq
    simp only [T1, if_pos rfl] at this
    rw [hg] at this
    exact ux.1 this
  · intro h j hj
    by_cases c : (q16 p).toNat = j
    · simp only [T1, if_pos c]
      rw [hg, ← c]
      exact ux.2 h
    · simp only [T1, if_neg c]
theorem q16_rg (p : Int) : 0 ≤ q16 p ∧ q16 p < 16 ∧ 0 ≤ p.tmod 16 + 16 ∧ p.tmod 16 + 16 < 32 := by
  have h1 : p.tmod 16 < 16 := Int.tmod_lt_of_pos p (by decide)
  have h2 : -16 < p.tmod 16 := Int.lt_tmod_of_pos p (by decide)
  have h3 : 0 ≤ p.tmod 16 + 16 := by omega
  exact ⟨Int.tmod_nonneg 16 h3, Int.tmod_lt_of_pos _ (by decide), h3, by omega⟩
theorem right_ok (k : Nat → Int) (m : Nat) (d : Nat → List Int) (Fm : Fits .i64 (m : Int)) (_ : ∀ i, Fits .i64 ((d i).length : Int)) (hff : ∀ i, i < m → factsC (.roi .u8 (d i))) (p : Int) (v : Int) (fv : Fits .u8 v) (hl : LB d m) :
    FnOk gu 6 [.agg (svF (List.replicate 32 .u8) k 0), .ro 1 m fun i => .roi .u8 (d i), .int .i64 p, .int .u8 v] [] { val := .bool true } := by
  show FnOk gu 6 [.agg (svF (List.replicate 32 .u8) k 0), .ro 1 m (rowL d), .int .i64 p, .int .u8 v] [] { val := .bool true }
  have hc : AllC (lC (rowL d) m) := by simp only [lC, allC_cons, allC_nil, and_true]; exact ⟨rfl, Fm, hl⟩
  have ho : AllC (oC (rowL d) m) := by
    simp only [oC, lC, allC_append, allC_cons, allC_nil, and_true]; exact ⟨⟨rfl, Fm, hl⟩, hff⟩
  cases hx : lX d m with
  | true => exact FnOk.pure gu_ok (right_run0 k d m p v) (allC_append.2 ⟨hc, by simp only [allC_cons, allC_nil, and_true]; exact hx⟩)
  | false =>
    obtain ⟨r1, r2, r3, r4⟩ := q16_rg p
    have hq : (q16 p).toNat < 16 := by omega
    have hv : 0 ≤ v := fv.1
    refine FnOk.ofSb (b := true) (FnOk.pure gu_ok (right_run1 k d m p v) ?_) rfl
    refine allC_append.2 ⟨allC_append.2 ⟨hc, by simp only [allC_cons, allC_nil, and_true]; exact hx⟩, allC_append.2 ⟨ho, allC_append.2 ⟨ho, allC_append.2 ⟨?_, ho⟩⟩⟩⟩
    simp only [allC_cons, allC_nil, and_true]
    refine ⟨?_, fits_of (by omega) (by omega), hq, ⟨r1, r2⟩, hq, ⟨r1, r2⟩, ?_⟩
    · rw [CK_eq, LF_idem, DT_L, decide_eq_true rfl]; rfl
    · rw [CK_eq, LF_idem, decide_eq_decide.2 (T1_eq k (xZ d m) hq hv)]
      exact beq_self_eq_true _
end Go.Proofs.Ytejcjdhplpjpjaa
