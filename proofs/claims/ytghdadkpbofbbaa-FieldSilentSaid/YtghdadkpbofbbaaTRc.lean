/- Accounts of this seat's functions: lemmas, no statement of their own. No conditions. -/
import Derived.Test.YtghdadkpbofbbaaTRb
namespace Go.Proofs.Ytghdadkpbofbbaa
open Go Go.Vx
/-! ### whole -/
def rdF (N : Int) (i : Nat) : Int := if i = 0 then dgN N 0 + 19 * (N / E255) else dgN N i
abbrev nxt (N : Int) : Int := hxL (L16 (rdF N))
abbrev gt0 (N : Int) : List SV := [.int .i64 (dgN N 0 - prI 0), .lit .i64 0, .lit .i64 0, .lit .i64 0, .lit .i64 0, .lit .i64 0, .lit .i64 0, .lit .i64 0, .lit .i64 0, .lit .i64 0, .lit .i64 0, .lit .i64 0, .lit .i64 0, .lit .i64 0, .lit .i64 0, .lit .i64 0]
abbrev rdC (N : Int) : List Prop := [(!decide (N / E255 = 0)) = true, Fits .i64 (dgN N 0 + 19 * (N / E255)), Fits .i64 (19 * (N / E255)), D0 (atL (L16 (rdF N)))]
abbrev fiC (N : Int) (b : Bool) : List Prop := [(!decide (N / E255 = 0)) = false, DG (atL (L16 (dgN N))), (!decide (hxL (L16 (dgN N)) < Q)) = b]
theorem wh_0 (t : Nat → Int) : runF gRa 600 [.br false, .br false] 36 [.agg (i16 t)] [] [] = some (.agg (i16 (dgN (hxL (L16 t)))), [], [D0 (atL (L16 t))] ++ fiC (hxL (L16 t)) false) :=
  run_parts (by kernel_rfl) (by kernel_rfl) (by kernel_rfl)
theorem wo_0 (t : Nat → Int) : runF gRa 600 [.br false, .br true] 36 [.agg (i16 t)] [] [] = some (.agg (gt0 (hxL (L16 t))), [], [D0 (atL (L16 t))] ++ fiC (hxL (L16 t)) true ++ [Fits .i64 (dgN (hxL (L16 t)) 0 - prI 0)]) :=
  run_parts (by kernel_rfl) (by kernel_rfl) (by kernel_rfl)
theorem wh_1 (t : Nat → Int) : runF gRa 600 [.br true, .br false, .br false] 36 [.agg (i16 t)] [] [] = some (.agg (i16 (dgN (nxt (hxL (L16 t))))), [], [D0 (atL (L16 t))] ++ rdC (hxL (L16 t)) ++ fiC (nxt (hxL (L16 t))) false) :=
  run_parts (by kernel_rfl) (by kernel_rfl) (by kernel_rfl)
theorem wo_1 (t : Nat → Int) : runF gRa 600 [.br true, .br false, .br true] 36 [.agg (i16 t)] [] [] = some (.agg (gt0 (nxt (hxL (L16 t)))), [], [D0 (atL (L16 t))] ++ rdC (hxL (L16 t)) ++ fiC (nxt (hxL (L16 t))) true ++ [Fits .i64 (dgN (nxt (hxL (L16 t))) 0 - prI 0)]) :=
  run_parts (by kernel_rfl) (by kernel_rfl) (by kernel_rfl)
theorem wh_2 (t : Nat → Int) : runF gRa 600 [.br true, .br true, .br false, .br false] 36 [.agg (i16 t)] [] [] = some (.agg (i16 (dgN (nxt (nxt (hxL (L16 t)))))), [], [D0 (atL (L16 t))] ++ rdC (hxL (L16 t)) ++ rdC (nxt (hxL (L16 t))) ++ fiC (nxt (nxt (hxL (L16 t)))) false) :=
  run_parts (by kernel_rfl) (by kernel_rfl) (by kernel_rfl)
theorem wo_2 (t : Nat → Int) : runF gRa 600 [.br true, .br true, .br false, .br true] 36 [.agg (i16 t)] [] [] = some (.agg (gt0 (nxt (nxt (hxL (L16 t))))), [], [D0 (atL (L16 t))] ++ rdC (hxL (L16 t)) ++ rdC (nxt (hxL (L16 t))) ++ fiC (nxt (nxt (hxL (L16 t)))) true ++ [Fits .i64 (dgN (nxt (nxt (hxL (L16 t)))) 0 - prI 0)]) :=
  run_parts (by kernel_rfl) (by kernel_rfl) (by kernel_rfl)
theorem hxL_L16 (f : Nat → Int) : hxL (L16 f) = hx 16 f 0 := hx_congr 16 0 fun j hj => by rw [Nat.zero_add]; exact atL_listF hj
theorem hxL_dg (N : Int) : hxL (L16 (dgN N)) = N % E255 := by rw [hxL_L16, hx_dgN]
theorem nxt_eq (N : Int) : nxt N = N % E255 + 19 * (N / E255) := by
  unfold nxt
  rw [hxL_L16, ← hx_dgN N]
  show (dgN N 0 + 19 * (N / E255)) + 65536 * hx 15 (rdF N) 1 = (dgN N 0 + 65536 * hx 15 (dgN N) 1) + 19 * (N / E255)
  have : hx 15 (rdF N) 1 = hx 15 (dgN N) 1 := hx_congr 15 1 fun j hj => by unfold rdF; rw [if_neg (by omega)]
  rw [this]; omega
theorem DG_dg (N : Int) : DG (atL (L16 (dgN N))) := by
  refine ⟨fun i hi => ?_, ?_⟩
  · rw [atL_listF hi]; exact ⟨(dgN_bound N i).1, (dgN_bound N i).2.1⟩
  · rw [atL_listF (by decide)]; exact (dgN_bound N 15).2.2 rfl
/-- digits that may be brought below the prime -/
def D1 (t : Nat → Int) : Prop := (∀ i, i < 16 → -1125899906842624 ≤ t i ∧ t i ≤ 1125899906842624) ∧ 0 ≤ hx 16 t 0
theorem D1_nn {t : Nat → Int} (h : ∀ i, i < 16 → 0 ≤ t i ∧ t i ≤ 1125899906842624) : D1 t :=
  ⟨fun i hi => by have := h i hi; omega, hx_nonneg 16 0 fun j hj => by rw [Nat.zero_add]; exact (h j hj).1⟩
theorem hx_le {B : Int} : ∀ (n : Nat) {f : Nat → Int} (i : Nat), (∀ j, j < n → f (i + j) ≤ B) → 65535 * hx n f i ≤ B * (((65536 ^ n : Nat) : Int) - 1)
  | 0, f, i, _ => by simp [hx]
  | n + 1, f, i, h => by
    have h0 := h 0 (by omega)
    rw [Nat.add_zero] at h0
    have h1 := hx_le n (f := f) (i + 1) (fun j hj => by have := h (j + 1) (by omega); rw [show i + 1 + j = i + (j + 1) by omega]; exact this)
    have e : ((65536 ^ (n + 1) : Nat) : Int) = 65536 * ((65536 ^ n : Nat) : Int) := by rw [Nat.pow_succ]; omega
    rw [e]
    simp only [hx]
    generalize ((65536 ^ n : Nat) : Int) = K at *
    have e2 : B * (65536 * K - 1) = 65536 * (B * (K - 1)) + 65535 * B := by
      rw [Int.mul_sub, Int.mul_sub, Int.mul_left_comm]; omega
    rw [e2]; omega
theorem D1_hx {t : Nat → Int} (h : D1 t) : 0 ≤ hx 16 t 0 ∧ hx 16 t 0 / E255 ≤ 68719476736 := by
  have h1 := h.2
  have h2 := hx_le (B := 1125899906842624) 16 (f := t) 0 (fun j hj => by rw [Nat.zero_add]; exact (h.1 j hj).2)
  rw [p16] at h2
  simp only [E255]
  omega
theorem wh_val {N M : Int} (h0 : 0 ≤ N) (h1 : N / E255 = 0) (h2 : N < Q) (h3 : ∃ q, N = M - Q * q) : N = M % Q := (emod_of h0 h2 h3).symm
theorem small_dg {N : Int} (h0 : 0 ≤ N) (h1 : N < 65536) (i : Nat) (hi : 0 < i) : dgN N i = 0 := by
  have hz : N / ((65536 ^ i : Nat) : Int) = 0 := by
    refine Int.ediv_eq_zero_of_lt h0 (Int.lt_of_lt_of_le h1 ?_)
    have h3 : 65536 ^ 1 ≤ 65536 ^ i := Nat.pow_le_pow_right (by decide) hi
    rw [Nat.pow_one] at h3
    exact Int.ofNat_le.2 h3
  unfold dgN
  split
  · rename_i e; subst e; rw [hz]; rfl
  · rw [hz]; rfl
theorem dg_zero (N : Int) : dgN N 0 = N % 65536 := by
  unfold dgN; rw [if_neg (by decide)]
  have : ((65536 ^ 0 : Nat) : Int) = 1 := rfl
  rw [this, Int.ediv_one]
theorem gt0_den {N : Int} (h1 : Q ≤ N) (h2 : N < E255) : normL (gt0 N) = i16 (dgN (N - Q)) := by
  have hz : ∀ i, 0 < i → dgN (N - Q) i = 0 := fun i hi => small_dg (by omega) (by simp only [E255] at h2; unfold Q at *; omega) i hi
  have e0 : dgN (N - Q) 0 = dgN N 0 - prI 0 := by
    rw [dg_zero, dg_zero, show prI 0 = 65517 from rfl]
    simp only [E255] at h2; unfold Q at *; omega
  show _ = [SV.int .i64 (dgN (N - Q) 0), .int .i64 (dgN (N - Q) 1), .int .i64 (dgN (N - Q) 2), .int .i64 (dgN (N - Q) 3), .int .i64 (dgN (N - Q) 4), .int .i64 (dgN (N - Q) 5), .int .i64 (dgN (N - Q) 6), .int .i64 (dgN (N - Q) 7), .int .i64 (dgN (N - Q) 8), .int .i64 (dgN (N - Q) 9), .int .i64 (dgN (N - Q) 10), .int .i64 (dgN (N - Q) 11), .int .i64 (dgN (N - Q) 12), .int .i64 (dgN (N - Q) 13), .int .i64 (dgN (N - Q) 14), .int .i64 (dgN (N - Q) 15)]
  rw [e0, hz 1 (by decide), hz 2 (by decide), hz 3 (by decide), hz 4 (by decide), hz 5 (by decide), hz 6 (by decide), hz 7 (by decide), hz 8 (by decide), hz 9 (by decide), hz 10 (by decide), hz 11 (by decide), hz 12 (by decide), hz 13 (by decide), hz 14 (by decide), hz 15 (by decide)]
  rfl
theorem D0_of {f : Nat → Int} (h : ∀ i, i < 16 → -1152921504606846976 < f i ∧ f i < 1152921504606846976) : D0 (atL (L16 f)) := fun i hi => by rw [atL_listF hi]; exact h i hi
theorem rdC_ok {N : Int} (h0 : 0 ≤ N) (h1 : N / E255 ≠ 0) (h2 : N / E255 ≤ 68719476736) : AllC (rdC N) := by
  have b := dgN_bound N
  have c0 : 0 ≤ N / E255 := by simp only [E255]; omega
  have F1 : Fits .i64 (dgN N 0 + 19 * (N / E255)) := fits_of (by have := b 0; omega) (by have := b 0; omega)
  have F2 : Fits .i64 (19 * (N / E255)) := fits_of (by omega) (by omega)
  simp only [rdC, allC_cons, allC_nil, and_true]
  refine ⟨by simp [h1], F1, F2, D0_of fun i hi => ?_⟩
  have := b i
  have := b 0
  unfold rdF
  split <;> omega
theorem fiC_ok {N : Int} (h1 : N / E255 = 0) (h0 : 0 ≤ N) {b : Bool} (hb : (!decide (N < Q)) = b) : AllC (fiC N b) := by
  have e : N % E255 = N := by simp only [E255] at *; omega
  simp only [fiC, allC_cons, allC_nil, and_true]
  rw [hxL_dg, e]
  exact ⟨by simp [h1], DG_dg N, hb⟩
theorem wh_fin {t : Nat → Int} {N : Int} {cs : List Prop} (pl : List Plan) (hN0 : 0 ≤ N) (hN1 : N / E255 = 0) (hq : ∃ q, N = hx 16 t 0 - Q * q) (hcs : AllC cs)
    (r1 : runF gRa 600 (pl ++ [.br false]) 36 [.agg (i16 t)] [] [] = some (.agg (i16 (dgN N)), [], cs ++ fiC N false))
    (r2 : runF gRa 600 (pl ++ [.br true]) 36 [.agg (i16 t)] [] [] = some (.agg (gt0 N), [], cs ++ fiC N true ++ [Fits .i64 (dgN N 0 - prI 0)])) :
    FnOk gRa 36 [.agg (i16 t)] [] { val := .agg (i16 (dgN (hx 16 t 0 % Q))) } := by
  by_cases hb : N < Q
  · rw [← wh_val hN0 hN1 hb hq]
    exact FnOk.pure gRa_ok r1 (by rw [allC_append]; exact ⟨hcs, fiC_ok hN1 hN0 (by simp [hb])⟩)
  · have hlt : N < E255 := by simp only [E255] at *; omega
    have e : hx 16 t 0 % Q = N - Q := by
      refine emod_of (by omega) (by simp only [E255] at hlt; unfold Q at *; omega) ?_
      obtain ⟨q, hq⟩ := hq
      exact ⟨q + 1, by rw [hq, Int.mul_add]; omega⟩
    rw [e, ← gt0_den (by omega) hlt]
    have b := dgN_bound N 0
    have F : Fits .i64 (dgN N 0 - prI 0) := by rw [show prI 0 = 65517 from rfl]; exact fits_of (by omega) (by omega)
    exact FnOk.val (FnOk.pure gRa_ok r2 (by rw [allC_append, allC_append]; exact ⟨⟨hcs, fiC_ok hN1 hN0 (by simp [hb])⟩, by simp only [allC_cons, allC_nil, and_true]; exact F⟩)) fun _ _ _ _ d => denV_norm d
theorem wh_ok {t : Nat → Int} (h : D1 t) : FnOk gRa 36 [.agg (i16 t)] [] { val := .agg (i16 (dgN (hx 16 t 0 % Q))) } := by
  obtain ⟨n0, n1⟩ := D1_hx h
  have hD : AllC [D0 (atL (L16 t))] := by
    simp only [allC_cons, allC_nil, and_true]
    exact D0_of fun i hi => by have := h.1 i hi; omega
  have eN : hxL (L16 t) = hx 16 t 0 := hxL_L16 t
  by_cases c0 : hx 16 t 0 / E255 = 0
  · exact wh_fin (N := hxL (L16 t)) [.br false] (by rw [eN]; exact n0) (by rw [eN]; exact c0) ⟨0, by rw [eN]; omega⟩ hD (wh_0 t) (wo_0 t)
  · have hr0 : AllC (rdC (hxL (L16 t))) := rdC_ok (by rw [eN]; exact n0) (by rw [eN]; exact c0) (by rw [eN]; exact n1)
    have e1 := nxt_eq (hxL (L16 t))
    rw [eN] at e1
    obtain ⟨c, hc⟩ : ∃ c, c = hx 16 t 0 / E255 := ⟨_, rfl⟩
    rw [← hc] at e1 n1 c0
    have hs : hx 16 t 0 = hx 16 t 0 % E255 + E255 * c := by simp only [E255] at *; omega
    have b1 : 0 ≤ hx 16 t 0 % E255 ∧ hx 16 t 0 % E255 < E255 := by simp only [E255]; omega
    have hc0 : 0 < c := by simp only [E255] at *; omega
    have q1 : ∃ q, nxt (hxL (L16 t)) = hx 16 t 0 - Q * q := ⟨c, by
      have hQ : Q * c = E255 * c - 19 * c := by simp only [E255]; unfold Q; omega
      rw [eN, e1]; omega⟩
    rw [eN] at q1 hr0
    have n10 : 0 ≤ nxt (hx 16 t 0) := by omega
    by_cases c1 : nxt (hx 16 t 0) / E255 = 0
    · exact wh_fin (N := nxt (hxL (L16 t))) [.br true, .br false] (by rw [eN]; exact n10) (by rw [eN]; exact c1) (by rw [eN]; exact q1) (by rw [allC_append]; exact ⟨hD, by rw [eN]; exact hr0⟩) (wh_1 t) (wo_1 t)
    · have n11 : nxt (hx 16 t 0) / E255 = 1 := by simp only [E255] at *; omega
      have e2 := nxt_eq (nxt (hx 16 t 0))
      rw [n11] at e2
      have n20 : 0 ≤ nxt (nxt (hx 16 t 0)) ∧ nxt (nxt (hx 16 t 0)) / E255 = 0 ∧ nxt (nxt (hx 16 t 0)) = nxt (hx 16 t 0) - Q := by
        have : Q = E255 - 19 := rfl
        simp only [E255] at *
        omega
      have hr1 : AllC (rdC (nxt (hx 16 t 0))) := rdC_ok n10 c1 (by omega)
      exact wh_fin (N := nxt (nxt (hxL (L16 t)))) [.br true, .br true, .br false] (by rw [eN]; exact n20.1) (by rw [eN]; exact n20.2.1) (by
        obtain ⟨q, hq⟩ := q1
        rw [eN]
        exact ⟨q + 1, by rw [n20.2.2, hq, Int.mul_add]; omega⟩) (by rw [allC_append, allC_append]; exact ⟨⟨hD, by rw [eN]; exact hr0⟩, by rw [eN]; exact hr1⟩) (wh_2 t) (wo_2 t)
noncomputable def whF : SumF := fun args B => match args, B with
  | [.agg xs], [] => match numsAs (List.replicate 16 .i64) xs with
    | some l => some { val := .agg (i16 (dgN (hxL l % Q))), C := [D1 (atL l)] }
    | none => none
  | _, _ => none
theorem acc_wh : Acc gRa 36 whF := by
  intro args B out h hC
  unfold whF at h
  split at h
  · split at h
    · rename_i l hl
      simp only [Option.some.injEq] at h; subst h
      exact FnOk.imp (wh_ok (hC _ (by simp))) ⟨nums_imp hl, trivial⟩
    · simp at h
  · simp at h
noncomputable abbrev gRb : Ctx := gRa.add [(36, whF)]
theorem gRb_ok : CtxU gRb := gRa_ok.add mixed noGo (by
  intro x hx
  simp only [List.mem_cons, List.not_mem_nil, or_false] at hx
  rcases hx with rfl
  exact acc_wh)
end Go.Proofs.Ytghdadkpbofbbaa
