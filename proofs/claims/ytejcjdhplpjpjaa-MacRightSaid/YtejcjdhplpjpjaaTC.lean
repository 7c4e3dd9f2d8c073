/- Accounts of this seat's functions: lemmas, no statement of their own. No conditions. -/
import Derived.Test.YtejcjdhplpjpjaaV4
import Derived.Test.YtejcjdhplpjpjaaTB
namespace Go.Proofs.Ytejcjdhplpjpjaa
open Go Go.Vx
theorem accA : Acc g0 60 add64F :=
  add64_ok (g := g0) (get_ok (f := 60) (by kernel_rfl)) (by kernel_rfl) (by kernel_rfl) (by kernel_rfl) (by kernel_rfl)
/-! ### mask, prime -/
theorem pick_run (s a b : Nat) : runF g0 20 [] 75 [.int .u64 s, .int .u64 a, .int .u64 b] [] [] = some (.int .u64 (Int.ofNat (pickE s a b)), [], []) := by kernel_rfl
theorem settled_run (la : List Int) : runF g0 200 [] 66 [.agg (svF (List.replicate 5 .u64) (atL la) 0)] [] [] = some (.agg (svF (List.replicate 5 .u64) (settledN la) 0), [], []) := by kernel_rfl
theorem word_run (a b c d : Int) : runF g0 200 [] 67 [.int .u8 a, .int .u8 b, .int .u8 c, .int .u8 d] [] [] = some (.int .u64 (wordE a b c d), [], []) := by kernel_rfl
def F39 : SumF := fun args B => match args, B with
  | [.int .u8 a, .int .u8 b, .int .u8 c, .int .u8 d], [] => some { val := .int .u64 (wordE a b c d) }
  | _, _ => none
def F41 : SumF := fun args B => match args, B with
  | [.int .u64 s, .int .u64 a, .int .u64 b], [] => some { val := .int .u64 (if s % 2 = 1 then a else b) }
  | _, _ => none
/-- Add and Mul -/
def binF (op : Int) (f : List Int → List Int → Nat → Int) : SumF := fun args B => match args, B with
  | [.raw (.pointer none), .agg xs, .agg ys], [] => match numsAs (List.replicate 5 .u64) xs, numsAs (List.replicate 5 .u64) ys with
    | some la, some lb => some { val := .agg (svF (List.replicate 5 .u64) (f la lb) 0) }
    | _, _ => none
  | [.ptr 0 0, .agg xs, .agg ys], [.log l] => match numsAs (List.replicate 5 .u64) xs, numsAs (List.replicate 5 .u64) ys with
    | some la, some lb => some { val := .agg (svF (List.replicate 5 .u64) (f la lb) 0), upd := [(0, some (.log (l ++ [[3, op]])))], C := [l.length < 1099511627776] }
    | _, _ => none
  | _, _ => none
theorem bin_ok {g : Ctx} (hU : CtxU g) {op : Int} {f : List Int → List Int → Nat → Int} {fn : FuncId}
    (hrun : ∀ la lb : List Int, ∃ m, runF g m [] fn [.raw (.pointer none), .agg (svF (List.replicate 5 .u64) (atL la) 0), .agg (svF (List.replicate 5 .u64) (atL lb) 0)] [] [] = some (.agg (svF (List.replicate 5 .u64) (f la lb) 0), [], []))
    (hlog : ∀ (la lb : List Int) (l : List (List Int)), ∃ m, runF g m [] fn [.ptr 0 0, .agg (svF (List.replicate 5 .u64) (atL la) 0), .agg (svF (List.replicate 5 .u64) (atL lb) 0)] [.log l] [] = some (.agg (svF (List.replicate 5 .u64) (f la lb) 0), [some (.log (l ++ [[3, op]]))], [l.length < 1099511627776])) : Acc g fn (binF op f) := by
  intro args B out h hC
  unfold binF at h
  split at h
  · split at h
    · rename_i la lb ha hb
      simp only [Option.some.injEq] at h; subst h
      obtain ⟨m, hm⟩ := hrun la lb
      exact FnOk.imp (FnOk.pure hU hm (by simp [AllC])) ⟨DenImp.refl _, nums_imp ha, nums_imp hb, trivial⟩
    · simp at h
  · split at h
    · rename_i l _ _ la lb ha hb
      simp only [Option.some.injEq] at h; subst h
      obtain ⟨m, hm⟩ := hlog la lb l
      exact FnOk.imp (FnOk.run (out := { val := .agg (svF (List.replicate 5 .u64) (f la lb) 0), upd := [(0, some (.log (l ++ [[3, op]])))], C := [l.length < 1099511627776] }) hU hm hC (by simp [upto]) rfl (by simp) (by simp) (fun j hj => by
        match j, hj with
        | 0, _ => rfl)) ⟨DenImp.refl _, nums_imp ha, nums_imp hb, trivial⟩
    · simp at h
  · simp at h
theorem ok41 : Acc g0 75 F41 := by
  intro args B out h _
  unfold F41 at h
  split at h
  · simp only [Option.some.injEq] at h; subst h
    refine FnOk.facts fun ⟨h0, h1, h2, _⟩ => ?_
    obtain ⟨s, rfl, hs⟩ := fits_u64 h0
    obtain ⟨x, rfl, hx⟩ := fits_u64 h1
    obtain ⟨y, rfl, hy⟩ := fits_u64 h2
    have e : Int.ofNat (pickE s x y) = if ((s : Nat) : Int) % 2 = 1 then (x : Int) else y := by
      rw [pickE_eq s hx hy]
      by_cases h : s % 2 = 1
      · have : (s : Int) % 2 = 1 := by omega
        simp [h, this]
      · have : ¬ ((s : Int) % 2 = 1) := by omega
        simp [h, this]
    rw [← e]
    exact FnOk.pure g0_ok (pick_run s x y) (by simp [AllC])
  · simp at h
theorem ok39 : Acc g0 67 F39 := by
  intro args B out h _
  unfold F39 at h
  split at h
  · simp only [Option.some.injEq] at h; subst h
    exact FnOk.pure g0_ok (word_run _ _ _ _) (by simp [AllC])
  · simp at h
theorem ok25 : Acc g0 66 (arrF 5 .u64 5 .u64 settledN) := arr_ok (fn := 66) g0_ok (fun la => ⟨_, settled_run la⟩)

noncomputable abbrev gp1 : Ctx := g1.add [(66, arrF 5 .u64 5 .u64 settledN), (60, add64F), (67, F39), (75, F41)]
theorem gp1_ok : CtxU gp1 := g1_ok.add mixed noGo (by
  intro x hx
  simp only [List.mem_cons, List.not_mem_nil, or_false] at hx
  rcases hx with rfl | rfl | rfl | rfl
  · exact Acc.of rfl rfl ok25
  · exact Acc.of rfl rfl accA
  · exact Acc.of rfl rfl ok39
  · exact Acc.of rfl rfl ok41)
def blockN (lb : List Int) : Nat → Int := settledN (numL (atL lb))
def addN (la lb : List Int) : Nat → Int := settledN (addL (atL la) (atL lb))
def mulN (la lb : List Int) : Nat → Int := settledN (mulL (atL la) (atL lb))
def clampL (f : Nat → Int) : List Int := [f 0, f 1, f 2, umask (f 3) 15, uand (f 4) 252, f 5, f 6, umask (f 7) 15, uand (f 8) 252, f 9, f 10, umask (f 11) 15, uand (f 12) 252, f 13, f 14, umask (f 15) 15, 0]
def clampN (la : List Int) : Nat → Int := blockN (clampL (atL la))
theorem block_run (lb : List Int) : runF gp1 200 [] 58 [.agg (svF (List.replicate 17 .u8) (atL lb) 0)] [] [] = some (.agg (svF (List.replicate 5 .u64) (blockN lb) 0), [], []) := by kernel_rfl
theorem clamp_run (la : List Int) : runF gp1 200 [] 35 [.agg (svF (List.replicate 16 .u8) (atL la) 0)] [] [] = some (.agg (svF (List.replicate 5 .u64) (clampN la) 0), [], []) := by kernel_rfl
theorem add_run (la lb : List Int) : runF gp1 200 [] 57 [.raw (.pointer none), .agg (svF (List.replicate 5 .u64) (atL la) 0), .agg (svF (List.replicate 5 .u64) (atL lb) 0)] [] [] = some (.agg (svF (List.replicate 5 .u64) (addN la lb) 0), [], []) := by kernel_rfl
theorem mul_run (la lb : List Int) : runF gp1 200 [] 56 [.raw (.pointer none), .agg (svF (List.replicate 5 .u64) (atL la) 0), .agg (svF (List.replicate 5 .u64) (atL lb) 0)] [] [] = some (.agg (svF (List.replicate 5 .u64) (mulN la lb) 0), [], []) := by kernel_rfl
theorem least_run (la : List Int) : runF gp1 200 [] 70 [.agg (svF (List.replicate 5 .u64) (atL la) 0)] [] [] = some (.agg (svF (List.replicate 5 .u64) (leastN la) 0), [], []) := by kernel_rfl
theorem ok26 : Acc gp1 70 (arrF 5 .u64 5 .u64 leastN) := arr_ok (fn := 70) gp1_ok (fun la => ⟨_, least_run la⟩)
theorem ok11 : Acc gp1 58 (arrF 17 .u8 5 .u64 blockN) := arr_ok (fn := 58) gp1_ok (fun la => ⟨_, block_run la⟩)
theorem ok19 : Acc gp1 35 (arrF 16 .u8 5 .u64 clampN) := arr_ok (fn := 35) gp1_ok (fun la => ⟨_, clamp_run la⟩)
theorem add_log (la lb : List Int) (l : List (List Int)) : runF gp1 200 [] 57 [.ptr 0 0, .agg (svF (List.replicate 5 .u64) (atL la) 0), .agg (svF (List.replicate 5 .u64) (atL lb) 0)] [.log l] [] = some (.agg (svF (List.replicate 5 .u64) (addN la lb) 0), [some (.log (l ++ [[3, 11]]))], [l.length < 1099511627776]) := by kernel_rfl
theorem mul_log (la lb : List Int) (l : List (List Int)) : runF gp1 200 [] 56 [.ptr 0 0, .agg (svF (List.replicate 5 .u64) (atL la) 0), .agg (svF (List.replicate 5 .u64) (atL lb) 0)] [.log l] [] = some (.agg (svF (List.replicate 5 .u64) (mulN la lb) 0), [some (.log (l ++ [[3, 12]]))], [l.length < 1099511627776]) := by kernel_rfl
theorem ok12 : Acc gp1 57 (binF 11 addN) := bin_ok (fn := 57) gp1_ok (fun la lb => ⟨_, add_run la lb⟩) (fun la lb l => ⟨_, add_log la lb l⟩)
theorem ok14 : Acc gp1 56 (binF 12 mulN) := bin_ok (fn := 56) gp1_ok (fun la lb => ⟨_, mul_run la lb⟩) (fun la lb l => ⟨_, mul_log la lb l⟩)
noncomputable abbrev gp2 : Ctx := gp1.add [(70, arrF 5 .u64 5 .u64 leastN)]
theorem gp2_ok : CtxU gp2 := gp1_ok.add mixed noGo (by
  intro x hx
  simp only [List.mem_cons, List.not_mem_nil, or_false] at hx
  rcases hx with rfl
  exact ok26)
theorem bytes_run (la : List Int) : runF gp2 200 [] 59 [.agg (svF (List.replicate 5 .u64) (atL la) 0)] [] [] = some (.agg (svF (List.replicate 17 .u8) (bytesN la) 0), [], []) := by kernel_rfl
theorem ok13 : Acc gp2 59 (arrF 5 .u64 17 .u8 bytesN) := arr_ok (fn := 59) gp2_ok (fun la => ⟨_, bytes_run la⟩)
noncomputable abbrev gp3 : Ctx := gp2.add [(58, arrF 17 .u8 5 .u64 blockN), (57, binF 11 addN), (59, arrF 5 .u64 17 .u8 bytesN), (56, binF 12 mulN), (35, arrF 16 .u8 5 .u64 clampN)]
theorem gp3_ok : CtxU gp3 := gp2_ok.add mixed noGo (by
  intro x hx
  simp only [List.mem_cons, List.not_mem_nil, or_false] at hx
  rcases hx with rfl | rfl | rfl | rfl | rfl
  · exact Acc.of rfl rfl ok11
  · exact Acc.of rfl rfl ok12
  · exact ok13
  · exact Acc.of rfl rfl ok14
  · exact Acc.of rfl rfl ok19)
def F18 : SumF := fun args B => match args, B with
  | [.agg xs, .agg ys], [] => match numsAs (List.replicate 5 .u64) xs, numsAs (List.replicate 16 .u8) ys with
    | some la, some lb => some { val := .agg (svF (List.replicate 16 .u8) (sumN la lb) 0) }
    | _, _ => none
  | _, _ => none
theorem sum_run (a b : Nat → Int) : runF gp3 400 [] 40 [.agg (svF (List.replicate 5 .u64) a 0), .agg (svF (List.replicate 16 .u8) b 0)] [] [] =
    some (.agg (svF (List.replicate 16 .u8) (sumN (listF 5 a 0) (listF 16 b 0)) 0), [], [(0 : Int).toNat ≤ 1, (adcC (word8 (bytesN (listF 5 a 0)) 0) (word8 (atL (listF 16 b 0)) 0) 0).toNat ≤ 1]) := by kernel_rfl
theorem facts8 {n : Nat} {a : Nat → Int} (h : factsL (svF (List.replicate n .u8) a 0)) (j : Nat) (hj : j < n) : Byte (a j) := by
  have := facts_svF h j .u8 (rep_get hj)
  rw [Nat.zero_add] at this
  obtain ⟨m, e, hm⟩ := fits_u8 this
  rw [e]; unfold Byte; omega
theorem atL_listF {n : Nat} {a : Nat → Int} {j : Nat} (hj : j < n) : atL (listF n a 0) j = a j := by
  unfold atL
  rw [List.getD_eq_getElem?_getD, listF_get, if_pos hj, Nat.zero_add]; rfl
theorem ok18 : Acc gp3 40 F18 := by
  intro args B out h _
  unfold F18 at h
  split at h
  · split at h
    · rename_i la lb ha hb
      simp only [Option.some.injEq] at h; subst h
      refine FnOk.imp (args' := [.agg (svF (List.replicate 5 .u64) (atL la) 0), .agg (svF (List.replicate 16 .u8) (atL lb) 0)]) ?_ ⟨nums_imp ha, nums_imp hb, trivial⟩
      refine FnOk.facts fun ⟨_, h2, _⟩ => ?_
      have hrun := sum_run (atL la) (atL lb)
      have e1 := nums_list ha
      have e2 := nums_list hb
      simp only [List.length_replicate] at e1 e2
      rw [← e1, ← e2] at hrun
      refine FnOk.pure gp3_ok hrun ?_
      rw [allC_cons, allC_cons, allC_nil]
      refine ⟨by decide, carry_le (fun j _ => bytesN_byte _ _) (fun j hj => ?_), trivial⟩
      rw [Nat.zero_add]
      exact facts8 h2 j (by omega)
    · simp at h
  · simp at h
noncomputable abbrev gp : Ctx := gp3.add [(40, F18)]
theorem gp_ok : CtxU gp := gp3_ok.add mixed noGo (by
  intro x hx
  simp only [List.mem_cons, List.not_mem_nil, or_false] at hx
  rcases hx with rfl
  exact ok18)
/-! ### what the limbs are -/
abbrev L5 (f : Nat → Int) : List Int := listF 5 f 0
abbrev BS (x : List Int) : List Int := listF 17 (bytesN x) 0
/-- limbs of n -/
def Is (x : List Int) (n : Int) : Prop := Sett x ∧ V5 (atL x) % P5 = n % P5
theorem sub_mod (n q : Int) : (n - P5 * q) % P5 = n % P5 := Int.sub_mul_emod_self_left n P5 q
theorem is_block {l : List Int} (h : ∀ i, i < 17 → Byte (atL l i)) : Is (L5 (blockN l)) (leN 17 (atL l) 0) := by
  obtain ⟨h1, h2⟩ := numL_spec h
  obtain ⟨h3, q, h4⟩ := settled_spec h1
  refine ⟨h3, ?_⟩
  show V5 (settledN (numL (atL l))) % P5 = _
  rw [h4, sub_mod, h2]
theorem is_add {x y : List Int} {n m : Int} (hx : Is x n) (hy : Is y m) : Is (L5 (addN x y)) (n + m) := by
  obtain ⟨h1, h2⟩ := add_spec hx.1 hy.1
  obtain ⟨h3, q, h4⟩ := settled_spec h1
  refine ⟨h3, ?_⟩
  show V5 (settledN (addL (atL x) (atL y))) % P5 = _
  rw [h4, sub_mod, h2, Int.add_emod, hx.2, hy.2, ← Int.add_emod]
theorem is_mul {x y : List Int} {n m : Int} (hx : Is x n) (hy : Is y m) : Is (L5 (mulN x y)) (n * m) := by
  obtain ⟨h1, q', h2⟩ := mul_spec hx.1 hy.1
  obtain ⟨h3, q, h4⟩ := settled_spec h1
  refine ⟨h3, ?_⟩
  show V5 (settledN (mulL (atL x) (atL y))) % P5 = _
  rw [h4, sub_mod, h2, sub_mod, Int.mul_emod, hx.2, hy.2, ← Int.mul_emod]
theorem bytes_eq {x : List Int} {n : Int} (hx : Is x n) : BS x = listF 17 (byteN (n % P5)) 0 := by
  rw [← hx.2]; exact bytesN_spec hx.1
theorem eq_of {x y : List Int} {n m : Int} (hx : Is x n) (hy : Is y m) (h : n = m) : BS x = BS y := by
  rw [bytes_eq hx, bytes_eq hy, h]

theorem umask_byte {x : Int} (h : Byte x) (m : Nat) (hm : m < 256) : Byte (umask x (m : Int)) := by
  unfold Byte at *
  rw [umaskE x m h.1]
  have h1 := Int.emod_nonneg x (b := ((m + 1 : Nat) : Int)) (by omega)
  have h2 := Int.emod_lt_of_pos x (b := ((m + 1 : Nat) : Int)) (by omega)
  omega
theorem uand_byte {x : Int} (h : Byte x) (y : Int) : Byte (uand x y) := by
  unfold Byte at *
  obtain ⟨n, rfl⟩ := Int.eq_ofNat_of_zero_le h.1
  unfold uand
  have : ((n : Int).toNat &&& y.toNat) ≤ n := Nat.and_le_left
  simp only [Int.toNat_natCast, Int.ofNat_eq_natCast] at *
  omega
theorem clamp_bytes {f : Nat → Int} (h : ∀ i, i < 16 → Byte (f i)) : ∀ i, i < 17 → Byte (atL (clampL f) i) := by
  intro i hi
  match i, hi with
  | 0, _ => exact h 0 (by decide)
  | 1, _ => exact h 1 (by decide)
  | 2, _ => exact h 2 (by decide)
  | 3, _ => exact umask_byte (h 3 (by decide)) 15 (by decide)
  | 4, _ => exact uand_byte (h 4 (by decide)) 252
  | 5, _ => exact h 5 (by decide)
  | 6, _ => exact h 6 (by decide)
  | 7, _ => exact umask_byte (h 7 (by decide)) 15 (by decide)
  | 8, _ => exact uand_byte (h 8 (by decide)) 252
  | 9, _ => exact h 9 (by decide)
  | 10, _ => exact h 10 (by decide)
  | 11, _ => exact umask_byte (h 11 (by decide)) 15 (by decide)
  | 12, _ => exact uand_byte (h 12 (by decide)) 252
  | 13, _ => exact h 13 (by decide)
  | 14, _ => exact h 14 (by decide)
  | 15, _ => exact umask_byte (h 15 (by decide)) 15 (by decide)
  | 16, _ => exact show Byte 0 from ⟨by decide, by decide⟩
  | i + 17, h => exact absurd h (by omega)
theorem clamp_lt {f : Nat → Int} (h : ∀ i, i < 16 → Byte (f i)) : 0 ≤ leN 17 (atL (clampL f)) 0 ∧ leN 17 (atL (clampL f)) 0 < P5 := by
  have hb := clamp_bytes h
  have e := leN_add 16 1 (atL (clampL f)) 0
  have h1 := leN_nonneg 16 (f := atL (clampL f)) 0 (fun j hj => by rw [Nat.zero_add]; exact hb j (by omega))
  have e2 : leN 1 (atL (clampL f)) (0 + 16) = 0 := rfl
  rw [e2, Int.mul_zero, Int.add_zero] at e
  have e3 : ((256 ^ 16 : Nat) : Int) = 340282366920938463463374607431768211456 := rfl
  rw [e3] at h1
  rw [show (17 : Nat) = 16 + 1 from rfl, e]
  unfold P5
  omega
theorem bytesN_at {x : List Int} {n : Int} (hx : Is x n) {i : Nat} (hi : i < 17) : bytesN x i = byteN (n % P5) i := by
  have h := bytes_eq hx
  rw [listF_eq0] at h
  exact h i hi
theorem sumN_eq {x l : List Int} (hl : ∀ j, j < 16 → Byte (atL l j)) : listF 16 (sumN x l) 0 = listF 16 (byteN (leN 16 (bytesN x) 0 + leN 16 (atL l) 0)) 0 := by
  rw [← sum_spec (fun j _ => bytesN_byte x j) hl]
  rfl
end Go.Proofs.Ytejcjdhplpjpjaa
