/- Accounts of this seat's functions: lemmas, no statement of their own. No conditions. -/
import Derived.Test.YtibfgdbkobgemaaV4
import Derived.Test.YtibfgdbkobgemaaProg
namespace Go.Proofs.Ytibfgdbkobgemaa
open Go Go.Vx

noncomputable def g0 : Ctx := { P := Try.prog, sum := fun _ => none, glob := fun _ => none }
theorem mixed : Try.prog.follows .mixedOrders = true := by kernel_rfl
theorem names : Try.prog.funcs.all (fun fn => !(fn.name == "runtime.NumGoroutine") || fn.body.isNone) = true := by kernel_rfl
theorem noGo (f : FuncId) (fn : Func) (c : Code) (h : Try.prog.funcs[f]? = some fn) (hb : fn.body = some c) : (fn.name == "runtime.NumGoroutine") = false := by
  have := Array.all_eq_true'.1 names fn (Array.mem_of_getElem? h)
  rw [hb] at this
  simpa using this
theorem g0_ok : CtxU g0 := CtxU.mk (fun f σ h => by simp [g0] at h) mixed noGo

noncomputable def sumX : FuncId → Option Sum := fun f => match f with
  | 28 => some (mkSumN add64F)
  | 47 => some (mkSumN loadF)
  | 52 => some (mkSumN addF)
  | _ => none
noncomputable def gx : Ctx := { P := Try.prog, sum := sumX, glob := fun _ => none }
theorem get_ok {f : FuncId} (h : (Try.prog.funcs[f]?).isSome = true) : Try.prog.funcs[f]? = some ((Try.prog.funcs[f]?).getD default) := by
  obtain ⟨x, hx⟩ := Option.isSome_iff_exists.1 h
  rw [hx]; rfl
theorem ok28 : Acc gx 28 add64F :=
  add64_ok (g := gx) (get_ok (f := 28) (by kernel_rfl)) (by kernel_rfl) (by kernel_rfl) (by kernel_rfl) (by kernel_rfl)
theorem ok47 : Acc gx 47 loadF :=
  load_ok (g := gx) (get_ok (f := 47) (by kernel_rfl)) (by kernel_rfl) (by kernel_rfl) (by kernel_rfl) (by kernel_rfl)
theorem ok52 : Acc gx 52 addF :=
  add_ok (g := gx) (get_ok (f := 52) (by kernel_rfl)) (by kernel_rfl) (by kernel_rfl) (by kernel_rfl) (by kernel_rfl)
theorem gx_ok : CtxU gx := by
  refine CtxU.mk (fun f σ h => ?_) mixed noGo
  have lift : ∀ {f : FuncId} {F : SumF}, (∀ args B out, F args B = some out → AllC out.C → FnOk gx f args B out) → SumU gx f (mkSumN F) := fun h => SumU.mkN (g := gx) h
  simp only [gx, sumX] at h
  split at h
  all_goals first | (simp at h; done) | skip
  all_goals (simp only [Option.some.injEq] at h; subst h)
  · exact lift ok28
  · exact lift ok47
  · exact lift ok52

/-! ### trace -/
theorem ok40 : Acc gx 40 logF := logF_ok gx_ok (fun k v n l => by kernel_rfl) (fun k v => by kernel_rfl)
theorem ok24 : Acc gx 24 opF := opF_ok gx_ok (fun k n l => by kernel_rfl) (fun k => by kernel_rfl)
theorem ok20 : Acc gx 20 newF := newF_ok gx_ok (by kernel_rfl)
theorem ok27 : Acc gx 27 totalF := totalF_ok gx_ok (fun n l => by kernel_rfl) (by kernel_rfl)

/-! ### mask, prime -/
theorem pick_run (s a b : Nat) : runF g0 20 [] 41 [.int .u64 s, .int .u64 a, .int .u64 b] [] [] = some (.int .u64 (Int.ofNat (pickE s a b)), [], []) := by kernel_rfl
theorem settled_run (la : List Int) : runF g0 200 [] 25 [.agg (svF (List.replicate 5 .u64) (atL la) 0)] [] [] = some (.agg (svF (List.replicate 5 .u64) (settledN la) 0), [], []) := by kernel_rfl
theorem word_run (a b c d : Int) : runF g0 200 [] 39 [.int .u8 a, .int .u8 b, .int .u8 c, .int .u8 d] [] [] = some (.int .u64 (wordE a b c d), [], []) := by kernel_rfl
def F39 : SumF := fun args B => match args, B with
  | [.int .u8 a, .int .u8 b, .int .u8 c, .int .u8 d], [] => some { val := .int .u64 (wordE a b c d) }
  | _, _ => none
def F41 : SumF := fun args B => match args, B with
  | [.int .u64 s, .int .u64 a, .int .u64 b], [] => some { val := .int .u64 (if s % 2 = 1 then a else b) }
  | _, _ => none
/-- Add and Mul -/
def binF (op : Int) (f : List Int → List Int → Nat → Int) : SumF := fun args B => match args, B with
  | [.raw (.pointer none), .agg xs, .agg ys], [] => match numsAs (List.replicate 5 .u64) xs, numsAs (List.replicate 5 .u64) ys with
    | some la, some lb => some { val := .agg (svF (List.replicate 5 .u64) (f la lb) 0) }
    | _, _ => none
  | [.ptr 0 0, .agg xs, .agg ys], [.log l] => match numsAs (List.replicate 5 .u64) xs, numsAs (List.replicate 5 .u64) ys with
    | some la, some lb => some { val := .agg (svF (List.replicate 5 .u64) (f la lb) 0), upd := [(0, some (.log (l ++ [[3, op]])))], C := [l.length < 1099511627776] }
    | _, _ => none
  | _, _ => none
theorem bin_ok {g : Ctx} (hU : CtxU g) {op : Int} {f : List Int → List Int → Nat → Int} {fn : FuncId}
    (hrun : ∀ la lb : List Int, ∃ m, runF g m [] fn [.raw (.pointer none), .agg (svF (List.replicate 5 .u64) (atL la) 0), .agg (svF (List.replicate 5 .u64) (atL lb) 0)] [] [] = some (.agg (svF (List.replicate 5 .u64) (f la lb) 0), [], []))
    (hlog : ∀ (la lb : List Int) (l : List (List Int)), ∃ m, runF g m [] fn [.ptr 0 0, .agg (svF (List.replicate 5 .u64) (atL la) 0), .agg (svF (List.replicate 5 .u64) (atL lb) 0)] [.log l] [] = some (.agg (svF (List.replicate 5 .u64) (f la lb) 0), [some (.log (l ++ [[3, op]]))], [l.length < 1099511627776])) : Acc g fn (binF op f) := by
  intro args B out h hC
  unfold binF at h
  split at h
  · split at h
    · rename_i la lb ha hb
      simp only [Option.some.injEq] at h; subst h
      obtain ⟨m, hm⟩ := hrun la lb
      exact FnOk.imp (FnOk.pure hU hm (by simp [AllC])) ⟨DenImp.refl _, nums_imp ha, nums_imp hb, trivial⟩
    · simp at h
  · split at h
    · rename_i l _ _ la lb ha hb
      simp only [Option.some.injEq] at h; subst h
      obtain ⟨m, hm⟩ := hlog la lb l
      exact FnOk.imp (FnOk.run (out := { val := .agg (svF (List.replicate 5 .u64) (f la lb) 0), upd := [(0, some (.log (l ++ [[3, op]])))], C := [l.length < 1099511627776] }) hU hm hC (by simp [upto]) rfl (by simp) (by simp) (fun j hj => by
        match j, hj with
        | 0, _ => rfl)) ⟨DenImp.refl _, nums_imp ha, nums_imp hb, trivial⟩
    · simp at h
  · simp at h
theorem ok41 : Acc g0 41 F41 := by
  intro args B out h _
  unfold F41 at h
  split at h
  · simp only [Option.some.injEq] at h; subst h
    refine FnOk.facts fun ⟨h0, h1, h2, _⟩ => ?_
    obtain ⟨s, rfl, hs⟩ := fits_u64 h0
    obtain ⟨x, rfl, hx⟩ := fits_u64 h1
    obtain ⟨y, rfl, hy⟩ := fits_u64 h2
    have e : Int.ofNat (pickE s x y) = if ((s : Nat) : Int) % 2 = 1 then (x : Int) else y := by
      rw [pickE_eq s hx hy]
      by_cases h : s % 2 = 1
      · have : (s : Int) % 2 = 1 := by omega
        simp [h, this]
      · have : ¬ ((s : Int) % 2 = 1) := by omega
        simp [h, this]
    rw [← e]
    exact FnOk.pure g0_ok (pick_run s x y) (by simp [AllC])
  · simp at h
theorem ok39 : Acc g0 39 F39 := by
  intro args B out h _
  unfold F39 at h
  split at h
  · simp only [Option.some.injEq] at h; subst h
    exact FnOk.pure g0_ok (word_run _ _ _ _) (by simp [AllC])
  · simp at h
theorem ok25 : Acc g0 25 (arrF 5 .u64 5 .u64 settledN) := arr_ok (fn := 25) g0_ok (fun la => ⟨_, settled_run la⟩)

noncomputable def sum1 : FuncId → Option Sum := fun f => match f with
  | 20 => some (mkSumN newF)
  | 24 => some (mkSumN opF)
  | 25 => some (mkSumN (arrF 5 .u64 5 .u64 settledN))
  | 27 => some (mkSumN totalF)
  | 28 => some (mkSumN add64F)
  | 39 => some (mkSumN F39)
  | 41 => some (mkSumN F41)
  | _ => none
noncomputable def g1 : Ctx := { P := Try.prog, sum := sum1, glob := fun _ => none }
theorem g1_ok : CtxU g1 := by
  refine CtxU.mk (fun f σ h => ?_) mixed noGo
  simp only [g1, sum1] at h
  split at h
  all_goals first | (simp at h; done) | skip
  all_goals (simp only [Option.some.injEq] at h; subst h)
  · exact Acc.lift rfl rfl ok20
  · exact Acc.lift rfl rfl ok24
  · exact Acc.lift rfl rfl ok25
  · exact Acc.lift rfl rfl ok27
  · exact Acc.lift rfl rfl ok28
  · exact Acc.lift rfl rfl ok39
  · exact Acc.lift rfl rfl ok41

def blockN (lb : List Int) : Nat → Int := settledN (numL (atL lb))
def addN (la lb : List Int) : Nat → Int := settledN (addL (atL la) (atL lb))
def mulN (la lb : List Int) : Nat → Int := settledN (mulL (atL la) (atL lb))
def clampL (f : Nat → Int) : List Int := [f 0, f 1, f 2, umask (f 3) 15, uand (f 4) 252, f 5, f 6, umask (f 7) 15, uand (f 8) 252, f 9, f 10, umask (f 11) 15, uand (f 12) 252, f 13, f 14, umask (f 15) 15, 0]
def clampN (la : List Int) : Nat → Int := blockN (clampL (atL la))
theorem block_run (lb : List Int) : runF g1 200 [] 11 [.agg (svF (List.replicate 17 .u8) (atL lb) 0)] [] [] = some (.agg (svF (List.replicate 5 .u64) (blockN lb) 0), [], []) := by kernel_rfl
theorem clamp_run (la : List Int) : runF g1 200 [] 19 [.agg (svF (List.replicate 16 .u8) (atL la) 0)] [] [] = some (.agg (svF (List.replicate 5 .u64) (clampN la) 0), [], []) := by kernel_rfl
theorem add_run (la lb : List Int) : runF g1 200 [] 12 [.raw (.pointer none), .agg (svF (List.replicate 5 .u64) (atL la) 0), .agg (svF (List.replicate 5 .u64) (atL lb) 0)] [] [] = some (.agg (svF (List.replicate 5 .u64) (addN la lb) 0), [], []) := by kernel_rfl
theorem mul_run (la lb : List Int) : runF g1 200 [] 14 [.raw (.pointer none), .agg (svF (List.replicate 5 .u64) (atL la) 0), .agg (svF (List.replicate 5 .u64) (atL lb) 0)] [] [] = some (.agg (svF (List.replicate 5 .u64) (mulN la lb) 0), [], []) := by kernel_rfl
theorem least_run (la : List Int) : runF g1 200 [] 26 [.agg (svF (List.replicate 5 .u64) (atL la) 0)] [] [] = some (.agg (svF (List.replicate 5 .u64) (leastN la) 0), [], []) := by kernel_rfl
theorem ok26 : Acc g1 26 (arrF 5 .u64 5 .u64 leastN) := arr_ok (fn := 26) g1_ok (fun la => ⟨_, least_run la⟩)
theorem ok11 : Acc g1 11 (arrF 17 .u8 5 .u64 blockN) := arr_ok (fn := 11) g1_ok (fun la => ⟨_, block_run la⟩)
theorem ok19 : Acc g1 19 (arrF 16 .u8 5 .u64 clampN) := arr_ok (fn := 19) g1_ok (fun la => ⟨_, clamp_run la⟩)
theorem add_log (la lb : List Int) (l : List (List Int)) : runF g1 200 [] 12 [.ptr 0 0, .agg (svF (List.replicate 5 .u64) (atL la) 0), .agg (svF (List.replicate 5 .u64) (atL lb) 0)] [.log l] [] = some (.agg (svF (List.replicate 5 .u64) (addN la lb) 0), [some (.log (l ++ [[3, 11]]))], [l.length < 1099511627776]) := by kernel_rfl
theorem mul_log (la lb : List Int) (l : List (List Int)) : runF g1 200 [] 14 [.ptr 0 0, .agg (svF (List.replicate 5 .u64) (atL la) 0), .agg (svF (List.replicate 5 .u64) (atL lb) 0)] [.log l] [] = some (.agg (svF (List.replicate 5 .u64) (mulN la lb) 0), [some (.log (l ++ [[3, 12]]))], [l.length < 1099511627776]) := by kernel_rfl
theorem ok12 : Acc g1 12 (binF 11 addN) := bin_ok (fn := 12) g1_ok (fun la lb => ⟨_, add_run la lb⟩) (fun la lb l => ⟨_, add_log la lb l⟩)
theorem ok14 : Acc g1 14 (binF 12 mulN) := bin_ok (fn := 14) g1_ok (fun la lb => ⟨_, mul_run la lb⟩) (fun la lb l => ⟨_, mul_log la lb l⟩)
noncomputable def sum2 : FuncId → Option Sum := fun f => match f with
  | 26 => some (mkSumN (arrF 5 .u64 5 .u64 leastN))
  | f => sum1 f
noncomputable def g2 : Ctx := { P := Try.prog, sum := sum2, glob := fun _ => none }
theorem g2_ok : CtxU g2 := by
  refine CtxU.mk (fun f σ h => ?_) mixed noGo
  simp only [g2, sum2] at h
  split at h
  · simp only [Option.some.injEq] at h; subst h
    exact Acc.lift rfl rfl ok26
  · exact fun w0 O hG => (g1_ok w0 O hG).sums f σ h
theorem bytes_run (la : List Int) : runF g2 200 [] 13 [.agg (svF (List.replicate 5 .u64) (atL la) 0)] [] [] = some (.agg (svF (List.replicate 17 .u8) (bytesN la) 0), [], []) := by kernel_rfl
theorem ok13 : Acc g2 13 (arrF 5 .u64 17 .u8 bytesN) := arr_ok (fn := 13) g2_ok (fun la => ⟨_, bytes_run la⟩)
noncomputable def sum3 : FuncId → Option Sum := fun f => match f with
  | 11 => some (mkSumN (arrF 17 .u8 5 .u64 blockN))
  | 12 => some (mkSumN (binF 11 addN))
  | 13 => some (mkSumN (arrF 5 .u64 17 .u8 bytesN))
  | 14 => some (mkSumN (binF 12 mulN))
  | 19 => some (mkSumN (arrF 16 .u8 5 .u64 clampN))
  | f => sum2 f
noncomputable def g3 : Ctx := { P := Try.prog, sum := sum3, glob := fun _ => none }
theorem g3_ok : CtxU g3 := by
  refine CtxU.mk (fun f σ h => ?_) mixed noGo
  simp only [g3, sum3] at h
  split at h
  all_goals first | exact fun w0 O hG => (g2_ok w0 O hG).sums _ σ h | skip
  all_goals (simp only [Option.some.injEq] at h; subst h)
  · exact Acc.lift rfl rfl ok11
  · exact Acc.lift rfl rfl ok12
  · exact Acc.lift rfl rfl ok13
  · exact Acc.lift rfl rfl ok14
  · exact Acc.lift rfl rfl ok19

def F18 : SumF := fun args B => match args, B with
  | [.agg xs, .agg ys], [] => match numsAs (List.replicate 5 .u64) xs, numsAs (List.replicate 16 .u8) ys with
    | some la, some lb => some { val := .agg (svF (List.replicate 16 .u8) (sumN la lb) 0) }
    | _, _ => none
  | _, _ => none
theorem sum_run (a b : Nat → Int) : runF g3 400 [] 18 [.agg (svF (List.replicate 5 .u64) a 0), .agg (svF (List.replicate 16 .u8) b 0)] [] [] =
    some (.agg (svF (List.replicate 16 .u8) (sumN (listF 5 a 0) (listF 16 b 0)) 0), [], [(0 : Int).toNat ≤ 1, (adcC (word8 (bytesN (listF 5 a 0)) 0) (word8 (atL (listF 16 b 0)) 0) 0).toNat ≤ 1]) := by kernel_rfl
theorem facts8 {n : Nat} {a : Nat → Int} (h : factsL (svF (List.replicate n .u8) a 0)) (j : Nat) (hj : j < n) : Byte (a j) := by
  have := facts_svF h j .u8 (rep_get hj)
  rw [Nat.zero_add] at this
  obtain ⟨m, e, hm⟩ := fits_u8 this
  rw [e]; unfold Byte; omega
theorem atL_listF {n : Nat} {a : Nat → Int} {j : Nat} (hj : j < n) : atL (listF n a 0) j = a j := by
  unfold atL
  rw [List.getD_eq_getElem?_getD, listF_get, if_pos hj, Nat.zero_add]; rfl
theorem ok18 : Acc g3 18 F18 := by
  intro args B out h _
  unfold F18 at h
  split at h
  · split at h
    · rename_i la lb ha hb
      simp only [Option.some.injEq] at h; subst h
      refine FnOk.imp (args' := [.agg (svF (List.replicate 5 .u64) (atL la) 0), .agg (svF (List.replicate 16 .u8) (atL lb) 0)]) ?_ ⟨nums_imp ha, nums_imp hb, trivial⟩
      refine FnOk.facts fun ⟨_, h2, _⟩ => ?_
      have hrun := sum_run (atL la) (atL lb)
      have e1 := nums_list ha
      have e2 := nums_list hb
      simp only [List.length_replicate] at e1 e2
      rw [← e1, ← e2] at hrun
      refine FnOk.pure g3_ok hrun ?_
      rw [allC_cons, allC_cons, allC_nil]
      refine ⟨by decide, carry_le (fun j _ => bytesN_byte _ _) (fun j hj => ?_), trivial⟩
      rw [Nat.zero_add]
      exact facts8 h2 j (by omega)
    · simp at h
  · simp at h
noncomputable def sum4 : FuncId → Option Sum := fun f => match f with
  | 18 => some (mkSumN F18)
  | f => sum3 f
noncomputable def g4 : Ctx := { P := Try.prog, sum := sum4, glob := fun _ => none }
theorem g4_ok : CtxU g4 := by
  refine CtxU.mk (fun f σ h => ?_) mixed noGo
  simp only [g4, sum4] at h
  split at h
  · simp only [Option.some.injEq] at h; subst h
    exact Acc.lift rfl rfl ok18
  · exact fun w0 O hG => (g3_ok w0 O hG).sums f σ h
end Go.Proofs.Ytibfgdbkobgemaa
