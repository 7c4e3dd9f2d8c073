/- Accounts of this seat's functions: lemmas, no statement of their own. No conditions. -/
import Derived.Test.YtofcclenjblhkaaV3
import Derived.Test.YtofcclenjblhkaaProg
namespace Go.Proofs.Ytofcclenjblhkaa
open Go.Vx

noncomputable def g0 : Ctx := { P := Try.prog, sum := fun _ => none, glob := fun _ => none }

theorem mixed : Try.prog.follows .mixedOrders = true := by kernel_rfl
theorem names : Try.prog.funcs.all (fun fn => !(fn.name == "runtime.NumGoroutine") || fn.body.isNone) = true := by kernel_rfl
theorem noGo (f : FuncId) (fn : Func) (c : Code) (h : Try.prog.funcs[f]? = some fn) (hb : fn.body = some c) : (fn.name == "runtime.NumGoroutine") = false := by
  have := Array.all_eq_true'.1 names fn (Array.mem_of_getElem? h)
  rw [hb] at this
  simpa using this
theorem g0_ok : CtxU g0 := CtxU.mk (fun f σ h => by simp [g0] at h) mixed noGo

/-! ### mask: the runs -/
theorem equal_run (a b : Nat) : runF g0 20 [] 9 [.int .u64 a, .int .u64 b] [] [] = some (.int .u64 (Int.ofNat (equalE a b)), [], []) := by kernel_rfl
theorem less_run (a b : Nat) : runF g0 20 [] 11 [.int .u64 a, .int .u64 b] [] [] = some (.int .u64 (Int.ofNat (lessE a b)), [], []) := by kernel_rfl
theorem pick_run (s a b : Nat) : runF g0 20 [] 12 [.int .u64 s, .int .u64 a, .int .u64 b] [] [] = some (.int .u64 (Int.ofNat (pickE s a b)), [], []) := by kernel_rfl
theorem tags_run (a b : Nat → Int) : runF g0 60 [] 13 [.agg (svF (List.replicate 16 .u8) a 0), .agg (svF (List.replicate 16 .u8) b 0)] [] [] = some (.int .u64 (Int.ofNat (eqArrE 16 a b)), [], []) := by kernel_rfl
theorem keys_run (a b : Nat → Int) : runF g0 60 [] 14 [.agg (svF (List.replicate 32 .u8) a 0), .agg (svF (List.replicate 32 .u8) b 0)] [] [] = some (.int .u64 (Int.ofNat (eqArrE 32 a b)), [], []) := by kernel_rfl
theorem pickKey_run (s : Nat) (a b : Nat → Int) : runF g0 60 [] 15 [.int .u64 s, .agg (svF (List.replicate 32 .u8) a 0), .agg (svF (List.replicate 32 .u8) b 0)] [] [] =
    some (.agg (svF (List.replicate 32 .u8) (fun i => Int.ofNat (pick8E s (a i).toNat (b i).toNat)) 0), [], []) := by kernel_rfl
theorem bit_run1 (b : Bool) : runF g0 20 [.br true] 10 [.sbool b] [] [] = some (.lit .u64 1, [], [b = true]) := by kernel_rfl
theorem bit_run0 (b : Bool) : runF g0 20 [.br false] 10 [.sbool b] [] [] = some (.lit .u64 0, [], [b = false]) := by kernel_rfl

/-! ### mask: the accounts -/
theorem ok_pure {f : FuncId} {args : List SV} {v : SV} {n : Nat} {pl : List Plan} {C : List Prop} (h : runF g0 n pl f args [] [] = some (v, [], C)) (hC : AllC C) : FnOk g0 f args [] { val := v } :=
  FnOk.run (out := { val := v }) g0_ok h hC (by simp [upto]) rfl (by decide) (by simp) (by simp)

def F9 : SumF := fun args B => match args, B with
  | [.int .u64 a, .int .u64 b], [] => some { val := .int .u64 (if a = b then 1 else 0) }
  | _, _ => none
def F10 : SumF := fun args B => match args, B with
  | [.sbool b], [] => some { val := .int .u64 (if b = true then 1 else 0) }
  | _, _ => none
def F11 : SumF := fun args B => match args, B with
  | [.int .u64 a, .int .u64 b], [] => some { val := .int .u64 (if a < b then 1 else 0) }
  | _, _ => none
def F12 : SumF := fun args B => match args, B with
  | [.int .u64 s, .int .u64 a, .int .u64 b], [] => some { val := .int .u64 (if s % 2 = 1 then a else b) }
  | _, _ => none
def eqArrF (n : Nat) : SumF := fun args B => match args, B with
  | [.agg xs, .agg ys], [] => match numsAs (List.replicate n .u8) xs, numsAs (List.replicate n .u8) ys with
    | some la, some lb => some { val := .int .u64 (if la = lb then 1 else 0) }
    | _, _ => none
  | _, _ => none
def F15 : SumF := fun args B => match args, B with
  | [.int .u64 s, .agg xs, .agg ys], [] => match numsAs (List.replicate 32 .u8) xs, numsAs (List.replicate 32 .u8) ys with
    | some la, some lb => some { val := .agg (List.zipWith (fun x y => .int .u8 (if s % 2 = 1 then x else y)) la lb) }
    | _, _ => none
  | _, _ => none

theorem ok9 (args : List SV) (B : List Body) (out : OpOut) (h : F9 args B = some out) (_ : AllC out.C) : FnOk g0 9 args B out := by
  unfold F9 at h
  split at h
  · simp only [Option.some.injEq] at h; subst h
    refine FnOk.facts fun ⟨h1, h2, _⟩ => ?_
    obtain ⟨x, rfl, hx⟩ := fits_u64 h1
    obtain ⟨y, rfl, hy⟩ := fits_u64 h2
    have e : Int.ofNat (equalE x y) = if ((x : Nat) : Int) = y then 1 else 0 := by
      rw [equalE_eq hx hy]
      by_cases h : x = y
      · simp [h]
      · have : ¬ ((x : Int) = y) := by omega
        simp [h, this]
    rw [← e]
    exact ok_pure (equal_run x y) (by simp [AllC])
  · simp at h
theorem ok10 (args : List SV) (B : List Body) (out : OpOut) (h : F10 args B = some out) (_ : AllC out.C) : FnOk g0 10 args B out := by
  unfold F10 at h
  split at h
  · rename_i b
    simp only [Option.some.injEq] at h; subst h
    cases b
    · exact (ok_pure (bit_run0 false) (by simp [AllC])).val fun _ _ _ _ d => denV_norm d
    · exact (ok_pure (bit_run1 true) (by simp [AllC])).val fun _ _ _ _ d => denV_norm d
  · simp at h
theorem ok11 (args : List SV) (B : List Body) (out : OpOut) (h : F11 args B = some out) (_ : AllC out.C) : FnOk g0 11 args B out := by
  unfold F11 at h
  split at h
  · simp only [Option.some.injEq] at h; subst h
    refine FnOk.facts fun ⟨h1, h2, _⟩ => ?_
    obtain ⟨x, rfl, hx⟩ := fits_u64 h1
    obtain ⟨y, rfl, hy⟩ := fits_u64 h2
    have e : Int.ofNat (lessE x y) = if ((x : Nat) : Int) < y then 1 else 0 := by
      rw [lessE_eq hx hy]
      by_cases h : x < y
      · have : (x : Int) < y := by omega
        simp [h, this]
      · have : ¬ ((x : Int) < y) := by omega
        simp [h, this]
    rw [← e]
    exact ok_pure (less_run x y) (by simp [AllC])
  · simp at h
theorem ok12 (args : List SV) (B : List Body) (out : OpOut) (h : F12 args B = some out) (_ : AllC out.C) : FnOk g0 12 args B out := by
  unfold F12 at h
  split at h
  · simp only [Option.some.injEq] at h; subst h
    refine FnOk.facts fun ⟨h0, h1, h2, _⟩ => ?_
    obtain ⟨s, rfl, hs⟩ := fits_u64 h0
    obtain ⟨x, rfl, hx⟩ := fits_u64 h1
    obtain ⟨y, rfl, hy⟩ := fits_u64 h2
    have e : Int.ofNat (pickE s x y) = if ((s : Nat) : Int) % 2 = 1 then (x : Int) else y := by
      rw [pickE_eq s hx hy]
      by_cases h : s % 2 = 1
      · have : (s : Int) % 2 = 1 := by omega
        simp [h, this]
      · have : ¬ ((s : Int) % 2 = 1) := by omega
        simp [h, this]
    rw [← e]
    exact ok_pure (pick_run s x y) (by simp [AllC])
  · simp at h

theorem okArr {n : Nat} {f : FuncId} (hrun : ∀ a b : Nat → Int, ∃ m, runF g0 m [] f [.agg (svF (List.replicate n .u8) a 0), .agg (svF (List.replicate n .u8) b 0)] [] [] = some (.int .u64 (Int.ofNat (eqArrE n a b)), [], []))
    (args : List SV) (B : List Body) (out : OpOut) (h : eqArrF n args B = some out) (_ : AllC out.C) : FnOk g0 f args B out := by
  unfold eqArrF at h
  split at h
  · split at h
    · rename_i la lb ha hb
      simp only [Option.some.injEq] at h; subst h
      refine FnOk.imp (args' := [.agg (svF (List.replicate n .u8) (atL la) 0), .agg (svF (List.replicate n .u8) (atL lb) 0)]) ?_ ⟨nums_imp ha, nums_imp hb, trivial⟩
      refine FnOk.facts fun ⟨h1, h2, _⟩ => ?_
      have hj : ∀ j, j < n → Fits .u8 (atL la j) ∧ Fits .u8 (atL lb j) := fun j hj => by
        have e : (List.replicate n IntKind.u8)[j]? = some .u8 := by simp [hj]
        have f1 := facts_svF h1 j .u8 e
        have f2 := facts_svF h2 j .u8 e
        rw [Nat.zero_add] at f1 f2
        exact ⟨f1, f2⟩
      have e1 := nums_list ha
      have e2 := nums_list hb
      simp only [List.length_replicate] at e1 e2
      have e : (if la = lb then (1 : Int) else 0) = Int.ofNat (eqArrE n (atL la) (atL lb)) := by
        rw [eqArrE_eq hj, ← e1, ← e2]
        split <;> rfl
      rw [e]
      obtain ⟨m, hm⟩ := hrun (atL la) (atL lb)
      exact ok_pure hm (by simp [AllC])
    · simp at h
  · simp at h
theorem ok13 (args : List SV) (B : List Body) (out : OpOut) (h : eqArrF 16 args B = some out) (hC : AllC out.C) : FnOk g0 13 args B out := okArr (fun a b => ⟨_, tags_run a b⟩) args B out h hC
theorem ok14 (args : List SV) (B : List Body) (out : OpOut) (h : eqArrF 32 args B = some out) (hC : AllC out.C) : FnOk g0 14 args B out := okArr (fun a b => ⟨_, keys_run a b⟩) args B out h hC

theorem zip_svF (f : Int → Int → Int) : ∀ (n : Nat) (a b : Nat → Int) (i : Nat), List.zipWith (fun x y => SV.int .u8 (f x y)) (listF n a i) (listF n b i) = svF (List.replicate n .u8) (fun j => f (a j) (b j)) i
  | 0, _, _, _ => rfl
  | n + 1, a, b, i => by
    simp only [listF, List.zipWith_cons_cons, List.replicate_succ, svF, zip_svF f n a b (i + 1)]

theorem ok15 (args : List SV) (B : List Body) (out : OpOut) (h : F15 args B = some out) (_ : AllC out.C) : FnOk g0 15 args B out := by
  unfold F15 at h
  split at h
  · rename_i s xs ys
    split at h
    · rename_i la lb ha hb
      simp only [Option.some.injEq] at h; subst h
      refine FnOk.imp (args' := [.int .u64 s, .agg (svF (List.replicate 32 .u8) (atL la) 0), .agg (svF (List.replicate 32 .u8) (atL lb) 0)]) ?_ ⟨DenImp.refl _, nums_imp ha, nums_imp hb, trivial⟩
      refine FnOk.facts fun ⟨h0, h1, h2, _⟩ => ?_
      obtain ⟨m, rfl, hm⟩ := fits_u64 h0
      have e1 := nums_list ha
      have e2 := nums_list hb
      simp only [List.length_replicate] at e1 e2
      have e : List.zipWith (fun x y => SV.int .u8 (if ((m : Nat) : Int) % 2 = 1 then x else y)) la lb = svF (List.replicate 32 .u8) (fun i => Int.ofNat (pick8E m (atL la i).toNat (atL lb i).toNat)) 0 := by
        rw [e1, e2, zip_svF (fun x y => if ((m : Nat) : Int) % 2 = 1 then x else y), ← e1, ← e2]
        refine svF_cong fun j hj => ?_
        have ek : (List.replicate 32 IntKind.u8)[j]? = some .u8 := rep_get (by rw [List.length_replicate] at hj; exact hj)
        have f1 := facts_svF h1 j .u8 ek
        have f2 := facts_svF h2 j .u8 ek
        obtain ⟨x, hx, hx'⟩ := fits_u8 f1
        obtain ⟨y, hy, hy'⟩ := fits_u8 f2
        simp only [hx, hy, Int.toNat_natCast]
        rw [pick8E_eq m hx' hy']
        by_cases h : m % 2 = 1
        · have : (m : Int) % 2 = 1 := by omega
          simp [h, this]
        · have : ¬ ((m : Int) % 2 = 1) := by omega
          simp [h, this]
      rw [e]
      exact ok_pure (pickKey_run m (atL la) (atL lb)) (by simp [AllC])
    · simp at h
  · simp at h

theorem known_run : runF g0 200 (List.replicate 30 (.br true)) 8 [] [] [] = some (.sbool true, [], [true = true, true = true, true = true]) := by kernel_rfl
def F8 : SumF := fun args B => match args, B with
  | [], [] => some { val := .bool true }
  | _, _ => none
theorem ok8 (args : List SV) (B : List Body) (out : OpOut) (h : F8 args B = some out) (_ : AllC out.C) : FnOk g0 8 args B out := by
  unfold F8 at h
  split at h
  · simp only [Option.some.injEq] at h; subst h
    exact (ok_pure known_run (by simp [AllC])).val fun _ _ _ _ d => den_cell rfl (by
      have := denV_bool (l := false) (b := true) d rfl
      rw [this]; rfl) (by
      have := denV_bool (l := false) (b := true) d rfl
      rw [this]; simp [DenC])
  · simp at h

noncomputable def sum1 : FuncId → Option Sum := fun f => match f with
  | 8 => some (mkSumN F8)
  | 9 => some (mkSumN F9)
  | 10 => some (mkSumN F10)
  | 11 => some (mkSumN F11)
  | 12 => some (mkSumN F12)
  | 13 => some (mkSumN (eqArrF 16))
  | 14 => some (mkSumN (eqArrF 32))
  | 15 => some (mkSumN F15)
  | _ => none
noncomputable def g1 : Ctx := { P := Try.prog, sum := sum1, glob := fun _ => none }
theorem g1_ok : CtxU g1 := by
  refine CtxU.mk (fun f σ h => ?_) mixed noGo
  have lift : ∀ {f : FuncId} {F : SumF}, (∀ args B out, F args B = some out → AllC out.C → FnOk g0 f args B out) → SumU g1 f (mkSumN F) := fun h => SumU.mkN (g := g1) h
  simp only [g1, sum1] at h
  split at h
  all_goals first | (simp at h; done) | skip
  all_goals (simp only [Option.some.injEq] at h; subst h)
  · exact lift ok8
  · exact lift ok9
  · exact lift ok10
  · exact lift ok11
  · exact lift ok12
  · exact lift ok13
  · exact lift ok14
  · exact lift ok15
end Go.Proofs.Ytofcclenjblhkaa
