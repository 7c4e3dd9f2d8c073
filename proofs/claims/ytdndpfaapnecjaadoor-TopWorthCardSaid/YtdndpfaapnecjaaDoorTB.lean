/- Accounts of this seat's functions: lemmas, no statement of their own. No conditions. -/
import Derived.Test.YtdndpfaapnecjaaDoorV4
import Derived.Test.YtdndpfaapnecjaaDoorProg
namespace Go.Proofs.Tryd
open Go Go.Vx

noncomputable def g0 : Ctx := { P := Tryd.prog, sum := fun _ => none, glob := fun _ => none }
theorem mixed : Tryd.prog.follows .mixedOrders = true := by kernel_rfl
theorem names : Tryd.prog.funcs.all (fun fn => !(fn.name == "runtime.NumGoroutine") || fn.body.isNone) = true := by kernel_rfl
theorem noGo (f : FuncId) (fn : Func) (c : Code) (h : Tryd.prog.funcs[f]? = some fn) (hb : fn.body = some c) : (fn.name == "runtime.NumGoroutine") = false := by
  have := Array.all_eq_true'.1 names fn (Array.mem_of_getElem? h)
  rw [hb] at this
  simpa using this
theorem g0_ok : CtxU g0 := CtxU.mk (fun f σ h => by simp [g0] at h) mixed noGo
theorem get_ok {f : FuncId} (h : (Tryd.prog.funcs[f]?).isSome = true) : Tryd.prog.funcs[f]? = some ((Tryd.prog.funcs[f]?).getD default) := by
  obtain ⟨x, hx⟩ := Option.isSome_iff_exists.1 h
  rw [hx]; rfl

/-! ### the document's state: e of both sides, s of both, done -/
def safeR (x : Nat → Bool) (s : Int) : Bool :=
  (!(x 11) || x s.toNat) && (!(x (if s = 0 then 9 else 8)) || x 7) && (!(x 10) || x (if s = 0 then 8 else 9))
def hasR (x : Nat → Bool) (t : Int) : Bool :=
  if t = 3 then x 0 && x 1 else if t = 4 then x 0 && x 3 else if t = 5 then x 2 && x 1 else x 2 && x 3
def setB (x : Nat → Bool) (i : Nat) : Nat → Bool := fun j => bif Nat.beq j i then true else x j
def tokI (s t : Int) : Nat := if t = 1 then s.toNat else if t = 2 then 2 + s.toNat else 4 + t.toNat
def tokE (x : Nat → Bool) (s t : Int) : Int :=
  if t = 7 then 0 else if x (tokI s t) = true then 10 else if t = 1 then 0 else if t = 2 then (if safeR x s = true then 0 else 12) else if hasR x t = true then 0 else 11
def tokX (x : Nat → Bool) (s t : Int) : Nat → Bool := if tokE x s t = 0 then setB x (tokI s t) else x

abbrev bL (b0 b1 b2 b3 b4 b5 b6 b7 b8 b9 b10 b11 : Bool) : List SV := [.bool b0, .bool b1, .bool b2, .bool b3, .bool b4, .bool b5, .bool b6, .bool b7, .bool b8, .bool b9, .bool b10, .bool b11]
abbrev bN (b0 b1 b2 b3 b4 b5 b6 b7 b8 b9 b10 b11 : Bool) : Nat → Bool := atB [b0, b1, b2, b3, b4, b5, b6, b7, b8, b9, b10, b11]
theorem safe_0 (b0 b1 b2 b3 b4 b5 b6 b7 b8 b9 b10 b11 : Bool) : runF g0 200 [] 10 [.agg (bL b0 b1 b2 b3 b4 b5 b6 b7 b8 b9 b10 b11), .lit .i64 0] [] [] = some (.bool (safeR (bN b0 b1 b2 b3 b4 b5 b6 b7 b8 b9 b10 b11) 0), [], []) := by
  cases b0 <;> cases b7 <;> cases b8 <;> cases b9 <;> cases b10 <;> cases b11 <;> kernel_rfl
theorem safe_1 (b0 b1 b2 b3 b4 b5 b6 b7 b8 b9 b10 b11 : Bool) : runF g0 200 [] 10 [.agg (bL b0 b1 b2 b3 b4 b5 b6 b7 b8 b9 b10 b11), .lit .i64 1] [] [] = some (.bool (safeR (bN b0 b1 b2 b3 b4 b5 b6 b7 b8 b9 b10 b11) 1), [], []) := by
  cases b1 <;> cases b7 <;> cases b8 <;> cases b9 <;> cases b10 <;> cases b11 <;> kernel_rfl
theorem has_3 (b0 b1 b2 b3 b4 b5 b6 b7 b8 b9 b10 b11 : Bool) : runF g0 200 [] 17 [.agg (bL b0 b1 b2 b3 b4 b5 b6 b7 b8 b9 b10 b11), .lit .i64 3] [] [] = some (.bool (hasR (bN b0 b1 b2 b3 b4 b5 b6 b7 b8 b9 b10 b11) 3), [], []) := by
  cases b0 <;> cases b1 <;> cases b2 <;> cases b3 <;> kernel_rfl
theorem has_4 (b0 b1 b2 b3 b4 b5 b6 b7 b8 b9 b10 b11 : Bool) : runF g0 200 [] 17 [.agg (bL b0 b1 b2 b3 b4 b5 b6 b7 b8 b9 b10 b11), .lit .i64 4] [] [] = some (.bool (hasR (bN b0 b1 b2 b3 b4 b5 b6 b7 b8 b9 b10 b11) 4), [], []) := by
  cases b0 <;> cases b1 <;> cases b2 <;> cases b3 <;> kernel_rfl
theorem has_5 (b0 b1 b2 b3 b4 b5 b6 b7 b8 b9 b10 b11 : Bool) : runF g0 200 [] 17 [.agg (bL b0 b1 b2 b3 b4 b5 b6 b7 b8 b9 b10 b11), .lit .i64 5] [] [] = some (.bool (hasR (bN b0 b1 b2 b3 b4 b5 b6 b7 b8 b9 b10 b11) 5), [], []) := by
  cases b0 <;> cases b1 <;> cases b2 <;> cases b3 <;> kernel_rfl
theorem has_6 (b0 b1 b2 b3 b4 b5 b6 b7 b8 b9 b10 b11 : Bool) : runF g0 200 [] 17 [.agg (bL b0 b1 b2 b3 b4 b5 b6 b7 b8 b9 b10 b11), .lit .i64 6] [] [] = some (.bool (hasR (bN b0 b1 b2 b3 b4 b5 b6 b7 b8 b9 b10 b11) 6), [], []) := by
  cases b0 <;> cases b1 <;> cases b2 <;> cases b3 <;> kernel_rfl
theorem boolsB : ∀ {cs : List SV} {l : List Bool}, boolsAs cs = some l → ImpL cs (l.map .bool)
  | [], l, h => by simp [boolsAs] at h; subst h; trivial
  | c :: cs, l, h => by
    simp only [boolsAs] at h
    split at h
    · rename_i _ b l' h1 h2
      simp only [Option.some.injEq] at h; subst h
      exact ⟨fun w0 O ρ v hv => bool_sb h1 w0 O ρ v hv |>.imp (fun h => by simp at h) fun y => ⟨y.1, by simpa only [DenC] using y.2⟩, boolsB h2⟩
    · simp at h
theorem boolsBL {w0 : World} {O : Go.Vx.Own} {ρ : Rho} : ∀ {l : List Bool} {vs : List Value}, DenL w0 O ρ (bS l) vs → DenL w0 O ρ (l.map .bool) vs
  | [], vs, hd => hd
  | b :: l, vs, hd => by
    simp only [bS, DenL] at hd
    obtain ⟨v, r, rfl, g1, g2, g3⟩ := hd
    simp only [List.map, DenL]
    exact ⟨v, r, rfl, by simpa only [DenC] using g1, g2, boolsBL g3⟩
theorem sx12 {cs : List SV} {x : Nat → Bool} (h : sxOf 12 cs = some x) : ∃ b0 b1 b2 b3 b4 b5 b6 b7 b8 b9 b10 b11, x = bN b0 b1 b2 b3 b4 b5 b6 b7 b8 b9 b10 b11 ∧ DenImp (.agg cs) (.agg (bL b0 b1 b2 b3 b4 b5 b6 b7 b8 b9 b10 b11)) := by
  obtain ⟨l, h1, rfl, h2⟩ := sx_list h
  have hn : l.length = 12 := by
    unfold sxOf at h
    rw [h1] at h
    simp only at h
    split at h
    · rename_i hn; exact Nat.eq_of_beq_eq_true hn
    · simp at h
  match l, hn with
  | [b0, b1, b2, b3, b4, b5, b6, b7, b8, b9, b10, b11], _ =>
    refine ⟨b0, b1, b2, b3, b4, b5, b6, b7, b8, b9, b10, b11, rfl, fun w0 O ρ v hd => ?_⟩
    obtain ⟨arr, rfl, hh⟩ := denV_agg hd
    exact den_agg (boolsBL (boolsL h1 hh))
theorem fits_small {n : Int} (h1 : -1000000 ≤ n) (h2 : n ≤ 1000000) : Fits .i64 n := ⟨by show (-9223372036854775808 : Int) ≤ n; omega, by show n ≤ 9223372036854775807; omega⟩
theorem b_sb (b : Bool) : DenImp (.bool b) (.sbool b) := bool_sb (l := true) rfl

def F10 : SumF := fun args B => match args, B with
  | [.agg cs, .int .i64 s], [] => match sxOf 12 cs with
    | some x => some { val := .sbool (safeR x s), C := [s = 0 ∨ s = 1] }
    | none => none
  | _, _ => none
theorem acc10 : Acc g0 10 F10 := by
  intro args B out h hC
  unfold F10 at h
  split at h
  · rename_i cs s
    split at h
    · rename_i x hx
      simp only [Option.some.injEq] at h; subst h
      simp only [allC_cons, allC_nil, and_true] at hC
      obtain ⟨b0, b1, b2, b3, b4, b5, b6, b7, b8, b9, b10, b11, rfl, hi⟩ := sx12 hx
      rcases hC with rfl | rfl
      · exact FnOk.val (C := []) (rd := []) (FnOk.imp (FnOk.pure g0_ok (safe_0 b0 b1 b2 b3 b4 b5 b6 b7 b8 b9 b10 b11) (allC_nil.2 trivial)) ⟨hi, lit_imp (fits_small (by decide) (by decide)), trivial⟩) (b_sb _)
      · exact FnOk.val (C := []) (rd := []) (FnOk.imp (FnOk.pure g0_ok (safe_1 b0 b1 b2 b3 b4 b5 b6 b7 b8 b9 b10 b11) (allC_nil.2 trivial)) ⟨hi, lit_imp (fits_small (by decide) (by decide)), trivial⟩) (b_sb _)
    · simp at h
  · simp at h
def F17 : SumF := fun args B => match args, B with
  | [.agg cs, .int .i64 t], [] => match sxOf 12 cs with
    | some x => some { val := .sbool (hasR x t), C := [3 ≤ t ∧ t ≤ 6] }
    | none => none
  | _, _ => none
theorem acc17 : Acc g0 17 F17 := by
  intro args B out h hC
  unfold F17 at h
  split at h
  · rename_i cs t
    split at h
    · rename_i x hx
      simp only [Option.some.injEq] at h; subst h
      simp only [allC_cons, allC_nil, and_true] at hC
      obtain ⟨b0, b1, b2, b3, b4, b5, b6, b7, b8, b9, b10, b11, rfl, hi⟩ := sx12 hx
      have ht : t = 3 ∨ t = 4 ∨ t = 5 ∨ t = 6 := by omega
      rcases ht with rfl | rfl | rfl | rfl
      · exact FnOk.val (C := []) (rd := []) (FnOk.imp (FnOk.pure g0_ok (has_3 b0 b1 b2 b3 b4 b5 b6 b7 b8 b9 b10 b11) (allC_nil.2 trivial)) ⟨hi, lit_imp (fits_small (by decide) (by decide)), trivial⟩) (b_sb _)
      · exact FnOk.val (C := []) (rd := []) (FnOk.imp (FnOk.pure g0_ok (has_4 b0 b1 b2 b3 b4 b5 b6 b7 b8 b9 b10 b11) (allC_nil.2 trivial)) ⟨hi, lit_imp (fits_small (by decide) (by decide)), trivial⟩) (b_sb _)
      · exact FnOk.val (C := []) (rd := []) (FnOk.imp (FnOk.pure g0_ok (has_5 b0 b1 b2 b3 b4 b5 b6 b7 b8 b9 b10 b11) (allC_nil.2 trivial)) ⟨hi, lit_imp (fits_small (by decide) (by decide)), trivial⟩) (b_sb _)
      · exact FnOk.val (C := []) (rd := []) (FnOk.imp (FnOk.pure g0_ok (has_6 b0 b1 b2 b3 b4 b5 b6 b7 b8 b9 b10 b11) (allC_nil.2 trivial)) ⟨hi, lit_imp (fits_small (by decide) (by decide)), trivial⟩) (b_sb _)
    · simp at h
  · simp at h
noncomputable abbrev g1 : Ctx := g0.add [(10, F10), (17, F17)]
theorem g1_ok : CtxU g1 := g0_ok.add mixed noGo (by
  intro x hx
  simp only [List.mem_cons, List.not_mem_nil, or_false] at hx
  rcases hx with rfl | rfl
  · exact acc10
  · exact acc17)
end Go.Proofs.Tryd

namespace Go.Proofs.Tryd
open Go Go.Vx
/-! ### token: F9 -/
theorem tk01a (x : Nat → Bool) : runF g1 400 [.br true] 9 [.agg (SX 12 x), .lit .i64 0, .lit .i64 1] [] [] =
    some (.tuple [.agg (SX 12 x), .lit .i64 10], [], [x 0 = true]) := by kernel_rfl
theorem tk01b (x : Nat → Bool) : runF g1 400 [.br false] 9 [.agg (SX 12 x), .lit .i64 0, .lit .i64 1] [] [] =
    some (.tuple [.agg ((SX 12 x).set 0 (.bool true)), .lit .i64 0], [], [x 0 = false]) := by kernel_rfl
theorem tk02a (x : Nat → Bool) : runF g1 400 [.br true] 9 [.agg (SX 12 x), .lit .i64 0, .lit .i64 2] [] [] =
    some (.tuple [.agg (SX 12 x), .lit .i64 10], [], [x 2 = true]) := by kernel_rfl
theorem tk02b (x : Nat → Bool) : runF g1 400 [.br false, .br true] 9 [.agg (SX 12 x), .lit .i64 0, .lit .i64 2] [] [] =
    some (.tuple [.agg (SX 12 x), .lit .i64 12], [], [x 2 = false, (0 : Int) = 0 ∨ (0 : Int) = 1, (!(safeR (nrm 12 x) 0)) = true]) := by kernel_rfl
theorem tk02c (x : Nat → Bool) : runF g1 400 [.br false, .br false] 9 [.agg (SX 12 x), .lit .i64 0, .lit .i64 2] [] [] =
    some (.tuple [.agg ((SX 12 x).set 2 (.bool true)), .lit .i64 0], [], [x 2 = false, (0 : Int) = 0 ∨ (0 : Int) = 1, (!(safeR (nrm 12 x) 0)) = false]) := by kernel_rfl
theorem tk03a (x : Nat → Bool) : runF g1 400 [.br true] 9 [.agg (SX 12 x), .lit .i64 0, .lit .i64 3] [] [] =
    some (.tuple [.agg (SX 12 x), .lit .i64 10], [], [x 7 = true]) := by kernel_rfl
theorem tk03b (x : Nat → Bool) : runF g1 400 [.br false, .br true] 9 [.agg (SX 12 x), .lit .i64 0, .lit .i64 3] [] [] =
    some (.tuple [.agg (SX 12 x), .lit .i64 11], [], [x 7 = false, (3 : Int) ≤ 3 ∧ (3 : Int) ≤ 6, (!(hasR (nrm 12 x) 3)) = true]) := by kernel_rfl
theorem tk03c (x : Nat → Bool) : runF g1 400 [.br false, .br false] 9 [.agg (SX 12 x), .lit .i64 0, .lit .i64 3] [] [] =
    some (.tuple [.agg ((SX 12 x).set 7 (.bool true)), .lit .i64 0], [], [x 7 = false, (3 : Int) ≤ 3 ∧ (3 : Int) ≤ 6, (!(hasR (nrm 12 x) 3)) = false]) := by kernel_rfl
theorem tk04a (x : Nat → Bool) : runF g1 400 [.br true] 9 [.agg (SX 12 x), .lit .i64 0, .lit .i64 4] [] [] =
    some (.tuple [.agg (SX 12 x), .lit .i64 10], [], [x 8 = true]) := by kernel_rfl
theorem tk04b (x : Nat → Bool) : runF g1 400 [.br false, .br true] 9 [.agg (SX 12 x), .lit .i64 0, .lit .i64 4] [] [] =
    some (.tuple [.agg (SX 12 x), .lit .i64 11], [], [x 8 = false, (3 : Int) ≤ 4 ∧ (4 : Int) ≤ 6, (!(hasR (nrm 12 x) 4)) = true]) := by kernel_rfl
theorem tk04c (x : Nat → Bool) : runF g1 400 [.br false, .br false] 9 [.agg (SX 12 x), .lit .i64 0, .lit .i64 4] [] [] =
    some (.tuple [.agg ((SX 12 x).set 8 (.bool true)), .lit .i64 0], [], [x 8 = false, (3 : Int) ≤ 4 ∧ (4 : Int) ≤ 6, (!(hasR (nrm 12 x) 4)) = false]) := by kernel_rfl
theorem tk05a (x : Nat → Bool) : runF g1 400 [.br true] 9 [.agg (SX 12 x), .lit .i64 0, .lit .i64 5] [] [] =
    some (.tuple [.agg (SX 12 x), .lit .i64 10], [], [x 9 = true]) := by kernel_rfl
theorem tk05b (x : Nat → Bool) : runF g1 400 [.br false, .br true] 9 [.agg (SX 12 x), .lit .i64 0, .lit .i64 5] [] [] =
    some (.tuple [.agg (SX 12 x), .lit .i64 11], [], [x 9 = false, (3 : Int) ≤ 5 ∧ (5 : Int) ≤ 6, (!(hasR (nrm 12 x) 5)) = true]) := by kernel_rfl
theorem tk05c (x : Nat → Bool) : runF g1 400 [.br false, .br false] 9 [.agg (SX 12 x), .lit .i64 0, .lit .i64 5] [] [] =
    some (.tuple [.agg ((SX 12 x).set 9 (.bool true)), .lit .i64 0], [], [x 9 = false, (3 : Int) ≤ 5 ∧ (5 : Int) ≤ 6, (!(hasR (nrm 12 x) 5)) = false]) := by kernel_rfl
theorem tk06a (x : Nat → Bool) : runF g1 400 [.br true] 9 [.agg (SX 12 x), .lit .i64 0, .lit .i64 6] [] [] =
    some (.tuple [.agg (SX 12 x), .lit .i64 10], [], [x 10 = true]) := by kernel_rfl
theorem tk06b (x : Nat → Bool) : runF g1 400 [.br false, .br true] 9 [.agg (SX 12 x), .lit .i64 0, .lit .i64 6] [] [] =
    some (.tuple [.agg (SX 12 x), .lit .i64 11], [], [x 10 = false, (3 : Int) ≤ 6 ∧ (6 : Int) ≤ 6, (!(hasR (nrm 12 x) 6)) = true]) := by kernel_rfl
theorem tk06c (x : Nat → Bool) : runF g1 400 [.br false, .br false] 9 [.agg (SX 12 x), .lit .i64 0, .lit .i64 6] [] [] =
    some (.tuple [.agg ((SX 12 x).set 10 (.bool true)), .lit .i64 0], [], [x 10 = false, (3 : Int) ≤ 6 ∧ (6 : Int) ≤ 6, (!(hasR (nrm 12 x) 6)) = false]) := by kernel_rfl
theorem tk07a (x : Nat → Bool) : runF g1 400 [] 9 [.agg (SX 12 x), .lit .i64 0, .lit .i64 7] [] [] =
    some (.tuple [.agg ((SX 12 x).set 11 (.bool true)), .lit .i64 0], [], []) := by kernel_rfl
theorem tk11a (x : Nat → Bool) : runF g1 400 [.br true] 9 [.agg (SX 12 x), .lit .i64 1, .lit .i64 1] [] [] =
    some (.tuple [.agg (SX 12 x), .lit .i64 10], [], [x 1 = true]) := by kernel_rfl
theorem tk11b (x : Nat → Bool) : runF g1 400 [.br false] 9 [.agg (SX 12 x), .lit .i64 1, .lit .i64 1] [] [] =
    some (.tuple [.agg ((SX 12 x).set 1 (.bool true)), .lit .i64 0], [], [x 1 = false]) := by kernel_rfl
theorem tk12a (x : Nat → Bool) : runF g1 400 [.br true] 9 [.agg (SX 12 x), .lit .i64 1, .lit .i64 2] [] [] =
    some (.tuple [.agg (SX 12 x), .lit .i64 10], [], [x 3 = true]) := by kernel_rfl
theorem tk12b (x : Nat → Bool) : runF g1 400 [.br false, .br true] 9 [.agg (SX 12 x), .lit .i64 1, .lit .i64 2] [] [] =
    some (.tuple [.agg (SX 12 x), .lit .i64 12], [], [x 3 = false, (1 : Int) = 0 ∨ (1 : Int) = 1, (!(safeR (nrm 12 x) 1)) = true]) := by kernel_rfl
theorem tk12c (x : Nat → Bool) : runF g1 400 [.br false, .br false] 9 [.agg (SX 12 x), .lit .i64 1, .lit .i64 2] [] [] =
    some (.tuple [.agg ((SX 12 x).set 3 (.bool true)), .lit .i64 0], [], [x 3 = false, (1 : Int) = 0 ∨ (1 : Int) = 1, (!(safeR (nrm 12 x) 1)) = false]) := by kernel_rfl
theorem tk13a (x : Nat → Bool) : runF g1 400 [.br true] 9 [.agg (SX 12 x), .lit .i64 1, .lit .i64 3] [] [] =
    some (.tuple [.agg (SX 12 x), .lit .i64 10], [], [x 7 = true]) := by kernel_rfl
theorem tk13b (x : Nat → Bool) : runF g1 400 [.br false, .br true] 9 [.agg (SX 12 x), .lit .i64 1, .lit .i64 3] [] [] =
    some (.tuple [.agg (SX 12 x), .lit .i64 11], [], [x 7 = false, (3 : Int) ≤ 3 ∧ (3 : Int) ≤ 6, (!(hasR (nrm 12 x) 3)) = true]) := by kernel_rfl
theorem tk13c (x : Nat → Bool) : runF g1 400 [.br false, .br false] 9 [.agg (SX 12 x), .lit .i64 1, .lit .i64 3] [] [] =
    some (.tuple [.agg ((SX 12 x).set 7 (.bool true)), .lit .i64 0], [], [x 7 = false, (3 : Int) ≤ 3 ∧ (3 : Int) ≤ 6, (!(hasR (nrm 12 x) 3)) = false]) := by kernel_rfl
theorem tk14a (x : Nat → Bool) : runF g1 400 [.br true] 9 [.agg (SX 12 x), .lit .i64 1, .lit .i64 4] [] [] =
    some (.tuple [.agg (SX 12 x), .lit .i64 10], [], [x 8 = true]) := by kernel_rfl
theorem tk14b (x : Nat → Bool) : runF g1 400 [.br false, .br true] 9 [.agg (SX 12 x), .lit .i64 1, .lit .i64 4] [] [] =
    some (.tuple [.agg (SX 12 x), .lit .i64 11], [], [x 8 = false, (3 : Int) ≤ 4 ∧ (4 : Int) ≤ 6, (!(hasR (nrm 12 x) 4)) = true]) := by kernel_rfl
theorem tk14c (x : Nat → Bool) : runF g1 400 [.br false, .br false] 9 [.agg (SX 12 x), .lit .i64 1, .lit .i64 4] [] [] =
    some (.tuple [.agg ((SX 12 x).set 8 (.bool true)), .lit .i64 0], [], [x 8 = false, (3 : Int) ≤ 4 ∧ (4 : Int) ≤ 6, (!(hasR (nrm 12 x) 4)) = false]) := by kernel_rfl
theorem tk15a (x : Nat → Bool) : runF g1 400 [.br true] 9 [.agg (SX 12 x), .lit .i64 1, .lit .i64 5] [] [] =
    some (.tuple [.agg (SX 12 x), .lit .i64 10], [], [x 9 = true]) := by kernel_rfl
theorem tk15b (x : Nat → Bool) : runF g1 400 [.br false, .br true] 9 [.agg (SX 12 x), .lit .i64 1, .lit .i64 5] [] [] =
    some (.tuple [.agg (SX 12 x), .lit .i64 11], [], [x 9 = false, (3 : Int) ≤ 5 ∧ (5 : Int) ≤ 6, (!(hasR (nrm 12 x) 5)) = true]) := by kernel_rfl
theorem tk15c (x : Nat → Bool) : runF g1 400 [.br false, .br false] 9 [.agg (SX 12 x), .lit .i64 1, .lit .i64 5] [] [] =
    some (.tuple [.agg ((SX 12 x).set 9 (.bool true)), .lit .i64 0], [], [x 9 = false, (3 : Int) ≤ 5 ∧ (5 : Int) ≤ 6, (!(hasR (nrm 12 x) 5)) = false]) := by kernel_rfl
theorem tk16a (x : Nat → Bool) : runF g1 400 [.br true] 9 [.agg (SX 12 x), .lit .i64 1, .lit .i64 6] [] [] =
    some (.tuple [.agg (SX 12 x), .lit .i64 10], [], [x 10 = true]) := by kernel_rfl
theorem tk16b (x : Nat → Bool) : runF g1 400 [.br false, .br true] 9 [.agg (SX 12 x), .lit .i64 1, .lit .i64 6] [] [] =
    some (.tuple [.agg (SX 12 x), .lit .i64 11], [], [x 10 = false, (3 : Int) ≤ 6 ∧ (6 : Int) ≤ 6, (!(hasR (nrm 12 x) 6)) = true]) := by kernel_rfl
theorem tk16c (x : Nat → Bool) : runF g1 400 [.br false, .br false] 9 [.agg (SX 12 x), .lit .i64 1, .lit .i64 6] [] [] =
    some (.tuple [.agg ((SX 12 x).set 10 (.bool true)), .lit .i64 0], [], [x 10 = false, (3 : Int) ≤ 6 ∧ (6 : Int) ≤ 6, (!(hasR (nrm 12 x) 6)) = false]) := by kernel_rfl
theorem tk17a (x : Nat → Bool) : runF g1 400 [] 9 [.agg (SX 12 x), .lit .i64 1, .lit .i64 7] [] [] =
    some (.tuple [.agg ((SX 12 x).set 11 (.bool true)), .lit .i64 0], [], []) := by kernel_rfl
theorem nrm12 (x : Nat → Bool) {j : Nat} (h : j < 12) : nrm 12 x j = x j := nrm_eq h
theorem safe_nrm (x : Nat → Bool) {s : Int} (h : s = 0 ∨ s = 1) : safeR (nrm 12 x) s = safeR x s := by
  rcases h with rfl | rfl <;> simp [safeR, nrm12]
theorem has_nrm (x : Nat → Bool) (t : Int) : hasR (nrm 12 x) t = hasR x t := by
  simp [hasR, nrm12]
theorem i_lit (k : IntKind) (n : Int) : DenImp (.lit k n) (.int k n) := norm_imp _
theorem bools12 {w0 : World} {O : Go.Vx.Own} {ρ : Rho} {cs : List SV} {y : Nat → Bool} (h : boolsAs cs = some (LB 12 y 0)) {v : Value} (hd : DenV w0 O ρ (.agg cs) v) : DenV w0 O ρ (.agg (SX 12 y)) v := by
  obtain ⟨arr, rfl, hh⟩ := denV_agg hd
  exact den_agg (boolsL h hh)
theorem tk_fail {x : Nat → Bool} {s t n : Int} (he : tokE x s t = n) (hn : n ≠ 0) : DenImp (.tuple [.agg (SX 12 x), .lit .i64 n]) (.tuple [.agg (SX 12 (tokX x s t)), .int .i64 (tokE x s t)]) := by
  have e : tokX x s t = x := by unfold tokX; rw [if_neg (by rw [he]; exact hn)]
  rw [e, he]
  exact tuple_imp ⟨DenImp.refl _, i_lit _ _, trivial⟩
theorem tk_good {x : Nat → Bool} {s t : Int} {i : Nat} {cs : List SV} (he : tokE x s t = 0) (hi : tokI s t = i) (hb : boolsAs cs = some (LB 12 (setB x i) 0)) : DenImp (.tuple [.agg cs, .lit .i64 0]) (.tuple [.agg (SX 12 (tokX x s t)), .int .i64 (tokE x s t)]) := by
  have e : tokX x s t = setB x i := by unfold tokX; rw [if_pos he, hi]
  rw [e, he]
  exact tuple_imp ⟨fun _ _ _ _ hd => bools12 hb hd, i_lit _ _, trivial⟩
theorem setb0 (x : Nat → Bool) : boolsAs ((SX 12 x).set 0 (.bool true)) = some (LB 12 (setB x 0) 0) := by kernel_rfl
theorem setb1 (x : Nat → Bool) : boolsAs ((SX 12 x).set 1 (.bool true)) = some (LB 12 (setB x 1) 0) := by kernel_rfl
theorem setb2 (x : Nat → Bool) : boolsAs ((SX 12 x).set 2 (.bool true)) = some (LB 12 (setB x 2) 0) := by kernel_rfl
theorem setb3 (x : Nat → Bool) : boolsAs ((SX 12 x).set 3 (.bool true)) = some (LB 12 (setB x 3) 0) := by kernel_rfl
theorem setb4 (x : Nat → Bool) : boolsAs ((SX 12 x).set 4 (.bool true)) = some (LB 12 (setB x 4) 0) := by kernel_rfl
theorem setb5 (x : Nat → Bool) : boolsAs ((SX 12 x).set 5 (.bool true)) = some (LB 12 (setB x 5) 0) := by kernel_rfl
theorem setb6 (x : Nat → Bool) : boolsAs ((SX 12 x).set 6 (.bool true)) = some (LB 12 (setB x 6) 0) := by kernel_rfl
theorem setb7 (x : Nat → Bool) : boolsAs ((SX 12 x).set 7 (.bool true)) = some (LB 12 (setB x 7) 0) := by kernel_rfl
theorem setb8 (x : Nat → Bool) : boolsAs ((SX 12 x).set 8 (.bool true)) = some (LB 12 (setB x 8) 0) := by kernel_rfl
theorem setb9 (x : Nat → Bool) : boolsAs ((SX 12 x).set 9 (.bool true)) = some (LB 12 (setB x 9) 0) := by kernel_rfl
theorem setb10 (x : Nat → Bool) : boolsAs ((SX 12 x).set 10 (.bool true)) = some (LB 12 (setB x 10) 0) := by kernel_rfl
theorem setb11 (x : Nat → Bool) : boolsAs ((SX 12 x).set 11 (.bool true)) = some (LB 12 (setB x 11) 0) := by kernel_rfl
def F9 : SumF := fun args B => match args, B with
  | [.agg cs, .int .i64 s, .int .i64 t], [] => match sxOf 12 cs with
    | some x => some { val := .tuple [.agg (SX 12 (tokX x s t)), .int .i64 (tokE x s t)], C := [(s = 0 ∨ s = 1) ∧ 1 ≤ t ∧ t ≤ 7] }
    | none => none
  | _, _ => none
theorem ok01 (x : Nat → Bool) : FnOk g1 9 [.agg (SX 12 x), .lit .i64 0, .lit .i64 1] [] { val := .tuple [.agg (SX 12 (tokX x 0 1)), .int .i64 (tokE x 0 1)] } := by
  by_cases h : x 0 = true
  · exact FnOk.val (C := []) (rd := []) (FnOk.pure g1_ok (tk01a x) (by simp only [allC_cons, allC_nil, and_true]; exact h)) (tk_fail (by simp [tokE, tokI, h]) (by decide))
  · have h : x 0 = false := by simpa using h
    exact FnOk.val (C := []) (rd := []) (FnOk.pure g1_ok (tk01b x) (by simp only [allC_cons, allC_nil, and_true]; exact h)) (tk_good (i := 0) (by simp [tokE, tokI, h]) rfl (setb0 x))
theorem ok02 (x : Nat → Bool) : FnOk g1 9 [.agg (SX 12 x), .lit .i64 0, .lit .i64 2] [] { val := .tuple [.agg (SX 12 (tokX x 0 2)), .int .i64 (tokE x 0 2)] } := by
  by_cases h : x 2 = true
  · exact FnOk.val (C := []) (rd := []) (FnOk.pure g1_ok (tk02a x) (by simp only [allC_cons, allC_nil, and_true]; exact h)) (tk_fail (by simp [tokE, tokI, h]) (by decide))
  · have h : x 2 = false := by simpa using h
    by_cases h2 : safeR x 0 = true
    · exact FnOk.val (C := []) (rd := []) (FnOk.pure g1_ok (tk02c x) (by simp only [allC_cons, allC_nil, and_true]; exact ⟨h, by decide, by rw [safe_nrm x (by decide), h2]; rfl⟩)) (tk_good (i := 2) (by simp [tokE, tokI, h, h2]) rfl (setb2 x))
    · have h2 : safeR x 0 = false := by simpa using h2
      exact FnOk.val (C := []) (rd := []) (FnOk.pure g1_ok (tk02b x) (by simp only [allC_cons, allC_nil, and_true]; exact ⟨h, by decide, by rw [safe_nrm x (by decide), h2]; rfl⟩)) (tk_fail (by simp [tokE, tokI, h, h2]) (by decide))
theorem ok03 (x : Nat → Bool) : FnOk g1 9 [.agg (SX 12 x), .lit .i64 0, .lit .i64 3] [] { val := .tuple [.agg (SX 12 (tokX x 0 3)), .int .i64 (tokE x 0 3)] } := by
  by_cases h : x 7 = true
  · exact FnOk.val (C := []) (rd := []) (FnOk.pure g1_ok (tk03a x) (by simp only [allC_cons, allC_nil, and_true]; exact h)) (tk_fail (by simp [tokE, tokI, h]) (by decide))
  · have h : x 7 = false := by simpa using h
    by_cases h2 : hasR x 3 = true
    · exact FnOk.val (C := []) (rd := []) (FnOk.pure g1_ok (tk03c x) (by simp only [allC_cons, allC_nil, and_true]; exact ⟨h, by decide, by rw [has_nrm x 3, h2]; rfl⟩)) (tk_good (i := 7) (by simp [tokE, tokI, h, h2]) rfl (setb7 x))
    · have h2 : hasR x 3 = false := by simpa using h2
      exact FnOk.val (C := []) (rd := []) (FnOk.pure g1_ok (tk03b x) (by simp only [allC_cons, allC_nil, and_true]; exact ⟨h, by decide, by rw [has_nrm x 3, h2]; rfl⟩)) (tk_fail (by simp [tokE, tokI, h, h2]) (by decide))
theorem ok04 (x : Nat → Bool) : FnOk g1 9 [.agg (SX 12 x), .lit .i64 0, .lit .i64 4] [] { val := .tuple [.agg (SX 12 (tokX x 0 4)), .int .i64 (tokE x 0 4)] } := by
  by_cases h : x 8 = true
  · exact FnOk.val (C := []) (rd := []) (FnOk.pure g1_ok (tk04a x) (by simp only [allC_cons, allC_nil, and_true]; exact h)) (tk_fail (by simp [tokE, tokI, h]) (by decide))
  · have h : x 8 = false := by simpa using h
    by_cases h2 : hasR x 4 = true
    · exact FnOk.val (C := []) (rd := []) (FnOk.pure g1_ok (tk04c x) (by simp only [allC_cons, allC_nil, and_true]; exact ⟨h, by decide, by rw [has_nrm x 4, h2]; rfl⟩)) (tk_good (i := 8) (by simp [tokE, tokI, h, h2]) rfl (setb8 x))
    · have h2 : hasR x 4 = false := by simpa using h2
      exact FnOk.val (C := []) (rd := []) (FnOk.pure g1_ok (tk04b x) (by simp only [allC_cons, allC_nil, and_true]; exact ⟨h, by decide, by rw [has_nrm x 4, h2]; rfl⟩)) (tk_fail (by simp [tokE, tokI, h, h2]) (by decide))
theorem ok05 (x : Nat → Bool) : FnOk g1 9 [.agg (SX 12 x), .lit .i64 0, .lit .i64 5] [] { val := .tuple [.agg (SX 12 (tokX x 0 5)), .int .i64 (tokE x 0 5)] } := by
  by_cases h : x 9 = true
  · exact FnOk.val (C := []) (rd := []) (FnOk.pure g1_ok (tk05a x) (by simp only [allC_cons, allC_nil, and_true]; exact h)) (tk_fail (by simp [tokE, tokI, h]) (by decide))
  · have h : x 9 = false := by simpa using h
    by_cases h2 : hasR x 5 = true
    · exact FnOk.val (C := []) (rd := []) (FnOk.pure g1_ok (tk05c x) (by simp only [allC_cons, allC_nil, and_true]; exact ⟨h, by decide, by rw [has_nrm x 5, h2]; rfl⟩)) (tk_good (i := 9) (by simp [tokE, tokI, h, h2]) rfl (setb9 x))
    · have h2 : hasR x 5 = false := by simpa using h2
      exact FnOk.val (C := []) (rd := []) (FnOk.pure g1_ok (tk05b x) (by simp only [allC_cons, allC_nil, and_true]; exact ⟨h, by decide, by rw [has_nrm x 5, h2]; rfl⟩)) (tk_fail (by simp [tokE, tokI, h, h2]) (by decide))
theorem ok06 (x : Nat → Bool) : FnOk g1 9 [.agg (SX 12 x), .lit .i64 0, .lit .i64 6] [] { val := .tuple [.agg (SX 12 (tokX x 0 6)), .int .i64 (tokE x 0 6)] } := by
  by_cases h : x 10 = true
  · exact FnOk.val (C := []) (rd := []) (FnOk.pure g1_ok (tk06a x) (by simp only [allC_cons, allC_nil, and_true]; exact h)) (tk_fail (by simp [tokE, tokI, h]) (by decide))
  · have h : x 10 = false := by simpa using h
    by_cases h2 : hasR x 6 = true
    · exact FnOk.val (C := []) (rd := []) (FnOk.pure g1_ok (tk06c x) (by simp only [allC_cons, allC_nil, and_true]; exact ⟨h, by decide, by rw [has_nrm x 6, h2]; rfl⟩)) (tk_good (i := 10) (by simp [tokE, tokI, h, h2]) rfl (setb10 x))
    · have h2 : hasR x 6 = false := by simpa using h2
      exact FnOk.val (C := []) (rd := []) (FnOk.pure g1_ok (tk06b x) (by simp only [allC_cons, allC_nil, and_true]; exact ⟨h, by decide, by rw [has_nrm x 6, h2]; rfl⟩)) (tk_fail (by simp [tokE, tokI, h, h2]) (by decide))
theorem ok07 (x : Nat → Bool) : FnOk g1 9 [.agg (SX 12 x), .lit .i64 0, .lit .i64 7] [] { val := .tuple [.agg (SX 12 (tokX x 0 7)), .int .i64 (tokE x 0 7)] } := by
  exact FnOk.val (C := []) (rd := []) (FnOk.pure g1_ok (tk07a x) (by exact allC_nil.2 trivial)) (tk_good (i := 11) (by rfl) rfl (setb11 x))
theorem ok11 (x : Nat → Bool) : FnOk g1 9 [.agg (SX 12 x), .lit .i64 1, .lit .i64 1] [] { val := .tuple [.agg (SX 12 (tokX x 1 1)), .int .i64 (tokE x 1 1)] } := by
  by_cases h : x 1 = true
  · exact FnOk.val (C := []) (rd := []) (FnOk.pure g1_ok (tk11a x) (by simp only [allC_cons, allC_nil, and_true]; exact h)) (tk_fail (by simp [tokE, tokI, h]) (by decide))
  · have h : x 1 = false := by simpa using h
    exact FnOk.val (C := []) (rd := []) (FnOk.pure g1_ok (tk11b x) (by simp only [allC_cons, allC_nil, and_true]; exact h)) (tk_good (i := 1) (by simp [tokE, tokI, h]) rfl (setb1 x))
theorem ok12 (x : Nat → Bool) : FnOk g1 9 [.agg (SX 12 x), .lit .i64 1, .lit .i64 2] [] { val := .tuple [.agg (SX 12 (tokX x 1 2)), .int .i64 (tokE x 1 2)] } := by
  by_cases h : x 3 = true
  · exact FnOk.val (C := []) (rd := []) (FnOk.pure g1_ok (tk12a x) (by simp only [allC_cons, allC_nil, and_true]; exact h)) (tk_fail (by simp [tokE, tokI, h]) (by decide))
  · have h : x 3 = false := by simpa using h
    by_cases h2 : safeR x 1 = true
    · exact FnOk.val (C := []) (rd := []) (FnOk.pure g1_ok (tk12c x) (by simp only [allC_cons, allC_nil, and_true]; exact ⟨h, by decide, by rw [safe_nrm x (by decide), h2]; rfl⟩)) (tk_good (i := 3) (by simp [tokE, tokI, h, h2]) rfl (setb3 x))
    · have h2 : safeR x 1 = false := by simpa using h2
      exact FnOk.val (C := []) (rd := []) (FnOk.pure g1_ok (tk12b x) (by simp only [allC_cons, allC_nil, and_true]; exact ⟨h, by decide, by rw [safe_nrm x (by decide), h2]; rfl⟩)) (tk_fail (by simp [tokE, tokI, h, h2]) (by decide))
theorem ok13 (x : Nat → Bool) : FnOk g1 9 [.agg (SX 12 x), .lit .i64 1, .lit .i64 3] [] { val := .tuple [.agg (SX 12 (tokX x 1 3)), .int .i64 (tokE x 1 3)] } := by
  by_cases h : x 7 = true
  · exact FnOk.val (C := []) (rd := []) (FnOk.pure g1_ok (tk13a x) (by simp only [allC_cons, allC_nil, and_true]; exact h)) (tk_fail (by simp [tokE, tokI, h]) (by decide))
  · have h : x 7 = false := by simpa using h
    by_cases h2 : hasR x 3 = true
    · exact FnOk.val (C := []) (rd := []) (FnOk.pure g1_ok (tk13c x) (by simp only [allC_cons, allC_nil, and_true]; exact ⟨h, by decide, by rw [has_nrm x 3, h2]; rfl⟩)) (tk_good (i := 7) (by simp [tokE, tokI, h, h2]) rfl (setb7 x))
    · have h2 : hasR x 3 = false := by simpa using h2
      exact FnOk.val (C := []) (rd := []) (FnOk.pure g1_ok (tk13b x) (by simp only [allC_cons, allC_nil, and_true]; exact ⟨h, by decide, by rw [has_nrm x 3, h2]; rfl⟩)) (tk_fail (by simp [tokE, tokI, h, h2]) (by decide))
theorem ok14 (x : Nat → Bool) : FnOk g1 9 [.agg (SX 12 x), .lit .i64 1, .lit .i64 4] [] { val := .tuple [.agg (SX 12 (tokX x 1 4)), .int .i64 (tokE x 1 4)] } := by
  by_cases h : x 8 = true
  · exact FnOk.val (C := []) (rd := []) (FnOk.pure g1_ok (tk14a x) (by simp only [allC_cons, allC_nil, and_true]; exact h)) (tk_fail (by simp [tokE, tokI, h]) (by decide))
  · have h : x 8 = false := by simpa using h
    by_cases h2 : hasR x 4 = true
    · exact FnOk.val (C := []) (rd := []) (FnOk.pure g1_ok (tk14c x) (by simp only [allC_cons, allC_nil, and_true]; exact ⟨h, by decide, by rw [has_nrm x 4, h2]; rfl⟩)) (tk_good (i := 8) (by simp [tokE, tokI, h, h2]) rfl (setb8 x))
    · have h2 : hasR x 4 = false := by simpa using h2
      exact FnOk.val (C := []) (rd := []) (FnOk.pure g1_ok (tk14b x) (by simp only [allC_cons, allC_nil, and_true]; exact ⟨h, by decide, by rw [has_nrm x 4, h2]; rfl⟩)) (tk_fail (by simp [tokE, tokI, h, h2]) (by decide))
theorem ok15 (x : Nat → Bool) : FnOk g1 9 [.agg (SX 12 x), .lit .i64 1, .lit .i64 5] [] { val := .tuple [.agg (SX 12 (tokX x 1 5)), .int .i64 (tokE x 1 5)] } := by
  by_cases h : x 9 = true
  · exact FnOk.val (C := []) (rd := []) (FnOk.pure g1_ok (tk15a x) (by simp only [allC_cons, allC_nil, and_true]; exact h)) (tk_fail (by simp [tokE, tokI, h]) (by decide))
  · have h : x 9 = false := by simpa using h
    by_cases h2 : hasR x 5 = true
    · exact FnOk.val (C := []) (rd := []) (FnOk.pure g1_ok (tk15c x) (by simp only [allC_cons, allC_nil, and_true]; exact ⟨h, by decide, by rw [has_nrm x 5, h2]; rfl⟩)) (tk_good (i := 9) (by simp [tokE, tokI, h, h2]) rfl (setb9 x))
    · have h2 : hasR x 5 = false := by simpa using h2
      exact FnOk.val (C := []) (rd := []) (FnOk.pure g1_ok (tk15b x) (by simp only [allC_cons, allC_nil, and_true]; exact ⟨h, by decide, by rw [has_nrm x 5, h2]; rfl⟩)) (tk_fail (by simp [tokE, tokI, h, h2]) (by decide))
theorem ok16 (x : Nat → Bool) : FnOk g1 9 [.agg (SX 12 x), .lit .i64 1, .lit .i64 6] [] { val := .tuple [.agg (SX 12 (tokX x 1 6)), .int .i64 (tokE x 1 6)] } := by
  by_cases h : x 10 = true
  · exact FnOk.val (C := []) (rd := []) (FnOk.pure g1_ok (tk16a x) (by simp only [allC_cons, allC_nil, and_true]; exact h)) (tk_fail (by simp [tokE, tokI, h]) (by decide))
  · have h : x 10 = false := by simpa using h
    by_cases h2 : hasR x 6 = true
    · exact FnOk.val (C := []) (rd := []) (FnOk.pure g1_ok (tk16c x) (by simp only [allC_cons, allC_nil, and_true]; exact ⟨h, by decide, by rw [has_nrm x 6, h2]; rfl⟩)) (tk_good (i := 10) (by simp [tokE, tokI, h, h2]) rfl (setb10 x))
    · have h2 : hasR x 6 = false := by simpa using h2
      exact FnOk.val (C := []) (rd := []) (FnOk.pure g1_ok (tk16b x) (by simp only [allC_cons, allC_nil, and_true]; exact ⟨h, by decide, by rw [has_nrm x 6, h2]; rfl⟩)) (tk_fail (by simp [tokE, tokI, h, h2]) (by decide))
theorem ok17 (x : Nat → Bool) : FnOk g1 9 [.agg (SX 12 x), .lit .i64 1, .lit .i64 7] [] { val := .tuple [.agg (SX 12 (tokX x 1 7)), .int .i64 (tokE x 1 7)] } := by
  exact FnOk.val (C := []) (rd := []) (FnOk.pure g1_ok (tk17a x) (by exact allC_nil.2 trivial)) (tk_good (i := 11) (by rfl) rfl (setb11 x))
theorem acc9 : Acc g1 9 F9 := by
  intro args B out h hC
  unfold F9 at h
  split at h
  · rename_i cs s t
    split at h
    · rename_i x hx
      simp only [Option.some.injEq] at h; subst h
      simp only [allC_cons, allC_nil, and_true] at hC
      obtain ⟨hs, h1, h2⟩ := hC
      have ht : t = 1 ∨ t = 2 ∨ t = 3 ∨ t = 4 ∨ t = 5 ∨ t = 6 ∨ t = 7 := by omega
      refine FnOk.imp (args' := [.agg (SX 12 x), .lit .i64 s, .lit .i64 t]) ?_ ⟨sx_imp hx, lit_imp (fits_small (by omega) (by omega)), lit_imp (fits_small (by omega) (by omega)), trivial⟩
      rcases hs with rfl | rfl <;> rcases ht with rfl | rfl | rfl | rfl | rfl | rfl | rfl
      · exact FnOk.val (C := []) (rd := []) (ok01 x) fun _ _ _ _ h => h
      · exact FnOk.val (C := []) (rd := []) (ok02 x) fun _ _ _ _ h => h
      · exact FnOk.val (C := []) (rd := []) (ok03 x) fun _ _ _ _ h => h
      · exact FnOk.val (C := []) (rd := []) (ok04 x) fun _ _ _ _ h => h
      · exact FnOk.val (C := []) (rd := []) (ok05 x) fun _ _ _ _ h => h
      · exact FnOk.val (C := []) (rd := []) (ok06 x) fun _ _ _ _ h => h
      · exact FnOk.val (C := []) (rd := []) (ok07 x) fun _ _ _ _ h => h
      · exact FnOk.val (C := []) (rd := []) (ok11 x) fun _ _ _ _ h => h
      · exact FnOk.val (C := []) (rd := []) (ok12 x) fun _ _ _ _ h => h
      · exact FnOk.val (C := []) (rd := []) (ok13 x) fun _ _ _ _ h => h
      · exact FnOk.val (C := []) (rd := []) (ok14 x) fun _ _ _ _ h => h
      · exact FnOk.val (C := []) (rd := []) (ok15 x) fun _ _ _ _ h => h
      · exact FnOk.val (C := []) (rd := []) (ok16 x) fun _ _ _ _ h => h
      · exact FnOk.val (C := []) (rd := []) (ok17 x) fun _ _ _ _ h => h
    · simp at h
  · simp at h
end Go.Proofs.Tryd
