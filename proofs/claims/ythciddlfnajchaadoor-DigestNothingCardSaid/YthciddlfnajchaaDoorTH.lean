/- Accounts of this seat's functions: lemmas, no statement of their own. No conditions. -/
import Derived.Test.YthciddlfnajchaaDoorTG
import Derived.Stop.LaidErr
import Derived.LaidLaws
namespace Go.Proofs.Tryd
open Go Go.Vx
/-! ### known -/
noncomputable abbrev gk0 : Ctx := g3.add [(15, F15)]
theorem gk0_ok : CtxU gk0 := g3_ok.add mixed noGo (by
  intro x hx
  simp only [List.mem_cons, List.not_mem_nil, or_false] at hx
  rcases hx with rfl
  exact Acc.of (g := g4) rfl rfl acc15)
noncomputable abbrev gK (p : Addr) : Ctx := gk0.gl (eV p)
theorem gK_ok (p : Addr) : CtxU (gK p) := gl_ok gk0_ok fun _ => rfl
noncomputable abbrev knP : List Plan := [.br false, .br false, .br false, .br false, .br true, .fix 0, .br true, .br false, .fix 0, .fix 2, .br false, .br true, .fix 1, .br true, .br false, .fix 2, .fix 2, .br false, .br false, .br false, .br false, .br false, .br false, .br true, .br false, .fix 0, .fix 4, .br false, .br true, .br true, .br true, .br true, .br true, .br true, .br true]
abbrev knC (p : Addr) : List Prop := [(0 : Nat) < 1099511627776, false = false, (1 : Nat) < 1099511627776, false = false, (2 : Nat) < 1099511627776, false = false, (3 : Nat) < 1099511627776, false = false, (4 : Nat) < 1099511627776, true = true, (6 : Nat) < 1099511627776, true = true, (7 : Nat) < 1099511627776, false = false, (8 : Nat) < 1099511627776, (0 : Int) = 0, (9 : Nat) < 1099511627776, (2 : Int) = 2, (10 : Nat) < 1099511627776, false = false, (5 : Nat) < 1099511627776, (0 : Int) = 0, (11 : Nat) < 1099511627776, true = true, (13 : Nat) < 1099511627776, true = true, (14 : Nat) < 1099511627776, false = false, (15 : Nat) < 1099511627776, (2 : Int) = 2, (16 : Nat) < 1099511627776, (2 : Int) = 2, (17 : Nat) < 1099511627776, false = false, (12 : Nat) < 1099511627776, (1 : Int) = 1, (18 : Nat) < 1099511627776, false = false, Fits .i64 ((32 : Nat) : Int), (0 : Nat) + 32 ≤ 32, (0 : Nat) + 0 + 32 ≤ 32, (0 : Int) ≤ 4 ∧ (4 : Int) ≤ 64, (0 : Int) ≤ 32 ∧ (32 : Int) ≤ 32, (19 : Nat) < 1099511627770, false = false, false = false, false = false, false = false, true = true, false = false, (0 : Int) = 0, (4 : Int) = 4, false = false, (0 : Int) ≤ 4 ∧ (4 : Int) ≤ 64, (0 : Int) ≤ 16 ∧ (16 : Int) ≤ 32, true = true, p = p, true = true, (15 : Nat) < 16, (0 : Int) ≤ 15 ∧ (15 : Int) < ((16 : Nat) : Int), true = true, (0 : Nat) < 16, (0 : Int) ≤ 0 ∧ (0 : Int) < ((16 : Nat) : Int), true = true, Fits .i64 ((16 : Nat) : Int), true = true, true = true]
set_option maxRecDepth 100000 in
theorem kn_run (p : Addr) : runF (gK p) 6000 knP 13 [] [] [] = some (.sbool true, [], knC p) := run_parts (by kernel_rfl) (by kernel_rfl) (by kernel_rfl)
theorem knC_ok (p : Addr) : AllC (knC p) := by
  have f : ∀ n : Nat, n < 100 → Fits .i64 (n : Int) := fun n h => fits_of (by omega) (by omega)
  have f32 := f 32 (by omega)
  have f16 := f 16 (by omega)
  simp only [knC, allC_cons, allC_nil, and_true]
  simp only [f32, f16, true_and]
  decide
def F13 : SumF := fun args B => match args, B with
  | [], [] => some { val := .sbool true }
  | _, _ => none
theorem acc13 (p : Addr) : Acc (gK p) 13 F13 := by
  intro args B out h hC
  unfold F13 at h
  split at h
  · simp only [Option.some.injEq] at h; subst h
    exact FnOk.pure (gK_ok p) (kn_run p) (knC_ok p)
  · simp at h
/-! ### the variable as it is laid -/
theorem star : "*" ++ "errors.errorString" = "*errors.errorString" := by decide
theorem row120 (u : TypeId) (h : Tryd.prog.typeName? 3 u = some "*errors.errorString") : u = 120 :=
  typeName_ptr_named (nm := "errors.errorString") (by rw [star]; kernel_rfl) (by kernel_rfl) (by decide) u (by rw [star]; exact h)
theorem laid_err {W : World} (hL : laidMet Tryd.prog [("pintle/api.ErrArg", .iface "*errors.errorString" (.ptr (.agg [.lit (.string [112, 105, 110, 116, 108, 101, 58, 32, 97, 114, 103, 117, 109, 101, 110, 116])])))] W) :
    ∃ p, W.cell? ⟨0, 0, none⟩ = some (.iface 120 (.pointer (some p))) := by
  have hg : Tryd.prog.globalNamed "pintle/api.ErrArg" = some 0 := by kernel_rfl
  obtain ⟨a, s, hv, _⟩ := laid_sentinel hL hg (by kernel_rfl) Tryd.underlying26 row120 Tryd.underlying120 Tryd.underlying136 rfl rfl Tryd.underlying9 (by kernel_rfl) (by kernel_rfl)
  exact ⟨a, by simpa using World.var?_cell hg hv 0⟩
/-! ### all accounts -/
noncomputable abbrev g5 : Ctx := g4.add [(14, F14), (15, F15)]
theorem g5_ok : CtxU g5 := g4_ok.add mixed noGo (by
  intro x hx
  simp only [List.mem_cons, List.not_mem_nil, or_false] at hx
  rcases hx with rfl | rfl
  · exact acc14
  · exact acc15)
noncomputable abbrev gn (p : Addr) : Ctx := (g5.gl (eV p)).add [(13, F13)]
theorem gn_ok (p : Addr) : CtxU (gn p) := (gl_ok g5_ok fun _ => rfl).add mixed noGo (by
  intro x hx
  simp only [List.mem_cons, List.not_mem_nil, or_false] at hx
  rcases hx with rfl
  exact Acc.of (g := gK p) rfl rfl (acc13 p))
theorem glob_ok (p : Addr) (W : World) (h : W.cell? ⟨0, 0, none⟩ = some (.iface 120 (.pointer (some p)))) : GlobOk (gn p) W (O0 W) := by
  intro n v hv
  have hv : (bif Nat.beq n 0 then some (eV p) else none) = some v := hv
  cases hn : Nat.beq n 0 with
  | false =>
    rw [hn] at hv
    have hv : (none : Option SV) = some v := hv
    injection hv
  | true =>
    rw [hn] at hv
    obtain rfl := Nat.eq_of_beq_eq_true hn
    have hv : some (eV p) = some v := hv
    injection hv with hv; subst hv
    refine ⟨[.iface 120 (.pointer (some p))], fun j v hj => ?_, by simp only [DenC]; simp [isAggV]⟩
    match j, hj with
    | 0, hj =>
      have hj : some (Value.iface 120 (.pointer (some p))) = some v := hj
      injection hj with hj; subst hj; exact h
    | j + 1, hj =>
      have hj : (none : Option Value) = some v := by simp at hj
      injection hj
end Go.Proofs.Tryd
