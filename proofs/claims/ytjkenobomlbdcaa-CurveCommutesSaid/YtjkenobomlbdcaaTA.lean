/- Accounts of this seat's functions: lemmas, no statement of their own. No conditions. -/
import Derived.Test.YtjkenobomlbdcaaV4
import Derived.Test.YtjkenobomlbdcaaProg
namespace Go.Proofs.Ytjkenobomlbdcaa
open Go Go.Vx

noncomputable def g0 : Ctx := { P := Try.prog, sum := fun _ => none, glob := fun _ => none }
theorem mixed : Try.prog.follows .mixedOrders = true := by kernel_rfl
theorem names : Try.prog.funcs.all (fun fn => !(fn.name == "runtime.NumGoroutine") || fn.body.isNone) = true := by kernel_rfl
theorem noGo (f : FuncId) (fn : Func) (c : Code) (h : Try.prog.funcs[f]? = some fn) (hb : fn.body = some c) : (fn.name == "runtime.NumGoroutine") = false := by
  have := Array.all_eq_true'.1 names fn (Array.mem_of_getElem? h)
  rw [hb] at this
  simpa using this
theorem g0_ok : CtxU g0 := CtxU.mk (fun f σ h => by simp [g0] at h) mixed noGo
theorem get_ok {f : FuncId} (h : (Try.prog.funcs[f]?).isSome = true) : Try.prog.funcs[f]? = some ((Try.prog.funcs[f]?).getD default) := by
  obtain ⟨x, hx⟩ := Option.isSome_iff_exists.1 h
  rw [hx]; rfl
theorem acc59 : Acc g0 59 loadF := fun args B out h hC =>
  load_ok (g := g0) (get_ok (f := 59) (by kernel_rfl)) (by kernel_rfl) (by kernel_rfl) (by kernel_rfl) (by kernel_rfl) args B out h hC
theorem acc64 : Acc g0 64 addF := fun args B out h hC =>
  add_ok (g := g0) (get_ok (f := 64) (by kernel_rfl)) (by kernel_rfl) (by kernel_rfl) (by kernel_rfl) (by kernel_rfl) args B out h hC
noncomputable abbrev gx : Ctx := g0.add [(59, loadF), (64, addF)]
theorem gx_ok : CtxU gx := g0_ok.add mixed noGo (by
  intro x hx
  simp only [List.mem_cons, List.not_mem_nil, or_false] at hx
  rcases hx with rfl | rfl
  · exact acc59
  · exact acc64)
theorem acc33 : Acc gx 33 logF := logF_ok gx_ok (fun k v n l => by kernel_rfl) (fun k v => by kernel_rfl)
theorem acc49 : Acc gx 49 opF := opF_ok gx_ok (fun k n l => by kernel_rfl) (fun k => by kernel_rfl)
theorem acc16 : Acc gx 16 newF := newF_ok gx_ok (by kernel_rfl)
theorem acc24 : Acc gx 24 totalF := totalF_ok gx_ok (fun n l => by kernel_rfl) (by kernel_rfl)
theorem acc21 : Acc gx 21 atF := atF_ok gx_ok (fun k n l => by kernel_rfl) (fun k => by kernel_rfl)
end Go.Proofs.Ytjkenobomlbdcaa
