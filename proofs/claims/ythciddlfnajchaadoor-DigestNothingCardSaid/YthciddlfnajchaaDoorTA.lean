/- Accounts of this seat's functions: lemmas, no statement of their own. No conditions. -/
import Derived.Test.YthciddlfnajchaaDoorV5
import Derived.Test.YthciddlfnajchaaDoorProg
namespace Go.Proofs.Tryd
open Go Go.Vx

noncomputable def g0 : Ctx := { P := Tryd.prog, sum := fun _ => none, glob := fun _ => none }
theorem mixed : Tryd.prog.follows .mixedOrders = true := by kernel_rfl
theorem names : Tryd.prog.funcs.all (fun fn => !(fn.name == "runtime.NumGoroutine") || fn.body.isNone) = true := by kernel_rfl
theorem noGo (f : FuncId) (fn : Func) (c : Code) (h : Tryd.prog.funcs[f]? = some fn) (hb : fn.body = some c) : (fn.name == "runtime.NumGoroutine") = false := by
  have := Array.all_eq_true'.1 names fn (Array.mem_of_getElem? h)
  rw [hb] at this
  simpa using this
theorem g0_ok : CtxU g0 := CtxU.mk (fun f σ h => by simp [g0] at h) mixed noGo
theorem get_ok {f : FuncId} (h : (Tryd.prog.funcs[f]?).isSome = true) : Tryd.prog.funcs[f]? = some ((Tryd.prog.funcs[f]?).getD default) := by
  obtain ⟨x, hx⟩ := Option.isSome_iff_exists.1 h
  rw [hx]; rfl
theorem acc53 : Acc g0 53 loadF := fun args B out h hC =>
  load_ok (g := g0) (get_ok (f := 53) (by kernel_rfl)) (by kernel_rfl) (by kernel_rfl) (by kernel_rfl) (by kernel_rfl) args B out h hC
theorem acc55 : Acc g0 55 addF := fun args B out h hC =>
  add_ok (g := g0) (get_ok (f := 55) (by kernel_rfl)) (by kernel_rfl) (by kernel_rfl) (by kernel_rfl) (by kernel_rfl) args B out h hC
noncomputable abbrev gx : Ctx := g0.add [(53, loadF), (55, addF)]
theorem gx_ok : CtxU gx := g0_ok.add mixed noGo (by
  intro x hx
  simp only [List.mem_cons, List.not_mem_nil, or_false] at hx
  rcases hx with rfl | rfl
  · exact acc53
  · exact acc55)
theorem acc43 : Acc gx 43 logF := logF_ok gx_ok (fun k v n l => by kernel_rfl) (fun k v => by kernel_rfl)
theorem acc48 : Acc gx 48 opF := opF_ok gx_ok (fun k n l => by kernel_rfl) (fun k => by kernel_rfl)
theorem acc18 : Acc gx 18 newF := newF_ok gx_ok (by kernel_rfl)
theorem acc36 : Acc gx 36 totalF := totalF_ok gx_ok (fun n l => by kernel_rfl) (by kernel_rfl)
theorem acc32 : Acc gx 32 ifF := ifF_ok gx_ok (fun b n l => by cases b <;> kernel_rfl) (fun b => by cases b <;> kernel_rfl)
theorem acc38 : Acc gx 38 atF := atF_ok gx_ok (fun k n l => by kernel_rfl) (fun k => by kernel_rfl)
end Go.Proofs.Tryd
