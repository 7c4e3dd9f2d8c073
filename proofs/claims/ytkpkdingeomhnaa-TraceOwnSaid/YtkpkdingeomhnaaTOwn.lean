/- The law TraceOwn: whatever the arguments are, it returns true and the arguments read behind the call as they did. No conditions. -/
import Derived.Test.YtkpkdingeomhnaaTOj
import Derived.Test.YtkpkdingeomhnaaRows
import Derived.ProofKit
namespace Go.Proofs.Ytkpkdingeomhnaa.ownlaw
open Go.Vx Go.ChangeShapes Go.WideShapes Go.ChangeAt Go.RowKit
theorem own : ownKnob Try.prog.godebug = none := by kernel_rfl
theorem laid : laidOutB Try.prog = true := by kernel_rfl
set_option maxRecDepth 100000 in
theorem walk (H : Type) (enc : TypeId × Value → H) (W : World) (base : Nat) (args : Array Value) (ds gs : List (DataW H)) (before : List MemPlace)
    (hval : ∀ (j : Nat) t v, Try.f8.params[j]? = some t → args[j]? = some v → Value.okWide Try.prog W .any base t v)
    (hW : DataW.Whole enc Try.prog Try.f8.params.toList Rows.traceOwnSpec.vars false W args.toList ds gs before)
    (hsz : (DataW.weightsEach Try.prog (Try.f8.params.toList ++ Rows.traceOwnSpec.plain.varTypes Try.prog) (ds ++ gs)).all (· ≤ reachBytes) = true) :
    Calls Try.prog 8 args W fun e W' => e = .returned (.bool true) ∧ Below W.heap.size W W' := by
  obtain ⟨p, q, hA0, hV, rfl, hfz, hnd⟩ := hW
  have hA : DataW.TrodAll enc Try.prog W 0 (fun _ => true) true Try.f8.params.toList args.toList ds p := hA0
  rw [Try.params8] at hA hval
  obtain ⟨v0, vs0, d0, ds0, p0, q0, e0, rfl, rfl, h0, r0⟩ := trodAll_cons hA
  obtain ⟨rfl, rfl, rfl⟩ := trodAll_nil r0
  obtain rfl : args = #[v0] := by cases args; simp_all
  obtain ⟨n0, a0, z0, k0⟩ := open_rows (W := W) (ks := [.i .i64, .i .i64, .b]) Try.underlying22 (by kernel_rfl) (by decide) (hval 0 _ v0 rfl rfl) h0 (fun _ => none)
  exact top_law (ownLaw_ok n0 a0 (fits_max z0)) (by first | exact .inl rfl | exact .inr rfl) W (fun n v h => by first | (simp [gw] at h; done) | (have h : (none : Option SV) = some v := h; simp at h)) Try.func8 rfl rfl (by
    simp only [DenT]
    exact ⟨_, _, rfl, k0, rfl⟩)

set_option maxRecDepth 100000 in
theorem lifted (os : Os) (started : os.Started) (H : Type) (enc : TypeId × Value → H) :
    ReturnsInHanded {} Try.checked os 8 .any (Rows.traceOwnSpec.pre6 enc Try.prog Try.f8 Rows.traceOwnRow.domain false) (Rows.traceOwnSpec.post enc Try.prog Try.f8 false true false false) := by
  refine returnsInHanded_of_change_sized (C := Try.checked) own started (by kernel_rfl) Try.func8
    (ChangeSpec.witness6 (enc := enc) (C := Try.checked) false ⟨#[], #[.slice none 0 0], []⟩ 8 (by kernel_rfl) (by kernel_rfl) (by kernel_rfl) (by kernel_rfl)) ?_
  intro W base args ds gs before hval hW _ hsz _
  refine (walk H enc W base args ds gs before hval hW hsz).mono fun e W' ⟨he, hb⟩ => ⟨_, he, ?_⟩
  refine law_post laid hW rfl (by kernel_rfl) Try.underlying4 ?_ ?_ hb
  · intro t ht
    have := List.all_eq_true.1 (show Try.f8.params.toList.all (fun t => Try.prog.readableRec t && decide (t < Try.prog.types.size)) = true by kernel_rfl) t ht
    simpa using this
  · intro hl
    match ds, hl with
    | [_], _ => rfl

theorem holds : Rows.TraceOwnSaid :=
  OpenClaim.holds_of_wide 8 Try.f8 rfl rfl rfl rfl rfl rfl rfl ⟨rfl, rfl, rfl, rfl, rfl⟩ rfl rfl rfl rfl rfl (by kernel_rfl) Try.func8 (by kernel_rfl)
    (of_decide_eq_true (by kernel_rfl)) (by unfold Func.isWrapper; first | (rw [if_pos (by decide +kernel)]; kernel_rfl) | (rw [if_neg (by decide +kernel)]; exact ⟨rfl, rfl⟩))
    (fun os started H enc _ => lifted os started H enc)
end Go.Proofs.Ytkpkdingeomhnaa.ownlaw
