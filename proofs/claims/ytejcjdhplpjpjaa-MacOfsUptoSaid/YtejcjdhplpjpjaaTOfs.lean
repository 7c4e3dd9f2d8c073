/- The law MacOfs: whatever the arguments are, of bulk at most 1048576, it returns true and the arguments read behind the call as they did. No conditions. -/
import Derived.Test.YtejcjdhplpjpjaaTUs
import Derived.Test.YtejcjdhplpjpjaaV5
import Derived.Test.YtejcjdhplpjpjaaRows
import Derived.ProofKit
namespace Go.Proofs.Ytejcjdhplpjpjaa.ofs
open Go.Vx Go.ChangeShapes Go.WideShapes Go.ChangeAt Go.RowKit
theorem own : ownKnob Try.prog.godebug = none := by kernel_rfl
theorem laid : laidOutB Try.prog = true := by kernel_rfl
set_option maxRecDepth 100000 in
theorem walk (H : Type) (enc : TypeId × Value → H) (W : World) (base : Nat) (args : Array Value) (ds gs : List (DataW H)) (before : List MemPlace)
    (hval : ∀ (j : Nat) t v, Try.f8.params[j]? = some t → args[j]? = some v → Value.okWide Try.prog W .any base t v)
    (hW : DataW.Whole enc Try.prog Try.f8.params.toList Rows.macOfsSpec.vars false W args.toList ds gs before)
    (hsz : (DataW.weightsEach Try.prog (Try.f8.params.toList ++ Rows.macOfsSpec.plain.varTypes Try.prog) (ds ++ gs)).all (· ≤ reachBytes) = true) :
    Calls Try.prog 8 args W fun e W' => e = .returned (.bool true) ∧ Below W.heap.size W W' := by
  obtain ⟨p, q, hA0, hV, rfl, hfz, hnd⟩ := hW
  have hA : DataW.TrodAll enc Try.prog W 0 (fun _ => true) true Try.f8.params.toList args.toList ds p := hA0
  rw [Try.params8] at hA hval
  obtain ⟨v0, vs0, d0, ds0, p0, q0, e0, rfl, rfl, h0, r0⟩ := trodAll_cons hA
  obtain ⟨v1, vs1, d1, ds1, p1, q1, rfl, rfl, rfl, h1, r1⟩ := trodAll_cons r0
  obtain ⟨rfl, rfl, rfl⟩ := trodAll_nil r1
  obtain rfl : args = #[v0, v1] := by cases args; simp_all
  obtain ⟨a0, f0, k0⟩ := open_flat (ks := List.replicate 32 .u8) (by kernel_rfl) (by kernel_rfl) (hval 0 _ v0 rfl rfl) h0 W (O0 W) (fun _ => none)
  obtain ⟨n1, d1', z1, y1, k1⟩ := open_lists (W := W) (k := .u8) Try.underlying47 (by kernel_rfl) (hval 1 _ v1 rfl rfl) h1 (fun _ => none)
  exact top_law (ofs_ok a0 n1 d1' (fits_max z1) (fun i hi => ro_facts k1 i hi) (lists_reach hsz (j := 1) (t := 47) (e := 27) (e' := 5) (by kernel_rfl) rfl Try.underlying47 Try.underlying27 (by kernel_rfl) (by kernel_rfl) h1 k1)) (by first | exact .inl rfl | exact .inr rfl) W (fun n v h => by first | (simp [gX] at h; done) | (have h : (none : Option SV) = some v := h; simp at h)) Try.func8 rfl rfl (by
    simp only [DenT]
    exact ⟨_, _, rfl, k0, _, _, rfl, k1, rfl⟩)

set_option maxRecDepth 100000 in
theorem lifted (os : Os) (started : os.Started) (H : Type) (enc : TypeId × Value → H) (F : Stop.Interp) :
    ReturnsInHanded {} Try.checked os 8 .any ((Rows.OpenSpec.upto Rows.macOfsSpec).pre6 enc Try.prog Try.f8 Rows.macOfsUptoRow.domain false) (((Rows.OpenSpec.upto Rows.macOfsSpec).at F).post enc Try.prog Try.f8 false true false false) := by
  refine Go.Vx.returnsInHanded_of_cond_sized (C := Try.checked) (s := Rows.OpenSpec.upto Rows.macOfsSpec) (k := Rows.uptoSmall) rfl own started (by kernel_rfl) Try.func8
    (OpenSpec.witness (enc := enc) (C := Try.checked) (k := Rows.uptoSmall) rfl false ⟨#[], #[.agg (Array.replicate 32 (.int .u8 0)), .slice none 0 0], []⟩ 8 (by kernel_rfl) (by kernel_rfl) (by kernel_rfl) (x := ([.agg (List.replicate 32 (.lit (.int .u8 0))), .nil], [], [])) (by kernel_rfl) (by kernel_rfl) (by kernel_rfl)) ?_
  intro W base args ds gs before hval hW hsz
  refine (walk H enc W base args ds gs before hval hW hsz).mono fun e W' ⟨he, hb⟩ => ⟨_, he, ?_⟩
  refine law_post laid hW rfl (by kernel_rfl) Try.underlying4 ?_ ?_ hb
  · intro t ht
    have := List.all_eq_true.1 (show Try.f8.params.toList.all (fun t => Try.prog.readableRec t && decide (t < Try.prog.types.size)) = true by kernel_rfl) t ht
    simpa using this
  · intro hl
    match ds, hl with
    | [_, _], _ => rfl

theorem holds : Rows.MacOfsUptoSaid :=
  OpenClaim.holds_of_cond 8 Try.f8 rfl rfl rfl rfl rfl rfl rfl ⟨rfl, rfl, rfl, rfl, rfl⟩ rfl rfl rfl rfl rfl (by kernel_rfl) Try.func8 (by kernel_rfl)
    (of_decide_eq_true (by kernel_rfl)) (by unfold Func.isWrapper; first | (rw [if_pos (by decide +kernel)]; kernel_rfl) | (rw [if_neg (by decide +kernel)]; exact ⟨rfl, rfl⟩))
    (fun os started H enc _ F => by rw [OpenClaim.pre_of_none' rfl]; exact lifted os started H enc F)
end Go.Proofs.Ytejcjdhplpjpjaa.ofs
