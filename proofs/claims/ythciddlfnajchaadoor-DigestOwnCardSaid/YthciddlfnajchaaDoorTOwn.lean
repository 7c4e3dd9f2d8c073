/- The law DigestOwn: whatever the arguments are, it returns true and the arguments read behind the call as they did. No conditions. -/
import Derived.Test.YthciddlfnajchaaDoorTVh
import Derived.Test.YthciddlfnajchaaDoorV5
import Derived.Test.YthciddlfnajchaaDoorCards
import Derived.Test.YthciddlfnajchaaDoorTie
import Derived.ProofKit
import Derived.Deep.DeepHandedRow
import Derived.Lay
import Derived.SevenTiedAt
namespace Go.Proofs.YthciddlfnajchaaDoor.ownlaw
open Go.Vx Go.ChangeShapes Go.WideShapes Go.ChangeAt Go.RowKit
theorem own : ownKnob Tryd.prog.godebug = none := by kernel_rfl
theorem laid : laidOutB Tryd.prog = true := by kernel_rfl
set_option maxRecDepth 100000 in
theorem walk (H : Type) (enc : TypeId × Value → H) (W : World) (base : Nat) (args : Array Value) (ds gs : List (DataW H)) (before : List MemPlace)
    (hval : ∀ (j : Nat) t v, Tryd.f6.params[j]? = some t → args[j]? = some v → Value.okWide Tryd.prog W .any base t v)
    (hW : DataW.Whole enc Tryd.prog Tryd.f6.params.toList Rows.digestOwnSpec.vars false W args.toList ds gs before)
    (hsz : (DataW.weightsEach Tryd.prog (Tryd.f6.params.toList ++ Rows.digestOwnSpec.plain.varTypes Tryd.prog) (ds ++ gs)).all (· ≤ reachBytes) = true)
    (hL : laidMetH Tryd.prog Rows.digestOwnRow.laid W) :
    Calls Tryd.prog 6 args W fun e W' => e = .returned (.bool true) ∧ Below W.heap.size W W' := by
  obtain ⟨p, q, hA0, hV, rfl, hfz, hnd⟩ := hW
  have hA : DataW.TrodAll enc Tryd.prog W 0 (fun _ => true) true Tryd.f6.params.toList args.toList ds p := hA0
  rw [Tryd.params6] at hA hval
  obtain ⟨v0, vs0, d0, ds0, p0, q0, e0, rfl, rfl, h0, r0⟩ := trodAll_cons hA
  obtain ⟨v1, vs1, d1, ds1, p1, q1, rfl, rfl, rfl, h1, r1⟩ := trodAll_cons r0
  obtain ⟨v2, vs2, d2, ds2, p2, q2, rfl, rfl, rfl, h2, r2⟩ := trodAll_cons r1
  obtain ⟨rfl, rfl, rfl⟩ := trodAll_nil r2
  obtain rfl : args = #[v0, v1, v2] := by cases args; simp_all
  obtain ⟨a0, f0, k0⟩ := open_num Tryd.underlying3 (hval 0 _ v0 rfl rfl) h0 W (O0 W) (fun _ => none)
  obtain ⟨a1, f1, m1, s1, k1⟩ := open_slice (W := W) Tryd.underlying22 Tryd.underlying5 (by kernel_rfl) (hval 1 _ v1 rfl rfl) h1 (fun _ => none)
  have z1 := slice_reach hsz (j := 1) (t := 22) (e := 5) (by kernel_rfl) rfl Tryd.underlying22 s1
  obtain ⟨a2, f2, m2, s2, k2⟩ := open_slice (W := W) Tryd.underlying22 Tryd.underlying5 (by kernel_rfl) (hval 2 _ v2 rfl rfl) h2 (fun _ => none)
  have z2 := slice_reach hsz (j := 2) (t := 22) (e := 5) (by kernel_rfl) rfl Tryd.underlying22 s2
  obtain ⟨e0, hg0⟩ := Go.Proofs.Tryd.laid_err hL
  exact top_law (Go.Proofs.Tryd.own_ok e0 a0 a1 f1 z1 a2 f2 z2) (by first | exact .inl rfl | exact .inr rfl) W (Go.Proofs.Tryd.glob_ok e0 W hg0) Tryd.func6 rfl rfl (by
    simp only [DenT]
    exact ⟨_, _, rfl, k0, _, _, rfl, k1, _, _, rfl, k2, rfl⟩)

set_option maxRecDepth 100000 in
/-- what the walk gives -/
theorem contract (H : Type) (enc : TypeId × Value → H) (W : World) (base : Nat) (args : Array Value) (ds gs : List (DataW H)) (before : List MemPlace)
    (hval : ∀ (j : Nat) t v, Tryd.f6.params[j]? = some t → args[j]? = some v → Value.okWide Tryd.prog W .any base t v)
    (hW : DataW.Whole enc Tryd.prog Tryd.f6.params.toList Rows.digestOwnSpec.vars false W args.toList ds gs before)
    (hsz : (DataW.weightsEach Tryd.prog (Tryd.f6.params.toList ++ Rows.digestOwnSpec.plain.varTypes Tryd.prog) (ds ++ gs)).all (· ≤ reachBytes) = true)
    (hL : laidMetH Tryd.prog Rows.digestOwnRow.laid W) :
    Calls Tryd.prog 6 args W fun e W' => ∃ v, e = .returned v ∧ Rows.digestOwnSpec.post enc Tryd.prog Tryd.f6 false true false false W args v W' := by
  refine (walk H enc W base args ds gs before hval hW hsz hL).mono fun e W' ⟨he, hb⟩ => ⟨_, he, ?_⟩
  refine law_post laid hW rfl (by kernel_rfl) Tryd.underlying4 ?_ ?_ hb
  · intro t ht
    have := List.all_eq_true.1 (show Tryd.f6.params.toList.all (fun t => Tryd.prog.readableRec t && decide (t < Tryd.prog.types.size)) = true by kernel_rfl) t ht
    simpa using this
  · intro hl
    match ds, hl with
    | [_, _, _], _ => rfl
noncomputable abbrev wit : Array Value := #[.int .i64 0, .slice none 0 0, .slice none 0 0]
theorem laid_met (os : Os) : laidMet Tryd.prog Rows.digestOwnRow.laid ((World.laidAll Tryd.prog os Rows.digestOwnRow.laid).forCall (fun _ _ => 0) ⟨#[], wit, []⟩).memory :=
  laidMet_laidAll wit (by kernel_rfl) (by kernel_rfl)
theorem reads (os : Os) {H : Type} (enc : TypeId × Value → H) : ∃ places, DataW.whole enc Tryd.prog ((World.laidAll Tryd.prog os Rows.digestOwnRow.laid).forCall (fun _ _ => 0) ⟨#[], wit, []⟩).memory Tryd.f6.params.toList Rows.digestOwnSpec.vars false wit.toList 8 = some ([.lit (.int .i64 0), .nil, .nil], [], places) :=
  ⟨[], by kernel_rfl⟩
set_option maxRecDepth 100000 in
theorem lifted (os : Os) (started : os.Started) (H : Type) (enc : TypeId × Value → H) (F : Stop.Interp) :
    ReturnsInHanded {} Tryd.checked os 6 .any ((OpenSpec.ofChange Rows.digestOwnSpec).preRow enc Tryd.prog Tryd.f6 Rows.digestOwnRow.domain false Rows.digestOwnRow.laid) (((OpenSpec.ofChange Rows.digestOwnSpec).at F).post enc Tryd.prog Tryd.f6 false true false false) := by
  obtain ⟨places, hx⟩ := reads os enc
  refine returnsInHanded_of_row (C := Tryd.checked) (s := (OpenSpec.ofChange Rows.digestOwnSpec)) own started (by kernel_rfl) Tryd.func6
    (witness_row_at (enc := enc) (C := Tryd.checked) false (World.laidAll Tryd.prog os Rows.digestOwnRow.laid) wit (World.laidAll_os _ _ _) (by kernel_rfl) (by kernel_rfl) (by kernel_rfl)
      (OpenSpec.preRow_of_cond 8 hx (by kernel_rfl) (fun k hk => by cases hk) (by kernel_rfl) (laid_met os))) ?_
  intro W base args ds gs before hval hW _ _ hsz hL _ _
  exact contract H enc W base args ds gs before hval hW hsz hL
theorem said : Rows.DigestOwnSaid :=
  OpenClaim.holds_of_cond 6 Tryd.f6 rfl rfl rfl rfl rfl rfl rfl ⟨rfl, rfl, rfl, rfl, rfl⟩ rfl rfl rfl rfl rfl (by kernel_rfl) Tryd.func6 (by kernel_rfl)
    (of_decide_eq_true (by kernel_rfl)) (by unfold Func.isWrapper; first | (rw [if_pos (by decide +kernel)]; kernel_rfl) | (rw [if_neg (by decide +kernel)]; exact ⟨rfl, rfl⟩))
    (fun os started H enc _ F => by rw [OpenClaim.pre_eq_preRow]; exact lifted os started H enc F)
/-- no parameter wants a stand-in; the program's own looks are off -/
theorem plain (f : FuncId) (fn : Func) (hf : Tryd.pinned.checked.prog.funcNamed "pintle/pintlelaw8.DigestOwn" = some f) (hfn : Tryd.pinned.checked.prog.funcs[f]? = some fn) :
    true = Tryd.pinned.checked.prog.looks [] ∧ ∀ (j : Nat) t, fn.params[j]? = some t → Tryd.pinned.checked.prog.wantsStandIn t = false := by
  obtain rfl : f = 6 := Option.some.inj ((show Tryd.prog.funcNamed "pintle/pintlelaw8.DigestOwn" = some 6 by kernel_rfl).symm.trans hf) |>.symm
  obtain rfl : fn = Tryd.f6 := (Option.some.inj (Tryd.func6.symm.trans hfn)).symm
  refine ⟨by kernel_rfl, fun j t ht => ?_⟩
  have h2 := List.all_eq_true.1 (show Tryd.f6.params.toList.all (fun t => !Tryd.prog.wantsStandIn t) = true by kernel_rfl) t (by simpa using Array.mem_of_getElem? ht)
  have h3 : Tryd.prog.wantsStandIn t = false := by simpa using h2
  exact h3
/-- the card -/
theorem holds : Rows.DigestOwnCardSaid :=
  Claim7.holds_tied_plain_at .later [] _ _ _ _ said (fun _ h => by cases h) (by kernel_rfl) (fun _ h => by cases h) digestOwn_row_tie rfl ⟨rfl, rfl⟩ (by kernel_rfl) rfl plain (by kernel_rfl)
end Go.Proofs.YthciddlfnajchaaDoor.ownlaw
