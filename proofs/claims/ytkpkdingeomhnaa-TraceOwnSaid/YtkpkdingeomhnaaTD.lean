/- Accounts of this seat's functions: lemmas, no statement of their own. No conditions. -/
import Derived.Test.YtkpkdingeomhnaaV4
import Derived.Test.YtkpkdingeomhnaaProg
import Derived.RangeFuncBox
import Derived.Shelf.Abstract
import Derived.OwnWalkIn
import Derived.TacticsInMore
import Derived.LoopNIn
import Derived.LoopIn
namespace Go.Proofs.Ytkpkdingeomhnaa
open Go Go.Vx

noncomputable def g0 : Ctx := { P := Try.prog, sum := fun _ => none, glob := fun _ => none }
theorem mixed : Try.prog.follows .mixedOrders = true := by kernel_rfl
theorem names : Try.prog.funcs.all (fun fn => !(fn.name == "runtime.NumGoroutine") || fn.body.isNone) = true := by kernel_rfl
theorem noGo (f : FuncId) (fn : Func) (c : Code) (h : Try.prog.funcs[f]? = some fn) (hb : fn.body = some c) : (fn.name == "runtime.NumGoroutine") = false := by
  have := Array.all_eq_true'.1 names fn (Array.mem_of_getElem? h)
  rw [hb] at this
  simpa using this
theorem g0_ok : CtxU g0 := CtxU.mk (fun f σ h => by simp [g0] at h) mixed noGo
theorem get_ok {f : FuncId} (h : (Try.prog.funcs[f]?).isSome = true) : Try.prog.funcs[f]? = some ((Try.prog.funcs[f]?).getD default) := by
  obtain ⟨x, hx⟩ := Option.isSome_iff_exists.1 h
  rw [hx]; rfl
theorem acc40 : Acc g0 40 loadF := fun args B out h hC =>
  load_ok (g := g0) (get_ok (f := 40) (by kernel_rfl)) (by kernel_rfl) (by kernel_rfl) (by kernel_rfl) (by kernel_rfl) args B out h hC
theorem acc42 : Acc g0 42 addF := fun args B out h hC =>
  add_ok (g := g0) (get_ok (f := 42) (by kernel_rfl)) (by kernel_rfl) (by kernel_rfl) (by kernel_rfl) (by kernel_rfl) args B out h hC
noncomputable abbrev gx : Ctx := g0.add [(40, loadF), (42, addF)]
theorem gx_ok : CtxU gx := g0_ok.add mixed noGo (by
  intro x hx
  simp only [List.mem_cons, List.not_mem_nil, or_false] at hx
  rcases hx with rfl | rfl
  · exact acc40
  · exact acc42)
theorem acc37 : Acc gx 37 logF := logF_ok gx_ok (fun k v n l => by kernel_rfl) (fun k v => by kernel_rfl)
theorem acc19 : Acc gx 19 opF := opF_ok gx_ok (fun k n l => by kernel_rfl) (fun k => by kernel_rfl)
theorem acc9 : Acc gx 9 newF := newF_ok gx_ok (by kernel_rfl)
theorem acc18 : Acc gx 18 totalF := totalF_ok gx_ok (fun n l => by kernel_rfl) (by kernel_rfl)
theorem acc28 : Acc gx 28 ifF := ifF_ok gx_ok (fun b n l => by cases b <;> kernel_rfl) (fun b => by cases b <;> kernel_rfl)
theorem acc29 : Acc gx 29 atF := atF_ok gx_ok (fun k n l => by kernel_rfl) (fun k => by kernel_rfl)
end Go.Proofs.Ytkpkdingeomhnaa

namespace Go.Proofs.Ytkpkdingeomhnaa
open Go Go.Vx Go.RowKit Go.Shelf
section
attribute [local go_sem] Oper.semAt_some

set_option maxRecDepth 100000 in
set_option maxHeartbeats 2000000 in
theorem since_has (bR oR bN oN b base b1 o1 cap : Nat) (xs : List (List Int)) (hfit : xs.length ≤ 9223372036854775807) :
    IterOk Try.prog 38 #[.pointer (some ⟨bR, oR, none⟩), .pointer (some ⟨bN, oN, none⟩)] evV xs (LogK bR oR bN oN b base b1 o1 cap xs) := by
  intro l J hK hY W h0
  have hk0 := hK _ _ h0
  refine callsIn_of_wp Try.func38 rfl trivial ?_ rfl
  simp only [Try.ntmps38, List.size_toArray, List.length_cons, List.length_nil, Nat.reduceAdd, Nat.reduceSub, Array.replicate_succ, Array.replicate_zero, List.push_toArray, List.append_toArray, List.nil_append, List.cons_append]
  have hr := hk0.r
  have hn := hk0.n
  have hs := hk0.s
  gi_wp2
  gi_loopw [5] (fun i wr => ∃ k : Nat, k ≤ xs.length ∧ i = .int .i64 k ∧ J (xs.take k) wr)
    (fun i _ => xs.length - (intOf i).toNat)
  case atStart => exact ⟨0, Nat.zero_le _, rfl, h0⟩
  case round =>
    obtain ⟨k, hk, rfl, hJs⟩ := hrel
    have hkk := hK _ _ hJs
    by_cases hlt : k < xs.length
    · have hx : xs = xs.take k ++ xs.getD k [] :: xs.drop (k + 1) := by
        conv => lhs; rw [← List.take_append_drop k xs, List.drop_eq_getElem_cons hlt]
        simp [hlt]
      obtain ⟨fn, tmps, assign, body, hy, hR⟩ := hY _ _ _ wr hx hJs
      have e0 := hkk.c0 k hlt
      have e1 := hkk.c1 k hlt
      unfold evV at hy
      clear hx
      generalize (xs.getD k []).getD 0 0 = v0 at hy e0
      generalize (xs.getD k []).getD 1 0 = v1 at hy e1
      gi_wp2
      refine ⟨rfl, hR.mono ?_⟩
      rintro e W3 ⟨rfl, hJ3⟩
      gi_wp2
      go_roundw
      case rel => exact ⟨k + 1, by omega, by simp, by rw [List.take_add_one]; simpa [hlt] using hJ3⟩
      case measure => simp [intOf]; omega
    · obtain rfl : k = xs.length := by omega
      gi_wp2
      go_end0
      exact ⟨⟨_, rfl⟩, by simpa using hJs⟩

set_option maxRecDepth 100000 in
set_option maxHeartbeats 2000000 in
theorem since_non (bR oR bN oN b base : Nat) :
    IterOk Try.prog 38 #[.pointer (some ⟨bR, oR, none⟩), .pointer (some ⟨bN, oN, none⟩)] evV [] (LogN bR oR bN oN b base) := by
  intro l J hK hY W h0
  have hk0 := hK _ _ h0
  refine callsIn_of_wp Try.func38 rfl trivial ?_ rfl
  simp only [Try.ntmps38, List.size_toArray, List.length_cons, List.length_nil, Nat.reduceAdd, Nat.reduceSub, Array.replicate_succ, Array.replicate_zero, List.push_toArray, List.append_toArray, List.nil_append, List.cons_append]
  have hr := hk0.r
  have hn := hk0.n
  have hs := hk0.s
  gi_wp2
  gi_loopw [5] (fun i wr => i = .int .i64 0 ∧ J [] wr) (fun _ _ => 0)
  case atStart => exact ⟨rfl, h0⟩
  case round =>
    obtain ⟨rfl, hJs⟩ := hrel
    gi_wp2
    go_end0
    exact ⟨⟨_, rfl⟩, hJs⟩
end

theorem since_ok : SinceOk Try.prog 38 := ⟨since_has, since_non⟩
noncomputable def evParts : RParts := rparts Try.f20.body
theorem events_acc (l : List (List Int)) (hl : l.length * 16 ≤ 2 ^ 47) : FnOk gx 20 [.ptr 0 0] [.log l] { val := .own 1, new := [.rows [.i64, .i64] l], C := [l.length * 16 ≤ 2 ^ 47] } :=
  events_ok (g := gx) gx_ok (f := 20) (gf := 38) (fn := Try.f20) (r := evParts) (m := 60) Try.func20 (by kernel_rfl) (by kernel_rfl) (by kernel_rfl) (by kernel_rfl) (by kernel_rfl) (by kernel_rfl)
    (enters_of Try.func38 (by kernel_rfl) rfl) since_ok (by constructor <;> kernel_rfl) hl
    (fun n => by kernel_rfl) (fun n pre a b => by kernel_rfl) (fun n pre => by kernel_rfl)
end Go.Proofs.Ytkpkdingeomhnaa

namespace Go.Proofs.Ytkpkdingeomhnaa
open Go Go.Vx

def eventsF : SumF := fun args B => match args, B with
  | [.ptr 0 0], [.log l] => some { val := .own 1, new := [.rows [.i64, .i64] l], C := [l.length * 16 ≤ 2 ^ 47] }
  | _, _ => none
theorem acc20 : Acc gx 20 eventsF := by
  intro args B out h hC
  unfold eventsF at h
  split at h
  · simp only [Option.some.injEq] at h; subst h
    exact events_acc _ (hC _ (by simp))
  · simp at h
noncomputable abbrev g1 : Ctx := gx.add [(9, newF), (18, totalF), (19, opF), (28, ifF), (29, atF), (20, eventsF)]
theorem g1_ok : CtxU g1 := gx_ok.add mixed noGo (by
  intro x hx
  simp only [List.mem_cons, List.not_mem_nil, or_false] at hx
  rcases hx with rfl | rfl | rfl | rfl | rfl | rfl
  · exact acc9
  · exact acc18
  · exact acc19
  · exact acc28
  · exact acc29
  · exact acc20)
abbrev stepA (k v : Int) (b : Bool) : SV := .agg [.int .i64 k, .int .i64 v, .sbool b]
end Go.Proofs.Ytkpkdingeomhnaa

namespace Go.Proofs.Ytkpkdingeomhnaa
open Go Go.Vx

/-! ### ev -/
abbrev evKeep : List Nat := [0, 1, 5]
noncomputable abbrev evBody : Code := bodyAt Try.prog 16 4
abbrev evS (oa ob na : Nat) (i : Nat) : List (Nat × SV) := evKeep.zip [.sl 0 0 oa 2 0 na false, .sl 1 0 ob 2 0 na false, .int .i64 (i : Int)]
theorem ev_go (la lb : List (List Int)) (oa ob na i : Nat) : runC g1 200 26 [.br true, .br false] evBody (evS oa ob na i) [.rows [.i64, .i64] la, .rows [.i64, .i64] lb] evKeep [0, 1] =
    some (Ex.normal, [SV.sl (0 : Nat) (0 : Nat) oa (2 : Nat) (0 : Nat) na false, SV.sl (1 : Nat) (0 : Nat) ob (2 : Nat) (0 : Nat) na false, SV.int IntKind.i64 ((↑i : Int) + (1 : Int))], [some (Body.rows [IntKind.i64, IntKind.i64] la), some (Body.rows [IntKind.i64, IntKind.i64] lb)], [Fits IntKind.i64 (↑na : Int), decide ((↑i : Int) < (↑na : Int)) = true, ob + i < lb.length, ob + i < lb.length, (0 : Int) ≤ (↑i : Int) ∧ (↑i : Int) < (↑na : Int), oa + i < la.length, oa + i < la.length, (0 : Int) ≤ (↑i : Int) ∧ (↑i : Int) < (↑na : Int), (!decide ([(la.getD (oa + (↑i : Int).toNat) []).getD ((0 : Nat) + (0 : Nat)) (0 : Int), (la.getD (oa + (↑i : Int).toNat) []).getD ((0 : Nat) + ((0 : Nat) + (1 : Nat))) (0 : Int)] = [(lb.getD (ob + (↑i : Int).toNat) []).getD ((0 : Nat) + (0 : Nat)) (0 : Int), (lb.getD (ob + (↑i : Int).toNat) []).getD ((0 : Nat) + ((0 : Nat) + (1 : Nat))) (0 : Int)])) = false, Fits IntKind.i64 ((↑i : Int) + (1 : Int))]) := by kernel_rfl
theorem ev_no (la lb : List (List Int)) (oa ob na i : Nat) : runC g1 200 26 [.br true, .br true] evBody (evS oa ob na i) [.rows [.i64, .i64] la, .rows [.i64, .i64] lb] [4] [0, 1] =
    some (Ex.ret, [SV.bool false], [some (Body.rows [IntKind.i64, IntKind.i64] la), some (Body.rows [IntKind.i64, IntKind.i64] lb)], [Fits IntKind.i64 (↑na : Int), decide ((↑i : Int) < (↑na : Int)) = true, ob + i < lb.length, ob + i < lb.length, (0 : Int) ≤ (↑i : Int) ∧ (↑i : Int) < (↑na : Int), oa + i < la.length, oa + i < la.length, (0 : Int) ≤ (↑i : Int) ∧ (↑i : Int) < (↑na : Int), (!decide ([(la.getD (oa + (↑i : Int).toNat) []).getD ((0 : Nat) + (0 : Nat)) (0 : Int), (la.getD (oa + (↑i : Int).toNat) []).getD ((0 : Nat) + ((0 : Nat) + (1 : Nat))) (0 : Int)] = [(lb.getD (ob + (↑i : Int).toNat) []).getD ((0 : Nat) + (0 : Nat)) (0 : Int), (lb.getD (ob + (↑i : Int).toNat) []).getD ((0 : Nat) + ((0 : Nat) + (1 : Nat))) (0 : Int)])) = true]) := by kernel_rfl
theorem ev_end (la lb : List (List Int)) (oa ob na i : Nat) : runC g1 200 26 [.br false] evBody (evS oa ob na i) [.rows [.i64, .i64] la, .rows [.i64, .i64] lb] evKeep [0, 1] =
    some (Ex.exit (0 : Nat), [SV.sl (0 : Nat) (0 : Nat) oa (2 : Nat) (0 : Nat) na false, SV.sl (1 : Nat) (0 : Nat) ob (2 : Nat) (0 : Nat) na false, SV.int IntKind.i64 (↑i : Int)], [some (Body.rows [IntKind.i64, IntKind.i64] la), some (Body.rows [IntKind.i64, IntKind.i64] lb)], [Fits IntKind.i64 (↑na : Int), decide ((↑i : Int) < (↑na : Int)) = false]) := by kernel_rfl
def evG (e : List (Nat × SV)) (q : List (List Int) → List (List Int) → Nat → Nat → Nat → Nat → Prop) : LoopF := fun vals B => match vals, B with
  | [.sl 0 0 oa 2 0 na false, .sl 1 0 ob 2 0 nb false, .int .i64 0], [.rows [.i64, .i64] la, .rows [.i64, .i64] lb] => some (e, [.rows [.i64, .i64] la, .rows [.i64, .i64] lb], [q la lb oa ob na nb])
  | _, _ => none
def evQ (la lb : List (List Int)) (oa ob na nb : Nat) : Prop := nb = na ∧ Fits .i64 (na : Int) ∧ oa + na ≤ la.length ∧ ob + na ≤ lb.length ∧ (∀ r ∈ la, r.length = 2) ∧ (∀ r ∈ lb, r.length = 2) ∧ ∀ i, i < na → la.getD (oa + i) [] = lb.getD (ob + i) []
def evR (la lb : List (List Int)) (oa ob na nb : Nat) : Prop := nb = na ∧ Fits .i64 (na : Int) ∧ oa + na ≤ la.length ∧ ob + na ≤ lb.length ∧ (∀ r ∈ la, r.length = 2) ∧ (∀ r ∈ lb, r.length = 2) ∧ ∃ k, k < na ∧ (∀ i, i < k → la.getD (oa + i) [] = lb.getD (ob + i) []) ∧ la.getD (oa + k) [] ≠ lb.getD (ob + k) []


theorem ev_step {la lb : List (List Int)} {oa ob na i : Nat} (hf : Fits .i64 (na : Int)) (ha : oa + na ≤ la.length) (hb : ob + na ≤ lb.length) (ra : ∀ r ∈ la, r.length = 2) (rb : ∀ r ∈ lb, r.length = 2) (hi : i < na) {w0 : World} {O : Vx.Own} (hG : GlobOk g1 w0 O) :
    (la.getD (oa + i) [] = lb.getD (ob + i) [] → SimC g1.P w0 O 26 evBody (evS oa ob na i) [.rows [.i64, .i64] la, .rows [.i64, .i64] lb] .normal (evS oa ob na (i + 1)) [.rows [.i64, .i64] la, .rows [.i64, .i64] lb] 2) ∧
    (la.getD (oa + i) [] ≠ lb.getD (ob + i) [] → SimC g1.P w0 O 26 evBody (evS oa ob na i) [.rows [.i64, .i64] la, .rows [.i64, .i64] lb] .ret [(4, .bool false)] [.rows [.i64, .i64] la, .rows [.i64, .i64] lb] 2) := by
  have e1 := row2 ra (show oa + i < la.length by omega)
  have e2 := row2 rb (show ob + i < lb.length by omega)
  have hb' := fits_int hf
  have hfi : Fits .i64 ((i : Int) + 1) := by simp [Fits, IntKind.min, IntKind.max, IntKind.signed, IntKind.bits]; omega
  refine ⟨fun h => ?_, fun h => ?_⟩
  · refine SimC.run (B' := [.rows [.i64, .i64] la, .rows [.i64, .i64] lb]) g1_ok (by decide) (ev_go la lb oa ob na i) ?_ (by simp) (fun j hj => by match j, hj with
      | 0, _ => rfl
      | 1, _ => rfl
      | j + 2, hj => exact absurd hj (by omega)) (by decide) (by simp) hG
    have e3 := e1.trans (h.trans e2.symm)
    have h1 : oa + i < la.length := by omega
    have h2 : ob + i < lb.length := by omega
    simp only [allC_cons, allC_nil, and_true]
    exact ⟨hf, decide_eq_true (by omega), h2, h2, ⟨by omega, by omega⟩, h1, h1, ⟨by omega, by omega⟩, by rw [show ((i : Int)).toNat = i from rfl]; exact congrArg Bool.not (decide_eq_true e3), hfi⟩

  · refine SimC.run (B' := [.rows [.i64, .i64] la, .rows [.i64, .i64] lb]) (keep := [4]) g1_ok (by decide) (ev_no la lb oa ob na i) ?_ (by simp) (fun j hj => by match j, hj with
      | 0, _ => rfl
      | 1, _ => rfl
      | j + 2, hj => exact absurd hj (by omega)) (by decide) (by simp) hG
    have e3 : ¬ _ = _ := fun e => h (e1.symm.trans (e.trans e2))
    have h1 : oa + i < la.length := by omega
    have h2 : ob + i < lb.length := by omega
    simp only [allC_cons, allC_nil, and_true]
    exact ⟨hf, decide_eq_true (by omega), h2, h2, ⟨by omega, by omega⟩, h1, h1, ⟨by omega, by omega⟩, by rw [show ((i : Int)).toNat = i from rfl]; exact congrArg Bool.not (decide_eq_false e3)⟩

theorem ev_all : LoopGood g1 26 (.loop evBody) evKeep 2 (.exit 0) (mkLoopN (evG [] evQ)) := by
  refine LoopGood.mkN (by decide) fun vals B S' B' C hG hC hlen w0 O hgl => ?_
  clear hlen
  unfold evG at hG
  split at hG
  · simp only [Option.some.injEq, Prod.mk.injEq] at hG
    obtain ⟨rfl, rfl, rfl⟩ := hG
    simp only [allC_cons, allC_nil, and_true] at hC
    obtain ⟨rfl, hf, ha, hb, ra, rb, hq⟩ := hC
    rename_i oa ob na la lb
    refine SimC.iter (g := g1) (S := evS oa ob na) (B := fun _ => [.rows [.i64, .i64] la, .rows [.i64, .i64] lb]) (N := na) (fun i hi => (ev_step hf ha hb ra rb hi hgl).1 (hq i hi)) ?_ (by simp) 0 (by omega)
    refine SimC.weaken (SimC.run (B' := [.rows [.i64, .i64] la, .rows [.i64, .i64] lb]) g1_ok (by decide) (ev_end la lb oa ob na na) ?_ (by simp) (fun j hj => by match j, hj with
      | 0, _ => rfl
      | 1, _ => rfl
      | j + 2, hj => exact absurd hj (by omega)) (by decide) (by simp) hgl) fun t => .inr rfl
    simp [allC_cons, allC_nil, hf]
  · simp at hG
theorem ev_diff : LoopGood g1 26 (.loop evBody) evKeep 2 .ret (mkLoopN (evG [(4, .bool false)] evR)) := by
  refine LoopGood.mkN (by decide) fun vals B S' B' C hG hC hlen w0 O hgl => ?_
  clear hlen
  unfold evG at hG
  split at hG
  · simp only [Option.some.injEq, Prod.mk.injEq] at hG
    obtain ⟨rfl, rfl, rfl⟩ := hG
    simp only [allC_cons, allC_nil, and_true] at hC
    obtain ⟨rfl, hf, ha, hb, ra, rb, k, hk, hq, hne⟩ := hC
    rename_i oa ob na la lb
    exact SimC.iter (g := g1) (S := evS oa ob na) (B := fun _ => [.rows [.i64, .i64] la, .rows [.i64, .i64] lb]) (N := k) (fun i hi => (ev_step hf ha hb ra rb (by omega) hgl).1 (hq i hi)) ((ev_step hf ha hb ra rb hk hgl).2 hne) (by simp) 0 (by omega)
  · simp at hG

/-! ### rn -/
abbrev rnKeep : List Nat := [0, 1, 5]
noncomputable abbrev rnBody : Code := bodyAt Try.prog 27 4
abbrev rnS (oa ob na : Nat) (i : Nat) : List (Nat × SV) := rnKeep.zip [.sl 0 0 oa 3 0 na false, .sl 1 0 ob 3 0 na false, .int .i64 (i : Int)]
theorem rn_go (la lb : List (List Int)) (oa ob na i : Nat) : runC g1 200 26 [.br true, .br false] rnBody (rnS oa ob na i) [.rows [.i64, .i64, .i64] la, .rows [.i64, .i64, .i64] lb] rnKeep [0, 1] =
    some (Ex.normal, [SV.sl (0 : Nat) (0 : Nat) oa (3 : Nat) (0 : Nat) na false, SV.sl (1 : Nat) (0 : Nat) ob (3 : Nat) (0 : Nat) na false, SV.int IntKind.i64 ((↑i : Int) + (1 : Int))], [some (Body.rows [IntKind.i64, IntKind.i64, IntKind.i64] la), some (Body.rows [IntKind.i64, IntKind.i64, IntKind.i64] lb)], [Fits IntKind.i64 (↑na : Int), decide ((↑i : Int) < (↑na : Int)) = true, ob + i < lb.length, ob + i < lb.length, ob + i < lb.length, (0 : Int) ≤ (↑i : Int) ∧ (↑i : Int) < (↑na : Int), oa + i < la.length, oa + i < la.length, oa + i < la.length, (0 : Int) ≤ (↑i : Int) ∧ (↑i : Int) < (↑na : Int), (!decide ([(la.getD (oa + (↑i : Int).toNat) []).getD ((0 : Nat) + (0 : Nat)) (0 : Int), (la.getD (oa + (↑i : Int).toNat) []).getD ((0 : Nat) + ((0 : Nat) + (1 : Nat))) (0 : Int), (la.getD (oa + (↑i : Int).toNat) []).getD ((0 : Nat) + ((0 : Nat) + (1 : Nat) + (1 : Nat))) (0 : Int)] = [(lb.getD (ob + (↑i : Int).toNat) []).getD ((0 : Nat) + (0 : Nat)) (0 : Int), (lb.getD (ob + (↑i : Int).toNat) []).getD ((0 : Nat) + ((0 : Nat) + (1 : Nat))) (0 : Int), (lb.getD (ob + (↑i : Int).toNat) []).getD ((0 : Nat) + ((0 : Nat) + (1 : Nat) + (1 : Nat))) (0 : Int)])) = false, Fits IntKind.i64 ((↑i : Int) + (1 : Int))]) := by kernel_rfl
theorem rn_no (la lb : List (List Int)) (oa ob na i : Nat) : runC g1 200 26 [.br true, .br true] rnBody (rnS oa ob na i) [.rows [.i64, .i64, .i64] la, .rows [.i64, .i64, .i64] lb] [4] [0, 1] =
    some (Ex.ret, [SV.bool false], [some (Body.rows [IntKind.i64, IntKind.i64, IntKind.i64] la), some (Body.rows [IntKind.i64, IntKind.i64, IntKind.i64] lb)], [Fits IntKind.i64 (↑na : Int), decide ((↑i : Int) < (↑na : Int)) = true, ob + i < lb.length, ob + i < lb.length, ob + i < lb.length, (0 : Int) ≤ (↑i : Int) ∧ (↑i : Int) < (↑na : Int), oa + i < la.length, oa + i < la.length, oa + i < la.length, (0 : Int) ≤ (↑i : Int) ∧ (↑i : Int) < (↑na : Int), (!decide ([(la.getD (oa + (↑i : Int).toNat) []).getD ((0 : Nat) + (0 : Nat)) (0 : Int), (la.getD (oa + (↑i : Int).toNat) []).getD ((0 : Nat) + ((0 : Nat) + (1 : Nat))) (0 : Int), (la.getD (oa + (↑i : Int).toNat) []).getD ((0 : Nat) + ((0 : Nat) + (1 : Nat) + (1 : Nat))) (0 : Int)] = [(lb.getD (ob + (↑i : Int).toNat) []).getD ((0 : Nat) + (0 : Nat)) (0 : Int), (lb.getD (ob + (↑i : Int).toNat) []).getD ((0 : Nat) + ((0 : Nat) + (1 : Nat))) (0 : Int), (lb.getD (ob + (↑i : Int).toNat) []).getD ((0 : Nat) + ((0 : Nat) + (1 : Nat) + (1 : Nat))) (0 : Int)])) = true]) := by kernel_rfl
theorem rn_end (la lb : List (List Int)) (oa ob na i : Nat) : runC g1 200 26 [.br false] rnBody (rnS oa ob na i) [.rows [.i64, .i64, .i64] la, .rows [.i64, .i64, .i64] lb] rnKeep [0, 1] =
    some (Ex.exit (0 : Nat), [SV.sl (0 : Nat) (0 : Nat) oa (3 : Nat) (0 : Nat) na false, SV.sl (1 : Nat) (0 : Nat) ob (3 : Nat) (0 : Nat) na false, SV.int IntKind.i64 (↑i : Int)], [some (Body.rows [IntKind.i64, IntKind.i64, IntKind.i64] la), some (Body.rows [IntKind.i64, IntKind.i64, IntKind.i64] lb)], [Fits IntKind.i64 (↑na : Int), decide ((↑i : Int) < (↑na : Int)) = false]) := by kernel_rfl
def rnG (e : List (Nat × SV)) (q : List (List Int) → List (List Int) → Nat → Nat → Nat → Nat → Prop) : LoopF := fun vals B => match vals, B with
  | [.sl 0 0 oa 3 0 na false, .sl 1 0 ob 3 0 nb false, .int .i64 0], [.rows [.i64, .i64, .i64] la, .rows [.i64, .i64, .i64] lb] => some (e, [.rows [.i64, .i64, .i64] la, .rows [.i64, .i64, .i64] lb], [q la lb oa ob na nb])
  | _, _ => none
def rnQ (la lb : List (List Int)) (oa ob na nb : Nat) : Prop := nb = na ∧ Fits .i64 (na : Int) ∧ oa + na ≤ la.length ∧ ob + na ≤ lb.length ∧ (∀ r ∈ la, r.length = 3) ∧ (∀ r ∈ lb, r.length = 3) ∧ ∀ i, i < na → la.getD (oa + i) [] = lb.getD (ob + i) []
def rnR (la lb : List (List Int)) (oa ob na nb : Nat) : Prop := nb = na ∧ Fits .i64 (na : Int) ∧ oa + na ≤ la.length ∧ ob + na ≤ lb.length ∧ (∀ r ∈ la, r.length = 3) ∧ (∀ r ∈ lb, r.length = 3) ∧ ∃ k, k < na ∧ (∀ i, i < k → la.getD (oa + i) [] = lb.getD (ob + i) []) ∧ la.getD (oa + k) [] ≠ lb.getD (ob + k) []


theorem rn_step {la lb : List (List Int)} {oa ob na i : Nat} (hf : Fits .i64 (na : Int)) (ha : oa + na ≤ la.length) (hb : ob + na ≤ lb.length) (ra : ∀ r ∈ la, r.length = 3) (rb : ∀ r ∈ lb, r.length = 3) (hi : i < na) {w0 : World} {O : Vx.Own} (hG : GlobOk g1 w0 O) :
    (la.getD (oa + i) [] = lb.getD (ob + i) [] → SimC g1.P w0 O 26 rnBody (rnS oa ob na i) [.rows [.i64, .i64, .i64] la, .rows [.i64, .i64, .i64] lb] .normal (rnS oa ob na (i + 1)) [.rows [.i64, .i64, .i64] la, .rows [.i64, .i64, .i64] lb] 2) ∧
    (la.getD (oa + i) [] ≠ lb.getD (ob + i) [] → SimC g1.P w0 O 26 rnBody (rnS oa ob na i) [.rows [.i64, .i64, .i64] la, .rows [.i64, .i64, .i64] lb] .ret [(4, .bool false)] [.rows [.i64, .i64, .i64] la, .rows [.i64, .i64, .i64] lb] 2) := by
  have e1 := row3 ra (show oa + i < la.length by omega)
  have e2 := row3 rb (show ob + i < lb.length by omega)
  have hb' := fits_int hf
  have hfi : Fits .i64 ((i : Int) + 1) := by simp [Fits, IntKind.min, IntKind.max, IntKind.signed, IntKind.bits]; omega
  refine ⟨fun h => ?_, fun h => ?_⟩
  · refine SimC.run (B' := [.rows [.i64, .i64, .i64] la, .rows [.i64, .i64, .i64] lb]) g1_ok (by decide) (rn_go la lb oa ob na i) ?_ (by simp) (fun j hj => by match j, hj with
      | 0, _ => rfl
      | 1, _ => rfl
      | j + 2, hj => exact absurd hj (by omega)) (by decide) (by simp) hG
    have e3 := e1.trans (h.trans e2.symm)
    have h1 : oa + i < la.length := by omega
    have h2 : ob + i < lb.length := by omega
    simp only [allC_cons, allC_nil, and_true]
    exact ⟨hf, decide_eq_true (by omega), h2, h2, h2, ⟨by omega, by omega⟩, h1, h1, h1, ⟨by omega, by omega⟩, by rw [show ((i : Int)).toNat = i from rfl]; exact congrArg Bool.not (decide_eq_true e3), hfi⟩

  · refine SimC.run (B' := [.rows [.i64, .i64, .i64] la, .rows [.i64, .i64, .i64] lb]) (keep := [4]) g1_ok (by decide) (rn_no la lb oa ob na i) ?_ (by simp) (fun j hj => by match j, hj with
      | 0, _ => rfl
      | 1, _ => rfl
      | j + 2, hj => exact absurd hj (by omega)) (by decide) (by simp) hG
    have e3 : ¬ _ = _ := fun e => h (e1.symm.trans (e.trans e2))
    have h1 : oa + i < la.length := by omega
    have h2 : ob + i < lb.length := by omega
    simp only [allC_cons, allC_nil, and_true]
    exact ⟨hf, decide_eq_true (by omega), h2, h2, h2, ⟨by omega, by omega⟩, h1, h1, h1, ⟨by omega, by omega⟩, by rw [show ((i : Int)).toNat = i from rfl]; exact congrArg Bool.not (decide_eq_false e3)⟩

theorem rn_all : LoopGood g1 26 (.loop rnBody) rnKeep 2 (.exit 0) (mkLoopN (rnG [] rnQ)) := by
  refine LoopGood.mkN (by decide) fun vals B S' B' C hG hC hlen w0 O hgl => ?_
  clear hlen
  unfold rnG at hG
  split at hG
  · simp only [Option.some.injEq, Prod.mk.injEq] at hG
    obtain ⟨rfl, rfl, rfl⟩ := hG
    simp only [allC_cons, allC_nil, and_true] at hC
    obtain ⟨rfl, hf, ha, hb, ra, rb, hq⟩ := hC
    rename_i oa ob na la lb
    refine SimC.iter (g := g1) (S := rnS oa ob na) (B := fun _ => [.rows [.i64, .i64, .i64] la, .rows [.i64, .i64, .i64] lb]) (N := na) (fun i hi => (rn_step hf ha hb ra rb hi hgl).1 (hq i hi)) ?_ (by simp) 0 (by omega)
    refine SimC.weaken (SimC.run (B' := [.rows [.i64, .i64, .i64] la, .rows [.i64, .i64, .i64] lb]) g1_ok (by decide) (rn_end la lb oa ob na na) ?_ (by simp) (fun j hj => by match j, hj with
      | 0, _ => rfl
      | 1, _ => rfl
      | j + 2, hj => exact absurd hj (by omega)) (by decide) (by simp) hgl) fun t => .inr rfl
    simp [allC_cons, allC_nil, hf]
  · simp at hG
theorem rn_diff : LoopGood g1 26 (.loop rnBody) rnKeep 2 .ret (mkLoopN (rnG [(4, .bool false)] rnR)) := by
  refine LoopGood.mkN (by decide) fun vals B S' B' C hG hC hlen w0 O hgl => ?_
  clear hlen
  unfold rnG at hG
  split at hG
  · simp only [Option.some.injEq, Prod.mk.injEq] at hG
    obtain ⟨rfl, rfl, rfl⟩ := hG
    simp only [allC_cons, allC_nil, and_true] at hC
    obtain ⟨rfl, hf, ha, hb, ra, rb, k, hk, hq, hne⟩ := hC
    rename_i oa ob na la lb
    exact SimC.iter (g := g1) (S := rnS oa ob na) (B := fun _ => [.rows [.i64, .i64, .i64] la, .rows [.i64, .i64, .i64] lb]) (N := k) (fun i hi => (rn_step hf ha hb ra rb (by omega) hgl).1 (hq i hi)) ((rn_step hf ha hb ra rb hk hgl).2 hne) (by simp) 0 (by omega)
  · simp at hG

/-! ### eq -/
abbrev eqKeep : List Nat := [0, 1, 12, 13]
noncomputable abbrev eqBody : Code := bodyAt Try.prog 35 4
abbrev eqS (oa ob na : Nat) (i : Nat) : List (Nat × SV) := eqKeep.zip [.sl 0 0 oa 2 0 na false, .sl 1 0 ob 2 0 na false, .int .i64 (na : Int), .int .i64 (i : Int)]
theorem eq_go (la lb : List (List Int)) (oa ob na i : Nat) : runC g1 200 26 [.br true, .br false] eqBody (eqS oa ob na i) [.rows [.i64, .i64] la, .rows [.i64, .i64] lb] eqKeep [0, 1] =
    some (Ex.normal, [SV.sl (0 : Nat) (0 : Nat) oa (2 : Nat) (0 : Nat) na false, SV.sl (1 : Nat) (0 : Nat) ob (2 : Nat) (0 : Nat) na false, SV.int IntKind.i64 (↑na : Int), SV.int IntKind.i64 ((↑i : Int) + (1 : Int))], [some (Body.rows [IntKind.i64, IntKind.i64] la), some (Body.rows [IntKind.i64, IntKind.i64] lb)], [decide ((↑i : Int) < (↑na : Int)) = true, ob + i < lb.length, ob + i < lb.length, (0 : Int) ≤ (↑i : Int) ∧ (↑i : Int) < (↑na : Int), oa + i < la.length, oa + i < la.length, (0 : Int) ≤ (↑i : Int) ∧ (↑i : Int) < (↑na : Int), (!decide ([(la.getD (oa + (↑i : Int).toNat) []).getD ((0 : Nat) + (0 : Nat)) (0 : Int), (la.getD (oa + (↑i : Int).toNat) []).getD ((0 : Nat) + ((0 : Nat) + (1 : Nat))) (0 : Int)] = [(lb.getD (ob + (↑i : Int).toNat) []).getD ((0 : Nat) + (0 : Nat)) (0 : Int), (lb.getD (ob + (↑i : Int).toNat) []).getD ((0 : Nat) + ((0 : Nat) + (1 : Nat))) (0 : Int)])) = false, Fits IntKind.i64 ((↑i : Int) + (1 : Int))]) := by kernel_rfl
theorem eq_no (la lb : List (List Int)) (oa ob na i : Nat) : runC g1 200 26 [.br true, .br true] eqBody (eqS oa ob na i) [.rows [.i64, .i64] la, .rows [.i64, .i64] lb] [4] [0, 1] =
    some (Ex.ret, [SV.bool false], [some (Body.rows [IntKind.i64, IntKind.i64] la), some (Body.rows [IntKind.i64, IntKind.i64] lb)], [decide ((↑i : Int) < (↑na : Int)) = true, ob + i < lb.length, ob + i < lb.length, (0 : Int) ≤ (↑i : Int) ∧ (↑i : Int) < (↑na : Int), oa + i < la.length, oa + i < la.length, (0 : Int) ≤ (↑i : Int) ∧ (↑i : Int) < (↑na : Int), (!decide ([(la.getD (oa + (↑i : Int).toNat) []).getD ((0 : Nat) + (0 : Nat)) (0 : Int), (la.getD (oa + (↑i : Int).toNat) []).getD ((0 : Nat) + ((0 : Nat) + (1 : Nat))) (0 : Int)] = [(lb.getD (ob + (↑i : Int).toNat) []).getD ((0 : Nat) + (0 : Nat)) (0 : Int), (lb.getD (ob + (↑i : Int).toNat) []).getD ((0 : Nat) + ((0 : Nat) + (1 : Nat))) (0 : Int)])) = true]) := by kernel_rfl
theorem eq_end (la lb : List (List Int)) (oa ob na i : Nat) : runC g1 200 26 [.br false] eqBody (eqS oa ob na i) [.rows [.i64, .i64] la, .rows [.i64, .i64] lb] eqKeep [0, 1] =
    some (Ex.exit (0 : Nat), [SV.sl (0 : Nat) (0 : Nat) oa (2 : Nat) (0 : Nat) na false, SV.sl (1 : Nat) (0 : Nat) ob (2 : Nat) (0 : Nat) na false, SV.int IntKind.i64 (↑na : Int), SV.int IntKind.i64 (↑i : Int)], [some (Body.rows [IntKind.i64, IntKind.i64] la), some (Body.rows [IntKind.i64, IntKind.i64] lb)], [decide ((↑i : Int) < (↑na : Int)) = false]) := by kernel_rfl
def eqG (e : List (Nat × SV)) (q : List (List Int) → List (List Int) → Nat → Nat → Nat → Nat → Prop) : LoopF := fun vals B => match vals, B with
  | [.sl 0 0 oa 2 0 na false, .sl 1 0 ob 2 0 nb false, .int .i64 xl, .int .i64 0], [.rows [.i64, .i64] la, .rows [.i64, .i64] lb] => some (e, [.rows [.i64, .i64] la, .rows [.i64, .i64] lb], [q la lb oa ob na nb, xl = (na : Int)])
  | _, _ => none
def eqQ (la lb : List (List Int)) (oa ob na nb : Nat) : Prop := nb = na ∧ Fits .i64 (na : Int) ∧ oa + na ≤ la.length ∧ ob + na ≤ lb.length ∧ (∀ r ∈ la, r.length = 2) ∧ (∀ r ∈ lb, r.length = 2) ∧ ∀ i, i < na → la.getD (oa + i) [] = lb.getD (ob + i) []
def eqR (la lb : List (List Int)) (oa ob na nb : Nat) : Prop := nb = na ∧ Fits .i64 (na : Int) ∧ oa + na ≤ la.length ∧ ob + na ≤ lb.length ∧ (∀ r ∈ la, r.length = 2) ∧ (∀ r ∈ lb, r.length = 2) ∧ ∃ k, k < na ∧ (∀ i, i < k → la.getD (oa + i) [] = lb.getD (ob + i) []) ∧ la.getD (oa + k) [] ≠ lb.getD (ob + k) []


theorem eq_step {la lb : List (List Int)} {oa ob na i : Nat} (hf : Fits .i64 (na : Int)) (ha : oa + na ≤ la.length) (hb : ob + na ≤ lb.length) (ra : ∀ r ∈ la, r.length = 2) (rb : ∀ r ∈ lb, r.length = 2) (hi : i < na) {w0 : World} {O : Vx.Own} (hG : GlobOk g1 w0 O) :
    (la.getD (oa + i) [] = lb.getD (ob + i) [] → SimC g1.P w0 O 26 eqBody (eqS oa ob na i) [.rows [.i64, .i64] la, .rows [.i64, .i64] lb] .normal (eqS oa ob na (i + 1)) [.rows [.i64, .i64] la, .rows [.i64, .i64] lb] 2) ∧
    (la.getD (oa + i) [] ≠ lb.getD (ob + i) [] → SimC g1.P w0 O 26 eqBody (eqS oa ob na i) [.rows [.i64, .i64] la, .rows [.i64, .i64] lb] .ret [(4, .bool false)] [.rows [.i64, .i64] la, .rows [.i64, .i64] lb] 2) := by
  have e1 := row2 ra (show oa + i < la.length by omega)
  have e2 := row2 rb (show ob + i < lb.length by omega)
  have hb' := fits_int hf
  have hfi : Fits .i64 ((i : Int) + 1) := by simp [Fits, IntKind.min, IntKind.max, IntKind.signed, IntKind.bits]; omega
  refine ⟨fun h => ?_, fun h => ?_⟩
  · refine SimC.run (B' := [.rows [.i64, .i64] la, .rows [.i64, .i64] lb]) g1_ok (by decide) (eq_go la lb oa ob na i) ?_ (by simp) (fun j hj => by match j, hj with
      | 0, _ => rfl
      | 1, _ => rfl
      | j + 2, hj => exact absurd hj (by omega)) (by decide) (by simp) hG
    have e3 := e1.trans (h.trans e2.symm)
    have h1 : oa + i < la.length := by omega
    have h2 : ob + i < lb.length := by omega
    simp only [allC_cons, allC_nil, and_true]
    exact ⟨decide_eq_true (by omega), h2, h2, ⟨by omega, by omega⟩, h1, h1, ⟨by omega, by omega⟩, by rw [show ((i : Int)).toNat = i from rfl]; exact congrArg Bool.not (decide_eq_true e3), hfi⟩

  · refine SimC.run (B' := [.rows [.i64, .i64] la, .rows [.i64, .i64] lb]) (keep := [4]) g1_ok (by decide) (eq_no la lb oa ob na i) ?_ (by simp) (fun j hj => by match j, hj with
      | 0, _ => rfl
      | 1, _ => rfl
      | j + 2, hj => exact absurd hj (by omega)) (by decide) (by simp) hG
    have e3 : ¬ _ = _ := fun e => h (e1.symm.trans (e.trans e2))
    have h1 : oa + i < la.length := by omega
    have h2 : ob + i < lb.length := by omega
    simp only [allC_cons, allC_nil, and_true]
    exact ⟨decide_eq_true (by omega), h2, h2, ⟨by omega, by omega⟩, h1, h1, ⟨by omega, by omega⟩, by rw [show ((i : Int)).toNat = i from rfl]; exact congrArg Bool.not (decide_eq_false e3)⟩

theorem eq_all : LoopGood g1 26 (.loop eqBody) eqKeep 2 (.exit 0) (mkLoopN (eqG [] eqQ)) := by
  refine LoopGood.mkN (by decide) fun vals B S' B' C hG hC hlen w0 O hgl => ?_
  clear hlen
  unfold eqG at hG
  split at hG
  · simp only [Option.some.injEq, Prod.mk.injEq] at hG
    obtain ⟨rfl, rfl, rfl⟩ := hG
    simp only [allC_cons, allC_nil, and_true] at hC
    obtain ⟨⟨rfl, hf, ha, hb, ra, rb, hq⟩, rfl⟩ := hC
    rename_i oa ob na la lb
    refine SimC.iter (g := g1) (S := eqS oa ob na) (B := fun _ => [.rows [.i64, .i64] la, .rows [.i64, .i64] lb]) (N := na) (fun i hi => (eq_step hf ha hb ra rb hi hgl).1 (hq i hi)) ?_ (by simp) 0 (by omega)
    refine SimC.weaken (SimC.run (B' := [.rows [.i64, .i64] la, .rows [.i64, .i64] lb]) g1_ok (by decide) (eq_end la lb oa ob na na) ?_ (by simp) (fun j hj => by match j, hj with
      | 0, _ => rfl
      | 1, _ => rfl
      | j + 2, hj => exact absurd hj (by omega)) (by decide) (by simp) hgl) fun t => .inr rfl
    simp [allC_cons, allC_nil, hf]
  · simp at hG
theorem eq_diff : LoopGood g1 26 (.loop eqBody) eqKeep 2 .ret (mkLoopN (eqG [(4, .bool false)] eqR)) := by
  refine LoopGood.mkN (by decide) fun vals B S' B' C hG hC hlen w0 O hgl => ?_
  clear hlen
  unfold eqG at hG
  split at hG
  · simp only [Option.some.injEq, Prod.mk.injEq] at hG
    obtain ⟨rfl, rfl, rfl⟩ := hG
    simp only [allC_cons, allC_nil, and_true] at hC
    obtain ⟨⟨rfl, hf, ha, hb, ra, rb, k, hk, hq, hne⟩, rfl⟩ := hC
    rename_i oa ob na la lb
    exact SimC.iter (g := g1) (S := eqS oa ob na) (B := fun _ => [.rows [.i64, .i64] la, .rows [.i64, .i64] lb]) (N := k) (fun i hi => (eq_step hf ha hb ra rb (by omega) hgl).1 (hq i hi)) ((eq_step hf ha hb ra rb hk hgl).2 hne) (by simp) 0 (by omega)
  · simp at hG
end Go.Proofs.Ytkpkdingeomhnaa

namespace Go.Proofs.Ytkpkdingeomhnaa
open Go Go.Vx

theorem ev_len (la lb : List (List Int)) (oa ob na nb : Nat) : runF g1 200 [.br true] 16 [.sl 0 0 oa 2 0 na false, .sl 1 0 ob 2 0 nb false] [.rows [.i64, .i64] la, .rows [.i64, .i64] lb] [] =
    some (SV.bool false, [some (Body.rows [IntKind.i64, IntKind.i64] la), some (Body.rows [IntKind.i64, IntKind.i64] lb)], [Fits IntKind.i64 (↑nb : Int), Fits IntKind.i64 (↑na : Int), (!decide ((↑na : Int) = (↑nb : Int))) = true]) := by kernel_rfl
theorem ev_yes (la lb : List (List Int)) (oa ob na nb : Nat) : runF g1 200 [.br false, .loop 4 evKeep 2 (.exit 0) (mkLoopN (evG [] evQ))] 16 [.sl 0 0 oa 2 0 na false, .sl 1 0 ob 2 0 nb false] [.rows [.i64, .i64] la, .rows [.i64, .i64] lb] [] =
    some (SV.bool true, [some (Body.rows [IntKind.i64, IntKind.i64] la), some (Body.rows [IntKind.i64, IntKind.i64] lb)], [Fits IntKind.i64 (↑nb : Int), Fits IntKind.i64 (↑na : Int), (!decide ((↑na : Int) = (↑nb : Int))) = false, LoopGood g1 26 (.loop evBody) evKeep 2 (.exit 0) (mkLoopN (evG [] evQ)), nb = na ∧ Fits IntKind.i64 (↑na : Int) ∧ oa + na ≤ la.length ∧ ob + na ≤ lb.length ∧ (∀ (r : List Int), r ∈ la → r.length = (2 : Nat)) ∧ (∀ (r : List Int), r ∈ lb → r.length = (2 : Nat)) ∧ ∀ (i : Nat), i < na → la.getD (oa + i) [] = lb.getD (ob + i) []]) := by kernel_rfl
theorem ev_not (la lb : List (List Int)) (oa ob na nb : Nat) : runF g1 200 [.br false, .loop 4 evKeep 2 .ret (mkLoopN (evG [(4, .bool false)] evR))] 16 [.sl 0 0 oa 2 0 na false, .sl 1 0 ob 2 0 nb false] [.rows [.i64, .i64] la, .rows [.i64, .i64] lb] [] =
    some (SV.bool false, [some (Body.rows [IntKind.i64, IntKind.i64] la), some (Body.rows [IntKind.i64, IntKind.i64] lb)], [Fits IntKind.i64 (↑nb : Int), Fits IntKind.i64 (↑na : Int), (!decide ((↑na : Int) = (↑nb : Int))) = false, LoopGood g1 26 (.loop evBody) evKeep 2 .ret (mkLoopN (evG [(4, .bool false)] evR)), nb = na ∧ Fits IntKind.i64 (↑na : Int) ∧ oa + na ≤ la.length ∧ ob + na ≤ lb.length ∧ (∀ (r : List Int), r ∈ la → r.length = (2 : Nat)) ∧ (∀ (r : List Int), r ∈ lb → r.length = (2 : Nat)) ∧ ∃ k, k < na ∧ (∀ (i : Nat), i < k → la.getD (oa + i) [] = lb.getD (ob + i) []) ∧ la.getD (oa + k) [] ≠ lb.getD (ob + k) []]) := by kernel_rfl
theorem ev_acc : Acc g1 16 (scanF [.i64, .i64]) := scan_acc fun la lb oa ob na nb ha hb hla hlb ra rb => by
  have fna : Fits .i64 (na : Int) := fits_small (by omega)
  have fnb : Fits .i64 (nb : Int) := fits_small (by omega)
  by_cases hn : na = nb
  · subst hn
    rcases first_not (p := fun i => la.getD (oa + i) [] = lb.getD (ob + i) []) na with hq | ⟨k, hk, hq, hne⟩
    · refine FnOk.toSb (FnOk.run (out := { val := .bool true }) g1_ok (ev_yes la lb oa ob na na) (by simp only [allC_cons, allC_nil, and_true]; exact ⟨fna, fna, by simp, ev_all, ⟨trivial, fna, ha, hb, ra, rb, hq⟩⟩) (by simp [upto]) rfl (by simp) (by simp) (fun j hj => by match j, hj with
      | 0, _ => rfl
      | 1, _ => rfl
      | j + 2, hj => exact absurd hj (by simp))) ?_
      exact (decide_eq_true ((sub_eq ha hb).2 hq)).symm
    · refine FnOk.toSb (FnOk.run (out := { val := .bool false }) g1_ok (ev_not la lb oa ob na na) (by simp only [allC_cons, allC_nil, and_true]; exact ⟨fna, fna, by simp, ev_diff, ⟨trivial, fna, ha, hb, ra, rb, k, hk, hq, hne⟩⟩) (by simp [upto]) rfl (by simp) (by simp) (fun j hj => by match j, hj with
      | 0, _ => rfl
      | 1, _ => rfl
      | j + 2, hj => exact absurd hj (by simp))) ?_
      exact (decide_eq_false fun e => hne ((sub_eq ha hb).1 e k hk)).symm
  · refine FnOk.toSb (FnOk.run (out := { val := .bool false }) g1_ok (ev_len la lb oa ob na nb) (by simp only [allC_cons, allC_nil, and_true]; exact ⟨fnb, fna, by rw [decide_eq_false (show ¬ (na : Int) = (nb : Int) by omega)]; rfl⟩) (by simp [upto]) rfl (by simp) (by simp) (fun j hj => by match j, hj with
      | 0, _ => rfl
      | 1, _ => rfl
      | j + 2, hj => exact absurd hj (by simp))) ?_
    exact (decide_eq_false fun e => hn (by have := congrArg List.length e; rwa [sub_length ha, sub_length hb] at this)).symm

theorem rn_len (la lb : List (List Int)) (oa ob na nb : Nat) : runF g1 200 [.br true] 27 [.sl 0 0 oa 3 0 na false, .sl 1 0 ob 3 0 nb false] [.rows [.i64, .i64, .i64] la, .rows [.i64, .i64, .i64] lb] [] =
    some (SV.bool false, [some (Body.rows [IntKind.i64, IntKind.i64, IntKind.i64] la), some (Body.rows [IntKind.i64, IntKind.i64, IntKind.i64] lb)], [Fits IntKind.i64 (↑nb : Int), Fits IntKind.i64 (↑na : Int), (!decide ((↑na : Int) = (↑nb : Int))) = true]) := by kernel_rfl
theorem rn_yes (la lb : List (List Int)) (oa ob na nb : Nat) : runF g1 200 [.br false, .loop 4 rnKeep 2 (.exit 0) (mkLoopN (rnG [] rnQ))] 27 [.sl 0 0 oa 3 0 na false, .sl 1 0 ob 3 0 nb false] [.rows [.i64, .i64, .i64] la, .rows [.i64, .i64, .i64] lb] [] =
    some (SV.bool true, [some (Body.rows [IntKind.i64, IntKind.i64, IntKind.i64] la), some (Body.rows [IntKind.i64, IntKind.i64, IntKind.i64] lb)], [Fits IntKind.i64 (↑nb : Int), Fits IntKind.i64 (↑na : Int), (!decide ((↑na : Int) = (↑nb : Int))) = false, LoopGood g1 26 (.loop rnBody) rnKeep 2 (.exit 0) (mkLoopN (rnG [] rnQ)), nb = na ∧ Fits IntKind.i64 (↑na : Int) ∧ oa + na ≤ la.length ∧ ob + na ≤ lb.length ∧ (∀ (r : List Int), r ∈ la → r.length = (3 : Nat)) ∧ (∀ (r : List Int), r ∈ lb → r.length = (3 : Nat)) ∧ ∀ (i : Nat), i < na → la.getD (oa + i) [] = lb.getD (ob + i) []]) := by kernel_rfl
theorem rn_not (la lb : List (List Int)) (oa ob na nb : Nat) : runF g1 200 [.br false, .loop 4 rnKeep 2 .ret (mkLoopN (rnG [(4, .bool false)] rnR))] 27 [.sl 0 0 oa 3 0 na false, .sl 1 0 ob 3 0 nb false] [.rows [.i64, .i64, .i64] la, .rows [.i64, .i64, .i64] lb] [] =
    some (SV.bool false, [some (Body.rows [IntKind.i64, IntKind.i64, IntKind.i64] la), some (Body.rows [IntKind.i64, IntKind.i64, IntKind.i64] lb)], [Fits IntKind.i64 (↑nb : Int), Fits IntKind.i64 (↑na : Int), (!decide ((↑na : Int) = (↑nb : Int))) = false, LoopGood g1 26 (.loop rnBody) rnKeep 2 .ret (mkLoopN (rnG [(4, .bool false)] rnR)), nb = na ∧ Fits IntKind.i64 (↑na : Int) ∧ oa + na ≤ la.length ∧ ob + na ≤ lb.length ∧ (∀ (r : List Int), r ∈ la → r.length = (3 : Nat)) ∧ (∀ (r : List Int), r ∈ lb → r.length = (3 : Nat)) ∧ ∃ k, k < na ∧ (∀ (i : Nat), i < k → la.getD (oa + i) [] = lb.getD (ob + i) []) ∧ la.getD (oa + k) [] ≠ lb.getD (ob + k) []]) := by kernel_rfl
theorem rn_acc : Acc g1 27 (scanF [.i64, .i64, .i64]) := scan_acc fun la lb oa ob na nb ha hb hla hlb ra rb => by
  have fna : Fits .i64 (na : Int) := fits_small (by omega)
  have fnb : Fits .i64 (nb : Int) := fits_small (by omega)
  by_cases hn : na = nb
  · subst hn
    rcases first_not (p := fun i => la.getD (oa + i) [] = lb.getD (ob + i) []) na with hq | ⟨k, hk, hq, hne⟩
    · refine FnOk.toSb (FnOk.run (out := { val := .bool true }) g1_ok (rn_yes la lb oa ob na na) (by simp only [allC_cons, allC_nil, and_true]; exact ⟨fna, fna, by simp, rn_all, ⟨trivial, fna, ha, hb, ra, rb, hq⟩⟩) (by simp [upto]) rfl (by simp) (by simp) (fun j hj => by match j, hj with
      | 0, _ => rfl
      | 1, _ => rfl
      | j + 2, hj => exact absurd hj (by simp))) ?_
      exact (decide_eq_true ((sub_eq ha hb).2 hq)).symm
    · refine FnOk.toSb (FnOk.run (out := { val := .bool false }) g1_ok (rn_not la lb oa ob na na) (by simp only [allC_cons, allC_nil, and_true]; exact ⟨fna, fna, by simp, rn_diff, ⟨trivial, fna, ha, hb, ra, rb, k, hk, hq, hne⟩⟩) (by simp [upto]) rfl (by simp) (by simp) (fun j hj => by match j, hj with
      | 0, _ => rfl
      | 1, _ => rfl
      | j + 2, hj => exact absurd hj (by simp))) ?_
      exact (decide_eq_false fun e => hne ((sub_eq ha hb).1 e k hk)).symm
  · refine FnOk.toSb (FnOk.run (out := { val := .bool false }) g1_ok (rn_len la lb oa ob na nb) (by simp only [allC_cons, allC_nil, and_true]; exact ⟨fnb, fna, by rw [decide_eq_false (show ¬ (na : Int) = (nb : Int) by omega)]; rfl⟩) (by simp [upto]) rfl (by simp) (by simp) (fun j hj => by match j, hj with
      | 0, _ => rfl
      | 1, _ => rfl
      | j + 2, hj => exact absurd hj (by simp))) ?_
    exact (decide_eq_false fun e => hn (by have := congrArg List.length e; rwa [sub_length ha, sub_length hb] at this)).symm

theorem eq_len (la lb : List (List Int)) (oa ob na nb : Nat) : runF g1 200 [.br true] 35 [.sl 0 0 oa 2 0 na false, .sl 1 0 ob 2 0 nb false] [.rows [.i64, .i64] la, .rows [.i64, .i64] lb] [] =
    some (SV.bool false, [some (Body.rows [IntKind.i64, IntKind.i64] la), some (Body.rows [IntKind.i64, IntKind.i64] lb)], [Fits IntKind.i64 (↑nb : Int), Fits IntKind.i64 (↑na : Int), (!decide ((↑na : Int) = (↑nb : Int))) = true]) := by kernel_rfl
theorem eq_yes (la lb : List (List Int)) (oa ob na nb : Nat) : runF g1 200 [.br false, .loop 4 eqKeep 2 (.exit 0) (mkLoopN (eqG [] eqQ))] 35 [.sl 0 0 oa 2 0 na false, .sl 1 0 ob 2 0 nb false] [.rows [.i64, .i64] la, .rows [.i64, .i64] lb] [] =
    some (SV.bool true, [some (Body.rows [IntKind.i64, IntKind.i64] la), some (Body.rows [IntKind.i64, IntKind.i64] lb)], [Fits IntKind.i64 (↑nb : Int), Fits IntKind.i64 (↑na : Int), (!decide ((↑na : Int) = (↑nb : Int))) = false, Fits IntKind.i64 (↑na : Int), LoopGood g1 26 (.loop eqBody) eqKeep 2 (.exit 0) (mkLoopN (eqG [] eqQ)), nb = na ∧ Fits IntKind.i64 (↑na : Int) ∧ oa + na ≤ la.length ∧ ob + na ≤ lb.length ∧ (∀ (r : List Int), r ∈ la → r.length = (2 : Nat)) ∧ (∀ (r : List Int), r ∈ lb → r.length = (2 : Nat)) ∧ ∀ (i : Nat), i < na → la.getD (oa + i) [] = lb.getD (ob + i) [], (↑na : Int) = (↑na : Int)]) := by kernel_rfl
theorem eq_not (la lb : List (List Int)) (oa ob na nb : Nat) : runF g1 200 [.br false, .loop 4 eqKeep 2 .ret (mkLoopN (eqG [(4, .bool false)] eqR))] 35 [.sl 0 0 oa 2 0 na false, .sl 1 0 ob 2 0 nb false] [.rows [.i64, .i64] la, .rows [.i64, .i64] lb] [] =
    some (SV.bool false, [some (Body.rows [IntKind.i64, IntKind.i64] la), some (Body.rows [IntKind.i64, IntKind.i64] lb)], [Fits IntKind.i64 (↑nb : Int), Fits IntKind.i64 (↑na : Int), (!decide ((↑na : Int) = (↑nb : Int))) = false, Fits IntKind.i64 (↑na : Int), LoopGood g1 26 (.loop eqBody) eqKeep 2 .ret (mkLoopN (eqG [(4, .bool false)] eqR)), nb = na ∧ Fits IntKind.i64 (↑na : Int) ∧ oa + na ≤ la.length ∧ ob + na ≤ lb.length ∧ (∀ (r : List Int), r ∈ la → r.length = (2 : Nat)) ∧ (∀ (r : List Int), r ∈ lb → r.length = (2 : Nat)) ∧ ∃ k, k < na ∧ (∀ (i : Nat), i < k → la.getD (oa + i) [] = lb.getD (ob + i) []) ∧ la.getD (oa + k) [] ≠ lb.getD (ob + k) [], (↑na : Int) = (↑na : Int)]) := by kernel_rfl
theorem eq_acc : Acc g1 35 (scanF [.i64, .i64]) := scan_acc fun la lb oa ob na nb ha hb hla hlb ra rb => by
  have fna : Fits .i64 (na : Int) := fits_small (by omega)
  have fnb : Fits .i64 (nb : Int) := fits_small (by omega)
  by_cases hn : na = nb
  · subst hn
    rcases first_not (p := fun i => la.getD (oa + i) [] = lb.getD (ob + i) []) na with hq | ⟨k, hk, hq, hne⟩
    · refine FnOk.toSb (FnOk.run (out := { val := .bool true }) g1_ok (eq_yes la lb oa ob na na) (by simp only [allC_cons, allC_nil, and_true]; exact ⟨fna, fna, by simp, fna, eq_all, ⟨trivial, fna, ha, hb, ra, rb, hq⟩⟩) (by simp [upto]) rfl (by simp) (by simp) (fun j hj => by match j, hj with
      | 0, _ => rfl
      | 1, _ => rfl
      | j + 2, hj => exact absurd hj (by simp))) ?_
      exact (decide_eq_true ((sub_eq ha hb).2 hq)).symm
    · refine FnOk.toSb (FnOk.run (out := { val := .bool false }) g1_ok (eq_not la lb oa ob na na) (by simp only [allC_cons, allC_nil, and_true]; exact ⟨fna, fna, by simp, fna, eq_diff, ⟨trivial, fna, ha, hb, ra, rb, k, hk, hq, hne⟩⟩) (by simp [upto]) rfl (by simp) (by simp) (fun j hj => by match j, hj with
      | 0, _ => rfl
      | 1, _ => rfl
      | j + 2, hj => exact absurd hj (by simp))) ?_
      exact (decide_eq_false fun e => hne ((sub_eq ha hb).1 e k hk)).symm
  · refine FnOk.toSb (FnOk.run (out := { val := .bool false }) g1_ok (eq_len la lb oa ob na nb) (by simp only [allC_cons, allC_nil, and_true]; exact ⟨fnb, fna, by rw [decide_eq_false (show ¬ (na : Int) = (nb : Int) by omega)]; rfl⟩) (by simp [upto]) rfl (by simp) (by simp) (fun j hj => by match j, hj with
      | 0, _ => rfl
      | 1, _ => rfl
      | j + 2, hj => exact absurd hj (by simp))) ?_
    exact (decide_eq_false fun e => hn (by have := congrArg List.length e; rwa [sub_length ha, sub_length hb] at this)).symm
end Go.Proofs.Ytkpkdingeomhnaa
