/- Accounts of this seat's functions: lemmas, no statement of their own. No conditions. -/
import Derived.Test.YtejcjdhplpjpjaaV5
import Derived.Test.YtejcjdhplpjpjaaProg
import Derived.RangeFuncBox
import Derived.Shelf.Abstract
import Derived.OwnWalkIn
import Derived.TacticsInMore
import Derived.LoopNIn
import Derived.LoopIn
namespace Go.Proofs.Ytejcjdhplpjpjaa
open Go Go.Vx

noncomputable def g0 : Ctx := { P := Try.prog, sum := fun _ => none, glob := fun _ => none }
theorem mixed : Try.prog.follows .mixedOrders = true := by kernel_rfl
theorem names : Try.prog.funcs.all (fun fn => !(fn.name == "runtime.NumGoroutine") || fn.body.isNone) = true := by kernel_rfl
theorem noGo (f : FuncId) (fn : Func) (c : Code) (h : Try.prog.funcs[f]? = some fn) (hb : fn.body = some c) : (fn.name == "runtime.NumGoroutine") = false := by
  have := Array.all_eq_true'.1 names fn (Array.mem_of_getElem? h)
  rw [hb] at this
  simpa using this
theorem g0_ok : CtxU g0 := CtxU.mk (fun f σ h => by simp [g0] at h) mixed noGo
theorem get_ok {f : FuncId} (h : (Try.prog.funcs[f]?).isSome = true) : Try.prog.funcs[f]? = some ((Try.prog.funcs[f]?).getD default) := by
  obtain ⟨x, hx⟩ := Option.isSome_iff_exists.1 h
  rw [hx]; rfl
theorem acc63 : Acc g0 63 loadF := fun args B out h hC =>
  load_ok (g := g0) (get_ok (f := 63) (by kernel_rfl)) (by kernel_rfl) (by kernel_rfl) (by kernel_rfl) (by kernel_rfl) args B out h hC
theorem acc74 : Acc g0 74 addF := fun args B out h hC =>
  add_ok (g := g0) (get_ok (f := 74) (by kernel_rfl)) (by kernel_rfl) (by kernel_rfl) (by kernel_rfl) (by kernel_rfl) args B out h hC
noncomputable abbrev gx : Ctx := g0.add [(63, loadF), (74, addF)]
theorem gx_ok : CtxU gx := g0_ok.add mixed noGo (by
  intro x hx
  simp only [List.mem_cons, List.not_mem_nil, or_false] at hx
  rcases hx with rfl | rfl
  · exact acc63
  · exact acc74)
theorem acc55 : Acc gx 55 logF := logF_ok gx_ok (fun k v n l => by kernel_rfl) (fun k v => by kernel_rfl)
theorem acc69 : Acc gx 69 opF := opF_ok gx_ok (fun k n l => by kernel_rfl) (fun k => by kernel_rfl)
theorem acc19 : Acc gx 19 newF := newF_ok gx_ok (by kernel_rfl)
theorem acc20 : Acc gx 20 totalF := totalF_ok gx_ok (fun n l => by kernel_rfl) (by kernel_rfl)
theorem acc36 : Acc gx 36 ifF := ifF_ok gx_ok (fun b n l => by cases b <;> kernel_rfl) (fun b => by cases b <;> kernel_rfl)
theorem acc37 : Acc gx 37 atF := atF_ok gx_ok (fun k n l => by kernel_rfl) (fun k => by kernel_rfl)
end Go.Proofs.Ytejcjdhplpjpjaa

namespace Go.Proofs.Ytejcjdhplpjpjaa
open Go Go.Vx Go.RowKit Go.Shelf
section
attribute [local go_sem] Oper.semAt_some

set_option maxRecDepth 100000 in
set_option maxHeartbeats 2000000 in
theorem since_has (bR oR bN oN b base b1 o1 cap : Nat) (xs : List (List Int)) (hfit : xs.length ≤ 9223372036854775807) :
    IterOk Try.prog 65 #[.pointer (some ⟨bR, oR, none⟩), .pointer (some ⟨bN, oN, none⟩)] evV xs (LogK bR oR bN oN b base b1 o1 cap xs) := by
  intro l J hK hY W h0
  have hk0 := hK _ _ h0
  refine callsIn_of_wp Try.func65 rfl trivial ?_ rfl
  simp only [Try.ntmps65, List.size_toArray, List.length_cons, List.length_nil, Nat.reduceAdd, Nat.reduceSub, Array.replicate_succ, Array.replicate_zero, List.push_toArray, List.append_toArray, List.nil_append, List.cons_append]
  have hr := hk0.r
  have hn := hk0.n
  have hs := hk0.s
  gi_wp2
  gi_loopw [5] (fun i wr => ∃ k : Nat, k ≤ xs.length ∧ i = .int .i64 k ∧ J (xs.take k) wr)
    (fun i _ => xs.length - (intOf i).toNat)
  case atStart => exact ⟨0, Nat.zero_le _, rfl, h0⟩
  case round =>
    obtain ⟨k, hk, rfl, hJs⟩ := hrel
    have hkk := hK _ _ hJs
    by_cases hlt : k < xs.length
    · have hx : xs = xs.take k ++ xs.getD k [] :: xs.drop (k + 1) := by
        conv => lhs; rw [← List.take_append_drop k xs, List.drop_eq_getElem_cons hlt]
        simp [hlt]
      obtain ⟨fn, tmps, assign, body, hy, hR⟩ := hY _ _ _ wr hx hJs
      have e0 := hkk.c0 k hlt
      have e1 := hkk.c1 k hlt
      unfold evV at hy
      clear hx
      generalize (xs.getD k []).getD 0 0 = v0 at hy e0
      generalize (xs.getD k []).getD 1 0 = v1 at hy e1
      gi_wp2
      refine ⟨rfl, hR.mono ?_⟩
      rintro e W3 ⟨rfl, hJ3⟩
      gi_wp2
      go_roundw
      case rel => exact ⟨k + 1, by omega, by simp, by rw [List.take_add_one]; simpa [hlt] using hJ3⟩
      case measure => simp [intOf]; omega
    · obtain rfl : k = xs.length := by omega
      gi_wp2
      go_end0
      exact ⟨⟨_, rfl⟩, by simpa using hJs⟩

set_option maxRecDepth 100000 in
set_option maxHeartbeats 2000000 in
theorem since_non (bR oR bN oN b base : Nat) :
    IterOk Try.prog 65 #[.pointer (some ⟨bR, oR, none⟩), .pointer (some ⟨bN, oN, none⟩)] evV [] (LogN bR oR bN oN b base) := by
  intro l J hK hY W h0
  have hk0 := hK _ _ h0
  refine callsIn_of_wp Try.func65 rfl trivial ?_ rfl
  simp only [Try.ntmps65, List.size_toArray, List.length_cons, List.length_nil, Nat.reduceAdd, Nat.reduceSub, Array.replicate_succ, Array.replicate_zero, List.push_toArray, List.append_toArray, List.nil_append, List.cons_append]
  have hr := hk0.r
  have hn := hk0.n
  have hs := hk0.s
  gi_wp2
  gi_loopw [5] (fun i wr => i = .int .i64 0 ∧ J [] wr) (fun _ _ => 0)
  case atStart => exact ⟨rfl, h0⟩
  case round =>
    obtain ⟨rfl, hJs⟩ := hrel
    gi_wp2
    go_end0
    exact ⟨⟨_, rfl⟩, hJs⟩
end

theorem since_ok : SinceOk Try.prog 65 := ⟨since_has, since_non⟩
noncomputable def evParts : RParts := rparts Try.f26.body
theorem events_acc (l : List (List Int)) (hl : l.length * 16 ≤ 2 ^ 47) : FnOk gx 26 [.ptr 0 0] [.log l] { val := .own 1, new := [.rows [.i64, .i64] l], C := [l.length * 16 ≤ 2 ^ 47] } :=
  events_ok (g := gx) gx_ok (f := 26) (gf := 65) (fn := Try.f26) (r := evParts) (m := 60) Try.func26 (by kernel_rfl) (by kernel_rfl) (by kernel_rfl) (by kernel_rfl) (by kernel_rfl) (by kernel_rfl)
    (enters_of Try.func65 (by kernel_rfl) rfl) since_ok (by constructor <;> kernel_rfl) hl
    (fun n => by kernel_rfl) (fun n pre a b => by kernel_rfl) (fun n pre => by kernel_rfl)
end Go.Proofs.Ytejcjdhplpjpjaa

namespace Go.Proofs.Ytejcjdhplpjpjaa
open Go Go.Vx

def eventsF : SumF := fun args B => match args, B with
  | [.ptr 0 0], [.log l] => some { val := .own 1, new := [.rows [.i64, .i64] l], C := [l.length * 16 ≤ 2 ^ 47] }
  | _, _ => none
theorem acc26 : Acc gx 26 eventsF := by
  intro args B out h hC
  unfold eventsF at h
  split at h
  · simp only [Option.some.injEq] at h; subst h
    exact events_acc _ (hC _ (by simp))
  · simp at h
noncomputable abbrev g1 : Ctx := gx.add [(69, opF), (19, newF), (20, totalF), (36, ifF), (37, atF), (26, eventsF)]
theorem g1_ok : CtxU g1 := gx_ok.add mixed noGo (by
  intro x hx
  simp only [List.mem_cons, List.not_mem_nil, or_false] at hx
  rcases hx with rfl | rfl | rfl | rfl | rfl | rfl
  · exact acc69
  · exact acc19
  · exact acc20
  · exact acc36
  · exact acc37
  · exact acc26)
end Go.Proofs.Ytejcjdhplpjpjaa

namespace Go.Proofs.Ytejcjdhplpjpjaa
open Go Go.Vx
theorem accA : Acc g0 60 add64F :=
  add64_ok (g := g0) (get_ok (f := 60) (by kernel_rfl)) (by kernel_rfl) (by kernel_rfl) (by kernel_rfl) (by kernel_rfl)
/-! ### mask, prime -/
theorem pick_run (s a b : Nat) : runF g0 20 [] 75 [.int .u64 s, .int .u64 a, .int .u64 b] [] [] = some (.int .u64 (Int.ofNat (pickE s a b)), [], []) := by kernel_rfl
theorem settled_run (la : List Int) : runF g0 200 [] 66 [.agg (svF (List.replicate 5 .u64) (atL la) 0)] [] [] = some (.agg (svF (List.replicate 5 .u64) (settledN la) 0), [], []) := by kernel_rfl
theorem word_run (a b c d : Int) : runF g0 200 [] 67 [.int .u8 a, .int .u8 b, .int .u8 c, .int .u8 d] [] [] = some (.int .u64 (wordE a b c d), [], []) := by kernel_rfl
def F39 : SumF := fun args B => match args, B with
  | [.int .u8 a, .int .u8 b, .int .u8 c, .int .u8 d], [] => some { val := .int .u64 (wordE a b c d) }
  | _, _ => none
def F41 : SumF := fun args B => match args, B with
  | [.int .u64 s, .int .u64 a, .int .u64 b], [] => some { val := .int .u64 (if s % 2 = 1 then a else b) }
  | _, _ => none
/-- Add and Mul -/
def binF (op : Int) (f : List Int → List Int → Nat → Int) : SumF := fun args B => match args, B with
  | [.raw (.pointer none), .agg xs, .agg ys], [] => match numsAs (List.replicate 5 .u64) xs, numsAs (List.replicate 5 .u64) ys with
    | some la, some lb => some { val := .agg (svF (List.replicate 5 .u64) (f la lb) 0) }
    | _, _ => none
  | [.ptr 0 0, .agg xs, .agg ys], [.log l] => match numsAs (List.replicate 5 .u64) xs, numsAs (List.replicate 5 .u64) ys with
    | some la, some lb => some { val := .agg (svF (List.replicate 5 .u64) (f la lb) 0), upd := [(0, some (.log (l ++ [[3, op]])))], C := [l.length < 1099511627776] }
    | _, _ => none
  | _, _ => none
theorem bin_ok {g : Ctx} (hU : CtxU g) {op : Int} {f : List Int → List Int → Nat → Int} {fn : FuncId}
    (hrun : ∀ la lb : List Int, ∃ m, runF g m [] fn [.raw (.pointer none), .agg (svF (List.replicate 5 .u64) (atL la) 0), .agg (svF (List.replicate 5 .u64) (atL lb) 0)] [] [] = some (.agg (svF (List.replicate 5 .u64) (f la lb) 0), [], []))
    (hlog : ∀ (la lb : List Int) (l : List (List Int)), ∃ m, runF g m [] fn [.ptr 0 0, .agg (svF (List.replicate 5 .u64) (atL la) 0), .agg (svF (List.replicate 5 .u64) (atL lb) 0)] [.log l] [] = some (.agg (svF (List.replicate 5 .u64) (f la lb) 0), [some (.log (l ++ [[3, op]]))], [l.length < 1099511627776])) : Acc g fn (binF op f) := by
  intro args B out h hC
  unfold binF at h
  split at h
  · split at h
    · rename_i la lb ha hb
      simp only [Option.some.injEq] at h; subst h
      obtain ⟨m, hm⟩ := hrun la lb
      exact FnOk.imp (FnOk.pure hU hm (by simp [AllC])) ⟨DenImp.refl _, nums_imp ha, nums_imp hb, trivial⟩
    · simp at h
  · split at h
    · rename_i l _ _ la lb ha hb
      simp only [Option.some.injEq] at h; subst h
      obtain ⟨m, hm⟩ := hlog la lb l
      exact FnOk.imp (FnOk.run (out := { val := .agg (svF (List.replicate 5 .u64) (f la lb) 0), upd := [(0, some (.log (l ++ [[3, op]])))], C := [l.length < 1099511627776] }) hU hm hC (by simp [upto]) rfl (by simp) (by simp) (fun j hj => by
        match j, hj with
        | 0, _ => rfl)) ⟨DenImp.refl _, nums_imp ha, nums_imp hb, trivial⟩
    · simp at h
  · simp at h
theorem ok41 : Acc g0 75 F41 := by
  intro args B out h _
  unfold F41 at h
  split at h
  · simp only [Option.some.injEq] at h; subst h
    refine FnOk.facts fun ⟨h0, h1, h2, _⟩ => ?_
    obtain ⟨s, rfl, hs⟩ := fits_u64 h0
    obtain ⟨x, rfl, hx⟩ := fits_u64 h1
    obtain ⟨y, rfl, hy⟩ := fits_u64 h2
    have e : Int.ofNat (pickE s x y) = if ((s : Nat) : Int) % 2 = 1 then (x : Int) else y := by
      rw [pickE_eq s hx hy]
      by_cases h : s % 2 = 1
      · have : (s : Int) % 2 = 1 := by omega
        simp [h, this]
      · have : ¬ ((s : Int) % 2 = 1) := by omega
        simp [h, this]
    rw [← e]
    exact FnOk.pure g0_ok (pick_run s x y) (by simp [AllC])
  · simp at h
theorem ok39 : Acc g0 67 F39 := by
  intro args B out h _
  unfold F39 at h
  split at h
  · simp only [Option.some.injEq] at h; subst h
    exact FnOk.pure g0_ok (word_run _ _ _ _) (by simp [AllC])
  · simp at h
theorem ok25 : Acc g0 66 (arrF 5 .u64 5 .u64 settledN) := arr_ok (fn := 66) g0_ok (fun la => ⟨_, settled_run la⟩)

noncomputable abbrev gp1 : Ctx := g1.add [(66, arrF 5 .u64 5 .u64 settledN), (60, add64F), (67, F39), (75, F41)]
theorem gp1_ok : CtxU gp1 := g1_ok.add mixed noGo (by
  intro x hx
  simp only [List.mem_cons, List.not_mem_nil, or_false] at hx
  rcases hx with rfl | rfl | rfl | rfl
  · exact Acc.of rfl rfl ok25
  · exact Acc.of rfl rfl accA
  · exact Acc.of rfl rfl ok39
  · exact Acc.of rfl rfl ok41)
def blockN (lb : List Int) : Nat → Int := settledN (numL (atL lb))
def addN (la lb : List Int) : Nat → Int := settledN (addL (atL la) (atL lb))
def mulN (la lb : List Int) : Nat → Int := settledN (mulL (atL la) (atL lb))
def clampL (f : Nat → Int) : List Int := [f 0, f 1, f 2, umask (f 3) 15, uand (f 4) 252, f 5, f 6, umask (f 7) 15, uand (f 8) 252, f 9, f 10, umask (f 11) 15, uand (f 12) 252, f 13, f 14, umask (f 15) 15, 0]
def clampN (la : List Int) : Nat → Int := blockN (clampL (atL la))
theorem block_run (lb : List Int) : runF gp1 200 [] 58 [.agg (svF (List.replicate 17 .u8) (atL lb) 0)] [] [] = some (.agg (svF (List.replicate 5 .u64) (blockN lb) 0), [], []) := by kernel_rfl
theorem clamp_run (la : List Int) : runF gp1 200 [] 35 [.agg (svF (List.replicate 16 .u8) (atL la) 0)] [] [] = some (.agg (svF (List.replicate 5 .u64) (clampN la) 0), [], []) := by kernel_rfl
theorem add_run (la lb : List Int) : runF gp1 200 [] 57 [.raw (.pointer none), .agg (svF (List.replicate 5 .u64) (atL la) 0), .agg (svF (List.replicate 5 .u64) (atL lb) 0)] [] [] = some (.agg (svF (List.replicate 5 .u64) (addN la lb) 0), [], []) := by kernel_rfl
theorem mul_run (la lb : List Int) : runF gp1 200 [] 56 [.raw (.pointer none), .agg (svF (List.replicate 5 .u64) (atL la) 0), .agg (svF (List.replicate 5 .u64) (atL lb) 0)] [] [] = some (.agg (svF (List.replicate 5 .u64) (mulN la lb) 0), [], []) := by kernel_rfl
theorem least_run (la : List Int) : runF gp1 200 [] 70 [.agg (svF (List.replicate 5 .u64) (atL la) 0)] [] [] = some (.agg (svF (List.replicate 5 .u64) (leastN la) 0), [], []) := by kernel_rfl
theorem ok26 : Acc gp1 70 (arrF 5 .u64 5 .u64 leastN) := arr_ok (fn := 70) gp1_ok (fun la => ⟨_, least_run la⟩)
theorem ok11 : Acc gp1 58 (arrF 17 .u8 5 .u64 blockN) := arr_ok (fn := 58) gp1_ok (fun la => ⟨_, block_run la⟩)
theorem ok19 : Acc gp1 35 (arrF 16 .u8 5 .u64 clampN) := arr_ok (fn := 35) gp1_ok (fun la => ⟨_, clamp_run la⟩)
theorem add_log (la lb : List Int) (l : List (List Int)) : runF gp1 200 [] 57 [.ptr 0 0, .agg (svF (List.replicate 5 .u64) (atL la) 0), .agg (svF (List.replicate 5 .u64) (atL lb) 0)] [.log l] [] = some (.agg (svF (List.replicate 5 .u64) (addN la lb) 0), [some (.log (l ++ [[3, 11]]))], [l.length < 1099511627776]) := by kernel_rfl
theorem mul_log (la lb : List Int) (l : List (List Int)) : runF gp1 200 [] 56 [.ptr 0 0, .agg (svF (List.replicate 5 .u64) (atL la) 0), .agg (svF (List.replicate 5 .u64) (atL lb) 0)] [.log l] [] = some (.agg (svF (List.replicate 5 .u64) (mulN la lb) 0), [some (.log (l ++ [[3, 12]]))], [l.length < 1099511627776]) := by kernel_rfl
theorem ok12 : Acc gp1 57 (binF 11 addN) := bin_ok (fn := 57) gp1_ok (fun la lb => ⟨_, add_run la lb⟩) (fun la lb l => ⟨_, add_log la lb l⟩)
theorem ok14 : Acc gp1 56 (binF 12 mulN) := bin_ok (fn := 56) gp1_ok (fun la lb => ⟨_, mul_run la lb⟩) (fun la lb l => ⟨_, mul_log la lb l⟩)
noncomputable abbrev gp2 : Ctx := gp1.add [(70, arrF 5 .u64 5 .u64 leastN)]
theorem gp2_ok : CtxU gp2 := gp1_ok.add mixed noGo (by
  intro x hx
  simp only [List.mem_cons, List.not_mem_nil, or_false] at hx
  rcases hx with rfl
  exact ok26)
theorem bytes_run (la : List Int) : runF gp2 200 [] 59 [.agg (svF (List.replicate 5 .u64) (atL la) 0)] [] [] = some (.agg (svF (List.replicate 17 .u8) (bytesN la) 0), [], []) := by kernel_rfl
theorem ok13 : Acc gp2 59 (arrF 5 .u64 17 .u8 bytesN) := arr_ok (fn := 59) gp2_ok (fun la => ⟨_, bytes_run la⟩)
noncomputable abbrev gp3 : Ctx := gp2.add [(58, arrF 17 .u8 5 .u64 blockN), (57, binF 11 addN), (59, arrF 5 .u64 17 .u8 bytesN), (56, binF 12 mulN), (35, arrF 16 .u8 5 .u64 clampN)]
theorem gp3_ok : CtxU gp3 := gp2_ok.add mixed noGo (by
  intro x hx
  simp only [List.mem_cons, List.not_mem_nil, or_false] at hx
  rcases hx with rfl | rfl | rfl | rfl | rfl
  · exact Acc.of rfl rfl ok11
  · exact Acc.of rfl rfl ok12
  · exact ok13
  · exact Acc.of rfl rfl ok14
  · exact Acc.of rfl rfl ok19)
def F18 : SumF := fun args B => match args, B with
  | [.agg xs, .agg ys], [] => match numsAs (List.replicate 5 .u64) xs, numsAs (List.replicate 16 .u8) ys with
    | some la, some lb => some { val := .agg (svF (List.replicate 16 .u8) (sumN la lb) 0) }
    | _, _ => none
  | _, _ => none
theorem sum_run (a b : Nat → Int) : runF gp3 400 [] 40 [.agg (svF (List.replicate 5 .u64) a 0), .agg (svF (List.replicate 16 .u8) b 0)] [] [] =
    some (.agg (svF (List.replicate 16 .u8) (sumN (listF 5 a 0) (listF 16 b 0)) 0), [], [(0 : Int).toNat ≤ 1, (adcC (word8 (bytesN (listF 5 a 0)) 0) (word8 (atL (listF 16 b 0)) 0) 0).toNat ≤ 1]) := by kernel_rfl
theorem facts8 {n : Nat} {a : Nat → Int} (h : factsL (svF (List.replicate n .u8) a 0)) (j : Nat) (hj : j < n) : Byte (a j) := by
  have := facts_svF h j .u8 (rep_get hj)
  rw [Nat.zero_add] at this
  obtain ⟨m, e, hm⟩ := fits_u8 this
  rw [e]; unfold Byte; omega
theorem atL_listF {n : Nat} {a : Nat → Int} {j : Nat} (hj : j < n) : atL (listF n a 0) j = a j := by
  unfold atL
  rw [List.getD_eq_getElem?_getD, listF_get, if_pos hj, Nat.zero_add]; rfl
theorem ok18 : Acc gp3 40 F18 := by
  intro args B out h _
  unfold F18 at h
  split at h
  · split at h
    · rename_i la lb ha hb
      simp only [Option.some.injEq] at h; subst h
      refine FnOk.imp (args' := [.agg (svF (List.replicate 5 .u64) (atL la) 0), .agg (svF (List.replicate 16 .u8) (atL lb) 0)]) ?_ ⟨nums_imp ha, nums_imp hb, trivial⟩
      refine FnOk.facts fun ⟨_, h2, _⟩ => ?_
      have hrun := sum_run (atL la) (atL lb)
      have e1 := nums_list ha
      have e2 := nums_list hb
      simp only [List.length_replicate] at e1 e2
      rw [← e1, ← e2] at hrun
      refine FnOk.pure gp3_ok hrun ?_
      rw [allC_cons, allC_cons, allC_nil]
      refine ⟨by decide, carry_le (fun j _ => bytesN_byte _ _) (fun j hj => ?_), trivial⟩
      rw [Nat.zero_add]
      exact facts8 h2 j (by omega)
    · simp at h
  · simp at h
noncomputable abbrev gp : Ctx := gp3.add [(40, F18)]
theorem gp_ok : CtxU gp := gp3_ok.add mixed noGo (by
  intro x hx
  simp only [List.mem_cons, List.not_mem_nil, or_false] at hx
  rcases hx with rfl
  exact ok18)
/-! ### what the limbs are -/
abbrev L5 (f : Nat → Int) : List Int := listF 5 f 0
abbrev BS (x : List Int) : List Int := listF 17 (bytesN x) 0
/-- limbs of n -/
def Is (x : List Int) (n : Int) : Prop := Sett x ∧ V5 (atL x) % P5 = n % P5
theorem sub_mod (n q : Int) : (n - P5 * q) % P5 = n % P5 := Int.sub_mul_emod_self_left n P5 q
theorem is_block {l : List Int} (h : ∀ i, i < 17 → Byte (atL l i)) : Is (L5 (blockN l)) (leN 17 (atL l) 0) := by
  obtain ⟨h1, h2⟩ := numL_spec h
  obtain ⟨h3, q, h4⟩ := settled_spec h1
  refine ⟨h3, ?_⟩
  show V5 (settledN (numL (atL l))) % P5 = _
  rw [h4, sub_mod, h2]
theorem is_add {x y : List Int} {n m : Int} (hx : Is x n) (hy : Is y m) : Is (L5 (addN x y)) (n + m) := by
  obtain ⟨h1, h2⟩ := add_spec hx.1 hy.1
  obtain ⟨h3, q, h4⟩ := settled_spec h1
  refine ⟨h3, ?_⟩
  show V5 (settledN (addL (atL x) (atL y))) % P5 = _
  rw [h4, sub_mod, h2, Int.add_emod, hx.2, hy.2, ← Int.add_emod]
theorem is_mul {x y : List Int} {n m : Int} (hx : Is x n) (hy : Is y m) : Is (L5 (mulN x y)) (n * m) := by
  obtain ⟨h1, q', h2⟩ := mul_spec hx.1 hy.1
  obtain ⟨h3, q, h4⟩ := settled_spec h1
  refine ⟨h3, ?_⟩
  show V5 (settledN (mulL (atL x) (atL y))) % P5 = _
  rw [h4, sub_mod, h2, sub_mod, Int.mul_emod, hx.2, hy.2, ← Int.mul_emod]
theorem bytes_eq {x : List Int} {n : Int} (hx : Is x n) : BS x = listF 17 (byteN (n % P5)) 0 := by
  rw [← hx.2]; exact bytesN_spec hx.1
theorem eq_of {x y : List Int} {n m : Int} (hx : Is x n) (hy : Is y m) (h : n = m) : BS x = BS y := by
  rw [bytes_eq hx, bytes_eq hy, h]

theorem umask_byte {x : Int} (h : Byte x) (m : Nat) (hm : m < 256) : Byte (umask x (m : Int)) := by
  unfold Byte at *
  rw [umaskE x m h.1]
  have h1 := Int.emod_nonneg x (b := ((m + 1 : Nat) : Int)) (by omega)
  have h2 := Int.emod_lt_of_pos x (b := ((m + 1 : Nat) : Int)) (by omega)
  omega
theorem uand_byte {x : Int} (h : Byte x) (y : Int) : Byte (uand x y) := by
  unfold Byte at *
  obtain ⟨n, rfl⟩ := Int.eq_ofNat_of_zero_le h.1
  unfold uand
  have : ((n : Int).toNat &&& y.toNat) ≤ n := Nat.and_le_left
  simp only [Int.toNat_natCast, Int.ofNat_eq_natCast] at *
  omega
theorem clamp_bytes {f : Nat → Int} (h : ∀ i, i < 16 → Byte (f i)) : ∀ i, i < 17 → Byte (atL (clampL f) i) := by
  intro i hi
  match i, hi with
  | 0, _ => exact h 0 (by decide)
  | 1, _ => exact h 1 (by decide)
  | 2, _ => exact h 2 (by decide)
  | 3, _ => exact umask_byte (h 3 (by decide)) 15 (by decide)
  | 4, _ => exact uand_byte (h 4 (by decide)) 252
  | 5, _ => exact h 5 (by decide)
  | 6, _ => exact h 6 (by decide)
  | 7, _ => exact umask_byte (h 7 (by decide)) 15 (by decide)
  | 8, _ => exact uand_byte (h 8 (by decide)) 252
  | 9, _ => exact h 9 (by decide)
  | 10, _ => exact h 10 (by decide)
  | 11, _ => exact umask_byte (h 11 (by decide)) 15 (by decide)
  | 12, _ => exact uand_byte (h 12 (by decide)) 252
  | 13, _ => exact h 13 (by decide)
  | 14, _ => exact h 14 (by decide)
  | 15, _ => exact umask_byte (h 15 (by decide)) 15 (by decide)
  | 16, _ => exact show Byte 0 from ⟨by decide, by decide⟩
  | i + 17, h => exact absurd h (by omega)
theorem clamp_lt {f : Nat → Int} (h : ∀ i, i < 16 → Byte (f i)) : 0 ≤ leN 17 (atL (clampL f)) 0 ∧ leN 17 (atL (clampL f)) 0 < P5 := by
  have hb := clamp_bytes h
  have e := leN_add 16 1 (atL (clampL f)) 0
  have h1 := leN_nonneg 16 (f := atL (clampL f)) 0 (fun j hj => by rw [Nat.zero_add]; exact hb j (by omega))
  have e2 : leN 1 (atL (clampL f)) (0 + 16) = 0 := rfl
  rw [e2, Int.mul_zero, Int.add_zero] at e
  have e3 : ((256 ^ 16 : Nat) : Int) = 340282366920938463463374607431768211456 := rfl
  rw [e3] at h1
  rw [show (17 : Nat) = 16 + 1 from rfl, e]
  unfold P5
  omega
theorem bytesN_at {x : List Int} {n : Int} (hx : Is x n) {i : Nat} (hi : i < 17) : bytesN x i = byteN (n % P5) i := by
  have h := bytes_eq hx
  rw [listF_eq0] at h
  exact h i hi
theorem sumN_eq {x l : List Int} (hl : ∀ j, j < 16 → Byte (atL l j)) : listF 16 (sumN x l) 0 = listF 16 (byteN (leN 16 (bytesN x) 0 + leN 16 (atL l) 0)) 0 := by
  rw [← sum_spec (fun j _ => bytesN_byte x j) hl]
  rfl
end Go.Proofs.Ytejcjdhplpjpjaa

namespace Go.Proofs.Ytejcjdhplpjpjaa
open Go Go.Vx
theorem r3_parts4 {α β γ δ : Type} {x : Option (α × β × γ × δ)} {a : α} {b : β} {c : γ} {d : δ} (h1 : x.map (·.1) = some a) (h2 : x.map (·.2.1) = some b) (h3 : x.map (·.2.2.1) = some c) (h4 : x.map (·.2.2.2) = some d) : x = some (a, b, c, d) := by
  cases x with
  | none => simp at h1
  | some y =>
    obtain ⟨y1, y2, y3, y4⟩ := y
    simp only [Option.map_some, Option.some.injEq] at h1 h2 h3 h4
    rw [h1, h2, h3, h4]
/-! ### the document's numbers modulo 2^130 - 5: digit -/
theorem dg_run1 (n : Nat) (l : List Int) (i : Int) : runF gp 100 [.br true] 73 [.sl 0 0 0 1 0 n false, .int .i64 i] [.ints .i64 l] [] =
    some (SV.int IntKind.i64 (l.getD ((0 : Nat) + i.toNat + (0 : Nat)) (0 : Int)), [some (Body.ints IntKind.i64 l)], [Fits IntKind.i64 (↑n : Int), decide (i < (↑n : Int)) = true, (0 : Nat) + i.toNat + (0 : Nat) < l.length, (0 : Int) ≤ i ∧ i < (↑n : Int)]) := by kernel_rfl
theorem dg_run0 (n : Nat) (l : List Int) (i : Int) : runF gp 100 [.br false] 73 [.sl 0 0 0 1 0 n false, .int .i64 i] [.ints .i64 l] [] =
    some (SV.lit IntKind.i64 (0 : Int), [some (Body.ints IntKind.i64 l)], [Fits IntKind.i64 (↑n : Int), decide (i < (↑n : Int)) = false]) := by kernel_rfl
def dgF : SumF := fun args B => match args, B with
  | [x, .int .i64 i], [.ints K l] => match vwI 0 l x, sameK K .i64 with
    | some (0, n), true => some { val := .int .i64 (l.getD i.toNat 0), C := [n = l.length, 0 ≤ i, l.length ≤ 1000000] }
    | _, _ => none
  | _, _ => none
theorem dg_acc : Acc gp 73 dgF := by
  intro args B out h hC
  unfold dgF at h
  split at h
  · rename_i x i K l
    split at h
    · rename_i n hx hK
      obtain rfl := kidx_inj hK
      simp only [Option.some.injEq] at h; subst h
      simp only [allC_cons, allC_nil, and_true] at hC
      obtain ⟨rfl, h1, h2⟩ := hC
      have F1 : Fits .i64 (l.length : Int) := Go.Vx.fits_small (by omega)
      refine FnOk.argsH (args' := [.sl 0 0 0 1 0 l.length false, .int .i64 i]) ?_ (fun w0 O ρ Φ w vs x d => by
        simp only [DenT] at d ⊢
        obtain ⟨v1, r1, rfl, d1, v2, r2, rfl, d2, rfl⟩ := d
        exact ⟨_, _, rfl, vwI_den hx x rfl d1, _, _, rfl, d2, rfl⟩)
      by_cases hi : i < (l.length : Int)
      · have e : 0 + i.toNat + 0 = i.toNat := by omega
        have hr := dg_run1 l.length l i
        rw [e] at hr
        exact FnOk.val (FnOk.run (out := { val := .int .i64 (l.getD i.toNat 0) }) (new := []) gp_ok hr (by simp only [allC_cons, allC_nil, and_true]; exact ⟨F1, decide_eq_true hi, by omega, h1, hi⟩) (by simp [upto]) rfl (by simp) (by simp) (fun j hj => by match j, hj with | 0, _ => rfl)) (fun _ _ _ _ h => h)
      · have hr := dg_run0 l.length l i
        have e : l.getD i.toNat 0 = 0 := by rw [List.getD_eq_getElem?_getD, List.getElem?_eq_none (by omega)]; rfl
        rw [e]
        refine FnOk.val (FnOk.run (out := { val := .lit .i64 0 }) (new := []) gp_ok hr (by simp only [allC_cons, allC_nil, and_true]; exact ⟨F1, decide_eq_false hi⟩) (by simp [upto]) rfl (by simp) (by simp) (fun j hj => by match j, hj with | 0, _ => rfl)) (fun _ _ _ _ h => denV_norm h)
    · simp at h
  · simp at h
/-! ### carried -/
abbrev caKeep : List Nat := [0, 3, 4, 5]
noncomputable abbrev caBody : Code := bodyAt Try.prog 71 4
noncomputable abbrev caS (n : Nat) (c : Int) (i : Nat) : List (Nat × SV) := caKeep.zip [.sl 0 0 0 1 0 n false, .own 1, .int .i64 c, .int .i64 (i : Int)]
theorem ca_go (n i : Nat) (c : Int) (l o : List Int) : runC gp 200 35 [.br true] caBody (caS n c i) [.ints .i64 l, .ints .i64 o] caKeep [0, 3] =
    some (Ex.normal, [SV.sl (0 : Nat) (0 : Nat) (0 : Nat) (1 : Nat) (0 : Nat) n false, SV.own (1 : Nat), SV.int IntKind.i64 ((c + l.getD ((0 : Nat) + i + (0 : Nat)) (0 : Int)).tdiv (256 : Int)), SV.int IntKind.i64 ((↑i : Int) + (1 : Int))], [some (Body.ints IntKind.i64 l), some (Body.ints IntKind.i64 (o ++ [(c + l.getD ((0 : Nat) + i + (0 : Nat)) (0 : Int)).tmod (256 : Int)]))], [Fits IntKind.i64 (↑n : Int), decide ((↑i : Int) < (↑n : Int)) = true, Fits IntKind.i64 (c + l.getD ((0 : Nat) + i + (0 : Nat)) (0 : Int)), (0 : Nat) + i + (0 : Nat) < l.length, (0 : Int) ≤ (↑i : Int) ∧ (↑i : Int) < (↑n : Int), (o ++ [(c + l.getD ((0 : Nat) + i + (0 : Nat)) (0 : Int)).tmod (256 : Int)]).length * (8 : Nat) ≤ (140737488355328 : Nat), Fits IntKind.i64 ((↑i : Int) + (1 : Int))]) := by kernel_rfl
theorem ca_end (n i : Nat) (c : Int) (l o : List Int) : runC gp 200 35 [.br false] caBody (caS n c i) [.ints .i64 l, .ints .i64 o] caKeep [0, 1] =
    some (Ex.exit (0 : Nat), [SV.sl (0 : Nat) (0 : Nat) (0 : Nat) (1 : Nat) (0 : Nat) n false, SV.own (1 : Nat), SV.int IntKind.i64 c, SV.int IntKind.i64 (↑i : Int)], [some (Body.ints IntKind.i64 l), some (Body.ints IntKind.i64 o)], [Fits IntKind.i64 (↑n : Int), decide ((↑i : Int) < (↑n : Int)) = false]) := by kernel_rfl
def caG : LoopF := fun vals B => match vals, B with
  | [.sl 0 0 0 1 0 n false, .raw (.slice none 0 0), .int .i64 0, .int .i64 0], [.ints K l] => match sameK K .i64 with
    | true => some ([(3, .own 1), (4, .int .i64 (bcr (atL l) l.length))], [.ints .i64 l, .ints .i64 (cdP l l.length)], [n = l.length, l.length ≤ 1000000, ∀ j, j < l.length → 0 ≤ atL l j ∧ atL l j ≤ 1152921504606846976])
    | _ => none
  | _, _ => none
theorem b1 : ∀ j : Nat, j < 1 → ([0, 3] : List Nat)[j]? = some j := fun j hj => by
  match j, hj with
  | 0, _ => rfl
theorem b1' : ∀ j : Nat, j < 1 → ([0, 1] : List Nat)[j]? = some j := fun j hj => by
  match j, hj with
  | 0, _ => rfl
theorem ca_loop : LoopGood gp 35 (.loop caBody) caKeep 1 (.exit 0) (mkLoopN caG) := by
  refine LoopGood.mkN (by decide) fun vals B S' B' C hG hC hlen w0 O hgl => ?_
  clear hlen
  unfold caG at hG
  split at hG
  · rename_i n K l
    split at hG
    · rename_i hK
      obtain rfl := kidx_inj hK
      simp only [Option.some.injEq, Prod.mk.injEq] at hG
      obtain ⟨rfl, rfl, rfl⟩ := hG
      simp only [allC_cons, allC_nil, and_true] at hC
      obtain ⟨rfl, h1, h2⟩ := hC
      have F1 : Fits .i64 (l.length : Int) := Go.Vx.fits_small (by omega)
      have hb := bcr_bound (t := atL l) (n := l.length) (M := 1152921504606846976) (by decide) h2
      refine SimC.adoptS (.ints .i64 []) 3 rfl rfl (by simp) (by simp) ?_
      show SimC _ _ _ _ _ (caS l.length (bcr (atL l) 0) 0) [.ints .i64 l, .ints .i64 (cdP l 0)] _ _ _ _
      refine SimC.iter (g := gp) (e := .exit 0) (S := fun i => caS l.length (bcr (atL l) i) i) (B := fun i => [.ints .i64 l, .ints .i64 (cdP l i)]) (N := l.length) (fun i hi => ?_) ?_ (by simp) 0 (by omega)
      · have F4 : Fits .i64 ((i : Int) + 1) := fits_of (by omega) (by omega)
        have e0 : 0 + i + 0 = i := by omega
        have hr := ca_go l.length i (bcr (atL l) i) l (cdP l i)
        have hbi := hb i (by omega)
        have hli := h2 i hi
        have e1 : l.getD i 0 = atL l i := rfl
        rw [e0, e1, Int.tdiv_eq_ediv_of_nonneg (by omega), Int.tmod_eq_emod_of_nonneg (by omega), ← cdP_succ] at hr
        refine SimC.run (B' := [.ints .i64 l, .ints .i64 (cdP l (i + 1))]) gp_ok (by decide) hr ?_ (by decide) b1 (by decide) (by simp) hgl
        have hl : (cdP l (i + 1)).length = i + 1 := by simp [cdP]
        simp only [allC_cons, allC_nil, and_true]
        exact ⟨F1, decide_eq_true (by omega), fits_of (by omega) (by omega), hi, ⟨by omega, by omega⟩, by omega, F4⟩
      · exact SimC.weaken (SimC.run (B' := [.ints .i64 l, .ints .i64 (cdP l l.length)]) gp_ok (by decide) (ca_end l.length l.length _ l (cdP l l.length)) (by simp only [allC_cons, allC_nil, and_true]; exact ⟨F1, decide_eq_false (by omega)⟩) (by decide) b1' (by decide) (by simp) hgl) (sub_mkT (by simp; exact ⟨rfl, rfl⟩))
    · simp at hG
  · simp at hG
theorem ca_run (n : Nat) (l : List Int) : runF gp 300 [.loop 4 caKeep 1 (.exit 0) (mkLoopN caG), .br false] 71 [.sl 0 0 0 1 0 n false] [.ints .i64 l] [1] =
    some (.own 1, [some (.ints .i64 l), some (.ints .i64 (cdP l l.length))], [LoopGood gp 35 (.loop caBody) caKeep 1 (.exit 0) (mkLoopN caG), n = l.length, l.length ≤ 1000000, ∀ j, j < l.length → 0 ≤ atL l j ∧ atL l j ≤ 1152921504606846976, decide (0 < bcr (atL l) l.length) = false]) :=
  run_parts (by kernel_rfl) (by kernel_rfl) (by kernel_rfl)
noncomputable def caF : SumF := fun args B => match args, B with
  | [x], [.ints K l] => match vwI 0 l x, sameK K .i64 with
    | some (0, n), true => some { val := .own 1, new := [.ints .i64 (listF l.length (byteN (valL l)) 0)], C := [n = l.length, l.length ≤ 1000000, ∀ j, j < l.length → 0 ≤ atL l j ∧ atL l j ≤ 1152921504606846976, valL l < ((256 ^ l.length : Nat) : Int)] }
    | _, _ => none
  | _, _ => none
theorem ca_acc : Acc gp 71 caF := by
  intro args B out h hC
  unfold caF at h
  split at h
  · rename_i x K l
    split at h
    · rename_i n hx hK
      obtain rfl := kidx_inj hK
      simp only [Option.some.injEq] at h; subst h
      simp only [allC_cons, allC_nil, and_true] at hC
      obtain ⟨rfl, h1, h2, h3⟩ := hC
      have hp : 0 ≤ valL l := leN_pos l.length 0 fun j hj => by rw [Nat.zero_add]; exact (h2 j hj).1
      have hz : bcr (atL l) l.length = 0 := by rw [← bcr_end]; exact Int.ediv_eq_zero_of_lt hp h3
      have hL := ca_loop
      refine FnOk.argsH (args' := [.sl 0 0 0 1 0 l.length false]) ?_ (fun w0 O ρ Φ w vs x d => by
        simp only [DenT] at d ⊢
        obtain ⟨v1, r1, rfl, d1, rfl⟩ := d
        exact ⟨_, _, rfl, vwI_den hx x rfl d1, rfl⟩)
      have hr := ca_run l.length l
      rw [cdP_all] at hr
      exact FnOk.run (out := { val := .own 1, new := [.ints .i64 (listF l.length (byteN (valL l)) 0)] }) (new := [1]) gp_ok hr (by simp only [allC_cons, allC_nil, and_true]; exact ⟨hL, trivial, h1, h2, by rw [hz]; decide⟩) (by simp [upto]) rfl (by simp) (by simp) (fun j hj => by match j, hj with | 0, _ => rfl | 1, _ => rfl)
    · simp at h
  · simp at h
noncomputable abbrev gh : Ctx := gp.add [(73, dgF), (71, caF)]
theorem gh_ok : CtxU gh := gp_ok.add mixed noGo (by
  intro x hx
  simp only [List.mem_cons, List.not_mem_nil, or_false] at hx
  rcases hx with rfl | rfl
  · exact dg_acc
  · exact ca_acc)
end Go.Proofs.Ytejcjdhplpjpjaa
