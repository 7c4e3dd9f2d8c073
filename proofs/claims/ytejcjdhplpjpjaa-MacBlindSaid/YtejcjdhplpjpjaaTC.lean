/- Accounts of this seat's functions: lemmas, no statement of their own. No conditions. -/
import Derived.Test.YtejcjdhplpjpjaaV5
import Derived.Test.YtejcjdhplpjpjaaProg
import Derived.RangeFuncBox
import Derived.Shelf.Abstract
import Derived.OwnWalkIn
import Derived.TacticsInMore
import Derived.LoopNIn
import Derived.LoopIn
namespace Go.Proofs.Ytejcjdhplpjpjaa
open Go Go.Vx

noncomputable def g0 : Ctx := { P := Try.prog, sum := fun _ => none, glob := fun _ => none }
theorem mixed : Try.prog.follows .mixedOrders = true := by kernel_rfl
theorem names : Try.prog.funcs.all (fun fn => !(fn.name == "runtime.NumGoroutine") || fn.body.isNone) = true := by kernel_rfl
theorem noGo (f : FuncId) (fn : Func) (c : Code) (h : Try.prog.funcs[f]? = some fn) (hb : fn.body = some c) : (fn.name == "runtime.NumGoroutine") = false := by
  have := Array.all_eq_true'.1 names fn (Array.mem_of_getElem? h)
  rw [hb] at this
  simpa using this
theorem g0_ok : CtxU g0 := CtxU.mk (fun f σ h => by simp [g0] at h) mixed noGo
theorem get_ok {f : FuncId} (h : (Try.prog.funcs[f]?).isSome = true) : Try.prog.funcs[f]? = some ((Try.prog.funcs[f]?).getD default) := by
  obtain ⟨x, hx⟩ := Option.isSome_iff_exists.1 h
  rw [hx]; rfl
theorem acc63 : Acc g0 63 loadF := fun args B out h hC =>
  load_ok (g := g0) (get_ok (f := 63) (by kernel_rfl)) (by kernel_rfl) (by kernel_rfl) (by kernel_rfl) (by kernel_rfl) args B out h hC
theorem acc74 : Acc g0 74 addF := fun args B out h hC =>
  add_ok (g := g0) (get_ok (f := 74) (by kernel_rfl)) (by kernel_rfl) (by kernel_rfl) (by kernel_rfl) (by kernel_rfl) args B out h hC
noncomputable abbrev gx : Ctx := g0.add [(63, loadF), (74, addF)]
theorem gx_ok : CtxU gx := g0_ok.add mixed noGo (by
  intro x hx
  simp only [List.mem_cons, List.not_mem_nil, or_false] at hx
  rcases hx with rfl | rfl
  · exact acc63
  · exact acc74)
theorem acc55 : Acc gx 55 logF := logF_ok gx_ok (fun k v n l => by kernel_rfl) (fun k v => by kernel_rfl)
theorem acc69 : Acc gx 69 opF := opF_ok gx_ok (fun k n l => by kernel_rfl) (fun k => by kernel_rfl)
theorem acc19 : Acc gx 19 newF := newF_ok gx_ok (by kernel_rfl)
theorem acc20 : Acc gx 20 totalF := totalF_ok gx_ok (fun n l => by kernel_rfl) (by kernel_rfl)
theorem acc36 : Acc gx 36 ifF := ifF_ok gx_ok (fun b n l => by cases b <;> kernel_rfl) (fun b => by cases b <;> kernel_rfl)
theorem acc37 : Acc gx 37 atF := atF_ok gx_ok (fun k n l => by kernel_rfl) (fun k => by kernel_rfl)
end Go.Proofs.Ytejcjdhplpjpjaa

namespace Go.Proofs.Ytejcjdhplpjpjaa
open Go Go.Vx Go.RowKit Go.Shelf
section
attribute [local go_sem] Oper.semAt_some

set_option maxRecDepth 100000 in
set_option maxHeartbeats 2000000 in
theorem since_has (bR oR bN oN b base b1 o1 cap : Nat) (xs : List (List Int)) (hfit : xs.length ≤ 9223372036854775807) :
    IterOk Try.prog 65 #[.pointer (some ⟨bR, oR, none⟩), .pointer (some ⟨bN, oN, none⟩)] evV xs (LogK bR oR bN oN b base b1 o1 cap xs) := by
  intro l J hK hY W h0
  have hk0 := hK _ _ h0
  refine callsIn_of_wp Try.func65 rfl trivial ?_ rfl
  simp only [Try.ntmps65, List.size_toArray, List.length_cons, List.length_nil, Nat.reduceAdd, Nat.reduceSub, Array.replicate_succ, Array.replicate_zero, List.push_toArray, List.append_toArray, List.nil_append, List.cons_append]
  have hr := hk0.r
  have hn := hk0.n
  have hs := hk0.s
  gi_wp2
  gi_loopw [5] (fun i wr => ∃ k : Nat, k ≤ xs.length ∧ i = .int .i64 k ∧ J (xs.take k) wr)
    (fun i _ => xs.length - (intOf i).toNat)
  case atStart => exact ⟨0, Nat.zero_le _, rfl, h0⟩
  case round =>
    obtain ⟨k, hk, rfl, hJs⟩ := hrel
    have hkk := hK _ _ hJs
    by_cases hlt : k < xs.length
    · have hx : xs = xs.take k ++ xs.getD k [] :: xs.drop (k + 1) := by
        conv => lhs; rw [← List.take_append_drop k xs, List.drop_eq_getElem_cons hlt]
        simp [hlt]
      obtain ⟨fn, tmps, assign, body, hy, hR⟩ := hY _ _ _ wr hx hJs
      have e0 := hkk.c0 k hlt
      have e1 := hkk.c1 k hlt
      unfold evV at hy
      clear hx
      generalize (xs.getD k []).getD 0 0 = v0 at hy e0
      generalize (xs.getD k []).getD 1 0 = v1 at hy e1
      gi_wp2
      refine ⟨rfl, hR.mono ?_⟩
      rintro e W3 ⟨rfl, hJ3⟩
      gi_wp2
      go_roundw
      case rel => exact ⟨k + 1, by omega, by simp, by rw [List.take_add_one]; simpa [hlt] using hJ3⟩
      case measure => simp [intOf]; omega
    · obtain rfl : k = xs.length := by omega
      gi_wp2
      go_end0
      exact ⟨⟨_, rfl⟩, by simpa using hJs⟩

set_option maxRecDepth 100000 in
set_option maxHeartbeats 2000000 in
theorem since_non (bR oR bN oN b base : Nat) :
    IterOk Try.prog 65 #[.pointer (some ⟨bR, oR, none⟩), .pointer (some ⟨bN, oN, none⟩)] evV [] (LogN bR oR bN oN b base) := by
  intro l J hK hY W h0
  have hk0 := hK _ _ h0
  refine callsIn_of_wp Try.func65 rfl trivial ?_ rfl
  simp only [Try.ntmps65, List.size_toArray, List.length_cons, List.length_nil, Nat.reduceAdd, Nat.reduceSub, Array.replicate_succ, Array.replicate_zero, List.push_toArray, List.append_toArray, List.nil_append, List.cons_append]
  have hr := hk0.r
  have hn := hk0.n
  have hs := hk0.s
  gi_wp2
  gi_loopw [5] (fun i wr => i = .int .i64 0 ∧ J [] wr) (fun _ _ => 0)
  case atStart => exact ⟨rfl, h0⟩
  case round =>
    obtain ⟨rfl, hJs⟩ := hrel
    gi_wp2
    go_end0
    exact ⟨⟨_, rfl⟩, hJs⟩
end

theorem since_ok : SinceOk Try.prog 65 := ⟨since_has, since_non⟩
noncomputable def evParts : RParts := rparts Try.f26.body
theorem events_acc (l : List (List Int)) (hl : l.length * 16 ≤ 2 ^ 47) : FnOk gx 26 [.ptr 0 0] [.log l] { val := .own 1, new := [.rows [.i64, .i64] l], C := [l.length * 16 ≤ 2 ^ 47] } :=
  events_ok (g := gx) gx_ok (f := 26) (gf := 65) (fn := Try.f26) (r := evParts) (m := 60) Try.func26 (by kernel_rfl) (by kernel_rfl) (by kernel_rfl) (by kernel_rfl) (by kernel_rfl) (by kernel_rfl)
    (enters_of Try.func65 (by kernel_rfl) rfl) since_ok (by constructor <;> kernel_rfl) hl
    (fun n => by kernel_rfl) (fun n pre a b => by kernel_rfl) (fun n pre => by kernel_rfl)
end Go.Proofs.Ytejcjdhplpjpjaa

namespace Go.Proofs.Ytejcjdhplpjpjaa
open Go Go.Vx

def eventsF : SumF := fun args B => match args, B with
  | [.ptr 0 0], [.log l] => some { val := .own 1, new := [.rows [.i64, .i64] l], C := [l.length * 16 ≤ 2 ^ 47] }
  | _, _ => none
theorem acc26 : Acc gx 26 eventsF := by
  intro args B out h hC
  unfold eventsF at h
  split at h
  · simp only [Option.some.injEq] at h; subst h
    exact events_acc _ (hC _ (by simp))
  · simp at h
noncomputable abbrev g1 : Ctx := gx.add [(69, opF), (19, newF), (20, totalF), (36, ifF), (37, atF), (26, eventsF)]
theorem g1_ok : CtxU g1 := gx_ok.add mixed noGo (by
  intro x hx
  simp only [List.mem_cons, List.not_mem_nil, or_false] at hx
  rcases hx with rfl | rfl | rfl | rfl | rfl | rfl
  · exact acc69
  · exact acc19
  · exact acc20
  · exact acc36
  · exact acc37
  · exact acc26)
end Go.Proofs.Ytejcjdhplpjpjaa

namespace Go.Proofs.Ytejcjdhplpjpjaa
open Go Go.Vx
def lastR (o : List (List Int)) : List Int := o.getD (o.length - 1) []
def runStep (o : List (List Int)) (a b : Int) : List (List Int) :=
  if 0 < o.length ∧ (lastR o).getD 0 0 = a ∧ (lastR o).getD 1 0 = b then o.set (o.length - 1) ((lastR o).set 2 ((lastR o).getD 2 0 + 1)) else o ++ [[a, b, 1]]
def runsN (l : List (List Int)) : Nat → List (List Int)
  | 0 => []
  | n + 1 => runStep (runsN l n) ((l.getD n []).getD 0 0) ((l.getD n []).getD 1 0)
def runsL (l : List (List Int)) : List (List Int) := runsN l l.length
/-- rows of runs of n events -/
structure RunsOk (o : List (List Int)) (n : Nat) : Prop where
  len : o.length ≤ n
  row : ∀ r ∈ o, r.length = 3
  pos : ∀ r ∈ o, 1 ≤ r.getD 2 0 ∧ r.getD 2 0 ≤ n
theorem runStep_ok {o : List (List Int)} {n : Nat} (h : RunsOk o n) (a b : Int) : RunsOk (runStep o a b) (n + 1) := by
  unfold runStep
  split
  · rename_i hc
    have hm : lastR o ∈ o := by
      unfold lastR
      rw [List.getD_eq_getElem?_getD, List.getElem?_eq_getElem (show o.length - 1 < o.length by omega)]
      exact List.getElem_mem _
    have h3 := h.row _ hm
    have hp := h.pos _ hm
    have key : ∀ r ∈ o.set (o.length - 1) ((lastR o).set 2 ((lastR o).getD 2 0 + 1)), r.length = 3 ∧ 1 ≤ r.getD 2 0 ∧ r.getD 2 0 ≤ (n + 1 : Nat) := fun r hr => by
      rcases List.mem_or_eq_of_mem_set hr with hr | hr
      · have := h.pos r hr
        exact ⟨h.row r hr, this.1, by omega⟩
      · subst hr
        have e : ((lastR o).set 2 ((lastR o).getD 2 0 + 1)).getD 2 0 = (lastR o).getD 2 0 + 1 := by
          rw [List.getD_eq_getElem?_getD, List.getElem?_set_self (by omega)]; rfl
        rw [e]
        exact ⟨by simp [h3], by omega, by omega⟩
    exact ⟨by have := h.len; simp; omega, fun r hr => (key r hr).1, fun r hr => (key r hr).2⟩
  · refine ⟨by have := h.len; simp; omega, fun r hr => ?_, fun r hr => ?_⟩
    · rcases List.mem_append.1 hr with hr | hr
      · exact h.row r hr
      · simp at hr; subst hr; rfl
    · rcases List.mem_append.1 hr with hr | hr
      · have := h.pos r hr; exact ⟨this.1, by omega⟩
      · simp at hr; subst hr; simp; omega
theorem runsN_ok (l : List (List Int)) : ∀ n, RunsOk (runsN l n) n
  | 0 => ⟨by simp [runsN], by simp [runsN], by simp [runsN]⟩
  | n + 1 => runStep_ok (runsN_ok l n) _ _

/-! ### Runs -/
noncomputable def ruParts : RParts := rparts Try.f34.body
abbrev ru0 (n : Int) (l : List (List Int)) : List Body := [.cells [.int .i64 n, .own 1], .rows [.i64, .i64] l, .cells [.ptr 0 0], .cells [.lit .i64 0], .cells [.raw (.slice none 0 0)]]
abbrev ruO (n : Int) (l o : List (List Int)) : List Body := [.cells [.int .i64 n, .own 1], .rows [.i64, .i64] l, .cells [.ptr 0 0], .cells [.lit .i64 0], .cells [.own 5], .rows [.i64, .i64, .i64] o]
theorem ru_pre (n : Int) (l : List (List Int)) : runP gx 60 38 [] ruParts.c0 ruParts.c1 ruParts.c2 [.ptr 0 0] [.cells [.int .i64 n, .own 1], .rows [.i64, .i64] l] [3, 7] [0, 1, 3, 4, 2] =
    some ([SV.ptr (4 : Nat) (0 : Nat), SV.func (65 : Nat) [] [SV.ptr (2 : Nat) (0 : Nat), SV.ptr (3 : Nat) (0 : Nat)]], [some (Body.cells [SV.int IntKind.i64 n, SV.own (1 : Nat)]), some (Body.rows [IntKind.i64, IntKind.i64] l), some (Body.cells [SV.ptr (0 : Nat) (0 : Nat)]), some (Body.cells [SV.lit IntKind.i64 (0 : Int)]), some (Body.cells [SV.raw (Value.slice none (0 : Nat) (0 : Nat))])], []) := by kernel_rfl
theorem ru_first (n : Int) (l : List (List Int)) (a b : Int) : runR gx 60 38 [] [] ruParts.A ruParts.Bd [(8, .agg [.int .i64 a, .int .i64 b]), (3, .ptr 4 0)] (ru0 n l) [0, 1, 2, 3, 4, 7] =
    some ([some (Body.cells [SV.int IntKind.i64 n, SV.own (1 : Nat)]), some (Body.rows [IntKind.i64, IntKind.i64] l), some (Body.cells [SV.ptr (0 : Nat) (0 : Nat)]), some (Body.cells [SV.lit IntKind.i64 (0 : Int)]), some (Body.cells [SV.own (5 : Nat)]), some (Body.rows [IntKind.i64, IntKind.i64, IntKind.i64] [[a, b, (1 : Int)]])], [([] ++ [[a, b, (1 : Int)]]).length * (24 : Nat) ≤ (140737488355328 : Nat)]) := by kernel_rfl
theorem ru_same (n : Int) (l o : List (List Int)) (a b : Int) : runR gx 60 38 [] [.br true, .br true] ruParts.A ruParts.Bd [(8, .agg [.int .i64 a, .int .i64 b]), (3, .ptr 4 0)] (ruO n l o) [0, 1, 2, 3, 4, 5] =
    some ([some (Body.cells [SV.int IntKind.i64 n, SV.own (1 : Nat)]), some (Body.rows [IntKind.i64, IntKind.i64] l), some (Body.cells [SV.ptr (0 : Nat) (0 : Nat)]), some (Body.cells [SV.lit IntKind.i64 (0 : Int)]), some (Body.cells [SV.own (5 : Nat)]), some (Body.rows [IntKind.i64, IntKind.i64, IntKind.i64] (o.set ((↑o.length : Int) - (1 : Int)).toNat ((o.getD ((↑o.length : Int) - (1 : Int)).toNat []).set (2 : Nat) ((o.getD ((↑o.length : Int) - (1 : Int)).toNat []).getD (2 : Nat) (0 : Int) + (1 : Int)))))], [Fits IntKind.i64 (↑o.length : Int), ((↑o.length : Int) - (1 : Int)).toNat < o.length, ((↑o.length : Int) - (1 : Int)).toNat < o.length, (0 : Int) ≤ (↑o.length : Int) - (1 : Int) ∧ (↑o.length : Int) - (1 : Int) < (↑(ecount (Body.rows [IntKind.i64, IntKind.i64, IntKind.i64] o)) : Int), Fits IntKind.i64 ((↑o.length : Int) - (1 : Int)), decide ((0 : Int) < (↑o.length : Int)) = true, decide ([(o.getD ((↑o.length : Int) - (1 : Int)).toNat []).getD ((0 : Nat) + (0 : Nat) + (0 : Nat)) (0 : Int), (o.getD ((↑o.length : Int) - (1 : Int)).toNat []).getD ((0 : Nat) + (0 : Nat) + ((0 : Nat) + (1 : Nat))) (0 : Int)] = [a, b]) = true, ((↑o.length : Int) - (1 : Int)).toNat < o.length, (0 : Int) ≤ (↑o.length : Int) - (1 : Int) ∧ (↑o.length : Int) - (1 : Int) < (↑(ecount (Body.rows [IntKind.i64, IntKind.i64, IntKind.i64] o)) : Int), Fits IntKind.i64 ((o.getD ((↑o.length : Int) - (1 : Int)).toNat []).getD (2 : Nat) (0 : Int) + (1 : Int)), ((↑o.length : Int) - (1 : Int)).toNat < o.length, (0 : Int) ≤ (↑o.length : Int) - (1 : Int) ∧ (↑o.length : Int) - (1 : Int) < (↑(ecount (Body.rows [IntKind.i64, IntKind.i64, IntKind.i64] o)) : Int), Fits IntKind.i64 ((↑o.length : Int) - (1 : Int))]) := by kernel_rfl
theorem ru_next (n : Int) (l o : List (List Int)) (a b : Int) : runR gx 60 38 [] [.br true, .br false] ruParts.A ruParts.Bd [(8, .agg [.int .i64 a, .int .i64 b]), (3, .ptr 4 0)] (ruO n l o) [0, 1, 2, 3, 4, 8] =
    some ([some (Body.cells [SV.int IntKind.i64 n, SV.own (1 : Nat)]), some (Body.rows [IntKind.i64, IntKind.i64] l), some (Body.cells [SV.ptr (0 : Nat) (0 : Nat)]), some (Body.cells [SV.lit IntKind.i64 (0 : Int)]), some (Body.cells [SV.own (5 : Nat)]), some (Body.rows [IntKind.i64, IntKind.i64, IntKind.i64] (o ++ [[a, b, (1 : Int)]]))], [Fits IntKind.i64 (↑o.length : Int), ((↑o.length : Int) - (1 : Int)).toNat < o.length, ((↑o.length : Int) - (1 : Int)).toNat < o.length, (0 : Int) ≤ (↑o.length : Int) - (1 : Int) ∧ (↑o.length : Int) - (1 : Int) < (↑(ecount (Body.rows [IntKind.i64, IntKind.i64, IntKind.i64] o)) : Int), Fits IntKind.i64 ((↑o.length : Int) - (1 : Int)), decide ((0 : Int) < (↑o.length : Int)) = true, decide ([(o.getD ((↑o.length : Int) - (1 : Int)).toNat []).getD ((0 : Nat) + (0 : Nat) + (0 : Nat)) (0 : Int), (o.getD ((↑o.length : Int) - (1 : Int)).toNat []).getD ((0 : Nat) + (0 : Nat) + ((0 : Nat) + (1 : Nat))) (0 : Int)] = [a, b]) = false, (o ++ [[a, b, (1 : Int)]]).length * (24 : Nat) ≤ (140737488355328 : Nat)]) := by kernel_rfl
theorem ru_post0 (n : Int) (l : List (List Int)) : runE gx 60 38 ruParts.i ruParts.ops [(3, .ptr 4 0)] (ru0 n l) 2 [0, 1] =
    some (SV.raw (Value.slice none (0 : Nat) (0 : Nat)), [some (Body.cells [SV.int IntKind.i64 n, SV.own (1 : Nat)]), some (Body.rows [IntKind.i64, IntKind.i64] l)], []) := by kernel_rfl
theorem ru_post (n : Int) (l o : List (List Int)) : runE gx 60 38 ruParts.i ruParts.ops [(3, .ptr 4 0)] (ruO n l o) 2 [0, 1, 5] =
    some (SV.own (2 : Nat), [some (Body.cells [SV.int IntKind.i64 n, SV.own (1 : Nat)]), some (Body.rows [IntKind.i64, IntKind.i64] l), some (Body.rows [IntKind.i64, IntKind.i64, IntKind.i64] o)], []) := by kernel_rfl
theorem runsN_app (l m : List (List Int)) : ∀ n, n ≤ l.length → runsN (l ++ m) n = runsN l n
  | 0, _ => rfl
  | n + 1, h => by
    have e : (l ++ m).getD n [] = l.getD n [] := by rw [List.getD_eq_getElem?_getD, List.getElem?_append_left (by omega), ← List.getD_eq_getElem?_getD]
    simp only [runsN, runsN_app l m n (by omega), e]
theorem runsL_snoc (l : List (List Int)) (x : List Int) : runsL (l ++ [x]) = runStep (runsL l) (x.getD 0 0) (x.getD 1 0) := by
  unfold runsL
  rw [show (l ++ [x]).length = l.length + 1 by simp]
  simp only [runsN, runsN_app l [x] l.length (Nat.le_refl _)]
  simp
theorem runsL_ok (l : List (List Int)) : RunsOk (runsL l) l.length := runsN_ok l _
theorem runStep_pos {o : List (List Int)} (a b : Int) : 0 < (runStep o a b).length := by
  unfold runStep
  split
  · rename_i h; simp; exact h.1
  · simp
theorem runsL_pos {l : List (List Int)} (h : l ≠ []) : 0 < (runsL l).length := by
  rcases List.eq_nil_or_concat l with e | ⟨p, x, e⟩
  · exact absurd e h
  · rw [e, List.concat_eq_append, runsL_snoc]; exact runStep_pos _ _

def ruB (n : Int) (l : List (List Int)) : List (List Int) → List Body
  | [] => ru0 n l
  | x :: r => ruO n l (runsL (x :: r))
theorem ruB_pos {n : Int} {l p : List (List Int)} (h : p ≠ []) : ruB n l p = ruO n l (runsL p) := by
  cases p with
  | nil => exact absurd rfl h
  | cons x r => rfl
theorem ruB_low {n : Int} {l p : List (List Int)} : LogH n l (BH (ruB n l p)) := by
  cases p <;> exact ⟨rfl, rfl, rfl, rfl⟩
theorem ids5 {k : Nat} : ∀ j : Nat, j < 5 → ([0, 1, 2, 3, 4, k] : List Nat)[j]? = some j := fun j hj => by
  match j, hj with
  | 0, _ => rfl
  | 1, _ => rfl
  | 2, _ => rfl
  | 3, _ => rfl
  | 4, _ => rfl
theorem ru_round {n : Int} {l : List (List Int)} (hl : l.length * 24 ≤ 140737488355328) (hrow : ∀ r ∈ l, r.length = 2) (pre : List (List Int)) (x : List Int) (rest : List (List Int)) (hx : l = pre ++ x :: rest) :
    RoundOk gx 38 ruParts.A ruParts.Bd ((8, Vx.evS x) :: [(3, .ptr 4 0)]) (ruB n l pre) (ruB n l (pre ++ [x])) 5 := by
  have hpl : plainC ruParts.A = true ∧ plainC ruParts.Bd = true := by constructor <;> kernel_rfl
  obtain ⟨a, b, rfl⟩ : ∃ a b, x = [a, b] := by
    have := hrow x (by rw [hx]; simp)
    match x, this with
    | [a, b], _ => exact ⟨a, b, rfl⟩
  have hlen : pre.length + 1 ≤ l.length := by rw [hx]; simp
  rw [ruB_pos (p := pre ++ [[a, b]]) (by simp), runsL_snoc]
  cases pre with
  | nil =>
    refine RoundOk.run (ids := [0, 1, 2, 3, 4, 7]) gx_ok hpl.1 hpl.2 (by decide) (by simp [ruB]) (ru_first n l a b) ?_ (by decide) (fun j hj => ids5 j hj)
    simp only [allC_cons, allC_nil, and_true]
    show 1 * 24 ≤ 140737488355328
    decide
  | cons y r =>
    rw [ruB_pos (p := y :: r) (by simp)]
    have ok := runsL_ok (y :: r)
    have hpos := runsL_pos (l := y :: r) (by simp)
    generalize runsL (y :: r) = o at ok hpos ⊢
    have hol := ok.len
    have hq : ((o.length : Int) - 1).toNat = o.length - 1 := by omega
    have F1 : Fits .i64 (o.length : Int) := Go.Vx.fits_small (by omega)
    have F3 : Fits .i64 ((o.length : Int) - 1) := fits_of (by omega) (by omega)
    have hm : lastR o ∈ o := by
      unfold lastR
      rw [List.getD_eq_getElem?_getD, List.getElem?_eq_getElem (show o.length - 1 < o.length by omega)]
      exact List.getElem_mem _
    have hp := ok.pos _ hm
    have F5 : Fits .i64 ((lastR o).getD 2 0 + 1) := fits_of (by omega) (by omega)
    have ec : (ecount (Body.rows [IntKind.i64, IntKind.i64, IntKind.i64] o) : Nat) = o.length := rfl
    by_cases c : [(lastR o).getD 0 0, (lastR o).getD 1 0] = [a, b]
    · have hk := decide_eq_true c
      have e2 : runStep o a b = o.set (o.length - 1) ((lastR o).set 2 ((lastR o).getD 2 0 + 1)) := by unfold runStep; simp at c; rw [if_pos ⟨hpos, by simpa using c⟩]
      have e3 : runStep o (([a, b] : List Int).getD 0 0) (([a, b] : List Int).getD 1 0) = runStep o a b := rfl
      rw [e3, e2]
      refine RoundOk.run (ids := [0, 1, 2, 3, 4, 5]) gx_ok hpl.1 hpl.2 (by decide) (by simp) (by have := ru_same n l o a b; rw [hq] at this; exact this) ?_ (by decide) (fun j hj => ids5 j hj)
      simp only [allC_cons, allC_nil, and_true, ec]
      (repeat' (first | exact F1 | exact F3 | exact F5 | exact hk | exact decide_eq_true (by omega) | omega | refine And.intro ?_ ?_))
    · have hk := decide_eq_false c
      have e2 : runStep o a b = o ++ [[a, b, 1]] := by unfold runStep; simp at c; rw [if_neg fun h => c h.2.1 h.2.2]
      have e3 : runStep o (([a, b] : List Int).getD 0 0) (([a, b] : List Int).getD 1 0) = runStep o a b := rfl
      rw [e3, e2]
      refine RoundOk.run (ids := [0, 1, 2, 3, 4, 8]) gx_ok hpl.1 hpl.2 (by decide) (by simp) (by have := ru_next n l o a b; rw [hq] at this; exact this) ?_ (by decide) (fun j hj => ids5 j hj)
      simp only [allC_cons, allC_nil, and_true, ec]
      (repeat' (first | exact F1 | exact F3 | exact F5 | exact hk | exact decide_eq_true (by omega) | omega | (rw [show (o ++ [[a, b, (1 : Int)]]).length = o.length + 1 by simp]; omega) | refine And.intro ?_ ?_))

theorem ru_fn {l : List (List Int)} (hl : l.length * 24 ≤ 140737488355328) {out : OpOut} {L : List (Option Body)} {ids2 : List Nat}
    (hpost : runE gx 60 38 ruParts.i ruParts.ops [(3, .ptr 4 0)] (ruB l.length l l) 2 ids2 = some (out.val, L, [])) (hnd2 : ids2.Nodup) (hm2 : ∀ j, j < 2 → ids2[j]? = some j) (hl2 : ids2.length = 2 + out.new.length)
    (hL : ∀ j, j < 2 + out.new.length → (L[j]?).getD none = afterH [.cells [.int .i64 l.length, .own 1], .rows [.i64, .i64] l] out j) (hu : ∀ y ∈ out.upd, y.1 < 2) :
    FnOk gx 34 [.ptr 0 0] [.cells [.int .i64 l.length, .own 1], .rows [.i64, .i64] l] out := by
  refine FnOk.factsB fun hfc => ?_
  have hrow := hfc (.rows [.i64, .i64] l) (by simp)
  have hrow2 : ∀ r ∈ l, r.length = 2 := fun r hr => (hrow r hr).1
  have hfitl : Fits .i64 (l.length : Int) := (hfc (.cells [.int .i64 l.length, .own 1]) (by simp)).1
  refine rangeFn_ok (α := List Int) gx_ok (fn := Try.f34) Try.func34 (by kernel_rfl) (k := ruParts.k) (gop := .tmp 7) (p := 8) (c0 := ruParts.c0) (c1 := ruParts.c1) (c2 := ruParts.c2) (A := ruParts.A) (Bd := ruParts.Bd) (i := ruParts.i) (ops := ruParts.ops) (t := 2) (by kernel_rfl) (by decide) (by kernel_rfl) (by decide) (args := [.ptr 0 0]) (B := [.cells [.int .i64 l.length, .own 1], .rows [.i64, .i64] l]) (by decide) (by simp)
    (ru_pre _ l) (by simp [AllC]) (by decide) (m := 5) ?_ (by simp) ?_ (gf := 65) (enc := evV) (encS := Vx.evS) (xs := l) (Bs := ruB l.length l) (S := [(3, .ptr 4 0)]) (fun t => ?_) (fun pre x rest hx => ru_round hl hrow2 pre x rest hx) ?_ ?_ (enters_of Try.func65 (by kernel_rfl) rfl) ?_ ?_ hpost (by simp [AllC]) hnd2 hm2 hl2 hL hu
  · intro j _ hj
    match j, hj with
    | 0, _ => rfl
    | 1, _ => rfl
    | j + 2, hj => exact absurd hj (by simp)
  · intro k hk; simp at hk; rcases hk with rfl | rfl <;> decide
  · by_cases h3 : t = 3
    · subst h3; left; rfl
    · right
      have e : tget (mkT [(3, SV.ptr 4 0)]) t = if t = 3 then .ptr 4 0 else tget (mkT []) t := Tr.get_set _ _ _ _ _ (by decide)
      rw [e, if_neg h3]; simp [tget, mkT, Tr.get_lf]
  · intro x hx w0 O ρ
    obtain ⟨h2, hk⟩ := hrow x hx
    obtain ⟨a, b, rfl⟩ : ∃ a b, x = [a, b] := by
      match x, h2 with
      | [a, b], _ => exact ⟨a, b, rfl⟩
    have ha := hk 0 .i64 a rfl rfl
    have hb := hk 1 .i64 b rfl rfl
    refine .inr ⟨rfl, ?_⟩
    simp only [Vx.evS, evV, DenC, DenL]
    exact ⟨_, _, rfl, ⟨rfl, ha⟩, rfl, _, _, rfl, ⟨rfl, hb⟩, rfl, rfl⟩
  · intro y hy; simp at hy; subst hy; exact ⟨by decide, by simp [mapC, lowId]⟩
  · intro w0 O hG ρ Φ a w r
    have t9 := r.tmps 7
    rw [show tget (mkT (([3, 7] : List Nat).zip [SV.ptr 4 0, .func 65 [] [.ptr 2 0, .ptr 3 0]])) 7 = .func 65 [] [.ptr 2 0, .ptr 3 0] from rfl] at t9
    obtain ⟨lb, e1, K, hK, hit⟩ := since_K since_ok hrow2 hfitl (n := l.length) ruB_low r.heap t9
    exact ⟨lb, e1, K, fun pre ρ' Φ' W hlow x => hK ρ' _ Φ' W (fun j h hj => hlow j h (by omega)) ruB_low x, hit⟩
  · cases l <;> simp [ruB]
theorem runs_acc (l : List (List Int)) (hl : l.length * 24 ≤ 140737488355328) : FnOk gx 34 [.ptr 0 0] [.log l] { val := .own 1, new := [.rows [.i64, .i64, .i64] (runsL l)], C := [l.length * 24 ≤ 140737488355328] } := by
  by_cases h : l = []
  · subst h
    refine FnOk.adopt rfl (by simp) (FnOk.logRead (ru_fn hl (out := { val := .raw (.slice none 0 0) }) (ru_post0 _ _) (by decide) ?_ rfl ?_ (by simp)) (by simp [mapC]))
    · intro j hj
      match j, hj with
      | 0, _ => rfl
      | 1, _ => rfl
    · intro j hj
      match j, hj with
      | 0, _ => rfl
      | 1, _ => rfl
      | j + 2, hj => exact absurd hj (by simp)
  · refine FnOk.logRows (ru_fn hl (out := { val := .own 2, new := [.rows [.i64, .i64, .i64] (runsL l)] }) (by rw [ruB_pos h]; exact ru_post _ _ _) (by decide) ?_ rfl ?_ (by simp))
    · intro j hj
      match j, hj with
      | 0, _ => rfl
      | 1, _ => rfl
    · intro j hj
      match j, hj with
      | 0, _ => rfl
      | 1, _ => rfl
      | 2, _ => rfl
      | j + 3, hj => exact absurd hj (by simp)
def F34 : SumF := fun args B => match args, B with
  | [.ptr 0 0], [.log l] => some { val := .own 1, new := [.rows [.i64, .i64, .i64] (runsL l)], C := [l.length * 24 ≤ 140737488355328] }
  | _, _ => none
theorem acc34 : Acc gx 34 F34 := by
  intro args B out h hC
  unfold F34 at h
  split at h
  · simp only [Option.some.injEq] at h; subst h
    exact runs_acc _ (hC _ (by simp))
  · simp at h
end Go.Proofs.Ytejcjdhplpjpjaa

namespace Go.Proofs.Ytejcjdhplpjpjaa
open Go Go.Vx
theorem accA : Acc g0 60 add64F :=
  add64_ok (g := g0) (get_ok (f := 60) (by kernel_rfl)) (by kernel_rfl) (by kernel_rfl) (by kernel_rfl) (by kernel_rfl)
/-! ### mask, prime -/
theorem pick_run (s a b : Nat) : runF g0 20 [] 75 [.int .u64 s, .int .u64 a, .int .u64 b] [] [] = some (.int .u64 (Int.ofNat (pickE s a b)), [], []) := by kernel_rfl
theorem settled_run (la : List Int) : runF g0 200 [] 66 [.agg (svF (List.replicate 5 .u64) (atL la) 0)] [] [] = some (.agg (svF (List.replicate 5 .u64) (settledN la) 0), [], []) := by kernel_rfl
theorem word_run (a b c d : Int) : runF g0 200 [] 67 [.int .u8 a, .int .u8 b, .int .u8 c, .int .u8 d] [] [] = some (.int .u64 (wordE a b c d), [], []) := by kernel_rfl
def F39 : SumF := fun args B => match args, B with
  | [.int .u8 a, .int .u8 b, .int .u8 c, .int .u8 d], [] => some { val := .int .u64 (wordE a b c d) }
  | _, _ => none
def F41 : SumF := fun args B => match args, B with
  | [.int .u64 s, .int .u64 a, .int .u64 b], [] => some { val := .int .u64 (if s % 2 = 1 then a else b) }
  | _, _ => none
/-- Add and Mul -/
def binF (op : Int) (f : List Int → List Int → Nat → Int) : SumF := fun args B => match args, B with
  | [.raw (.pointer none), .agg xs, .agg ys], [] => match numsAs (List.replicate 5 .u64) xs, numsAs (List.replicate 5 .u64) ys with
    | some la, some lb => some { val := .agg (svF (List.replicate 5 .u64) (f la lb) 0) }
    | _, _ => none
  | [.ptr 0 0, .agg xs, .agg ys], [.log l] => match numsAs (List.replicate 5 .u64) xs, numsAs (List.replicate 5 .u64) ys with
    | some la, some lb => some { val := .agg (svF (List.replicate 5 .u64) (f la lb) 0), upd := [(0, some (.log (l ++ [[3, op]])))], C := [l.length < 1099511627776] }
    | _, _ => none
  | _, _ => none
theorem bin_ok {g : Ctx} (hU : CtxU g) {op : Int} {f : List Int → List Int → Nat → Int} {fn : FuncId}
    (hrun : ∀ la lb : List Int, ∃ m, runF g m [] fn [.raw (.pointer none), .agg (svF (List.replicate 5 .u64) (atL la) 0), .agg (svF (List.replicate 5 .u64) (atL lb) 0)] [] [] = some (.agg (svF (List.replicate 5 .u64) (f la lb) 0), [], []))
    (hlog : ∀ (la lb : List Int) (l : List (List Int)), ∃ m, runF g m [] fn [.ptr 0 0, .agg (svF (List.replicate 5 .u64) (atL la) 0), .agg (svF (List.replicate 5 .u64) (atL lb) 0)] [.log l] [] = some (.agg (svF (List.replicate 5 .u64) (f la lb) 0), [some (.log (l ++ [[3, op]]))], [l.length < 1099511627776])) : Acc g fn (binF op f) := by
  intro args B out h hC
  unfold binF at h
  split at h
  · split at h
    · rename_i la lb ha hb
      simp only [Option.some.injEq] at h; subst h
      obtain ⟨m, hm⟩ := hrun la lb
      exact FnOk.imp (FnOk.pure hU hm (by simp [AllC])) ⟨DenImp.refl _, nums_imp ha, nums_imp hb, trivial⟩
    · simp at h
  · split at h
    · rename_i l _ _ la lb ha hb
      simp only [Option.some.injEq] at h; subst h
      obtain ⟨m, hm⟩ := hlog la lb l
      exact FnOk.imp (FnOk.run (out := { val := .agg (svF (List.replicate 5 .u64) (f la lb) 0), upd := [(0, some (.log (l ++ [[3, op]])))], C := [l.length < 1099511627776] }) hU hm hC (by simp [upto]) rfl (by simp) (by simp) (fun j hj => by
        match j, hj with
        | 0, _ => rfl)) ⟨DenImp.refl _, nums_imp ha, nums_imp hb, trivial⟩
    · simp at h
  · simp at h
theorem ok41 : Acc g0 75 F41 := by
  intro args B out h _
  unfold F41 at h
  split at h
  · simp only [Option.some.injEq] at h; subst h
    refine FnOk.facts fun ⟨h0, h1, h2, _⟩ => ?_
    obtain ⟨s, rfl, hs⟩ := fits_u64 h0
    obtain ⟨x, rfl, hx⟩ := fits_u64 h1
    obtain ⟨y, rfl, hy⟩ := fits_u64 h2
    have e : Int.ofNat (pickE s x y) = if ((s : Nat) : Int) % 2 = 1 then (x : Int) else y := by
      rw [pickE_eq s hx hy]
      by_cases h : s % 2 = 1
      · have : (s : Int) % 2 = 1 := by omega
        simp [h, this]
      · have : ¬ ((s : Int) % 2 = 1) := by omega
        simp [h, this]
    rw [← e]
    exact FnOk.pure g0_ok (pick_run s x y) (by simp [AllC])
  · simp at h
theorem ok39 : Acc g0 67 F39 := by
  intro args B out h _
  unfold F39 at h
  split at h
  · simp only [Option.some.injEq] at h; subst h
    exact FnOk.pure g0_ok (word_run _ _ _ _) (by simp [AllC])
  · simp at h
theorem ok25 : Acc g0 66 (arrF 5 .u64 5 .u64 settledN) := arr_ok (fn := 66) g0_ok (fun la => ⟨_, settled_run la⟩)

noncomputable abbrev gp1 : Ctx := g1.add [(66, arrF 5 .u64 5 .u64 settledN), (60, add64F), (67, F39), (75, F41)]
theorem gp1_ok : CtxU gp1 := g1_ok.add mixed noGo (by
  intro x hx
  simp only [List.mem_cons, List.not_mem_nil, or_false] at hx
  rcases hx with rfl | rfl | rfl | rfl
  · exact Acc.of rfl rfl ok25
  · exact Acc.of rfl rfl accA
  · exact Acc.of rfl rfl ok39
  · exact Acc.of rfl rfl ok41)
def blockN (lb : List Int) : Nat → Int := settledN (numL (atL lb))
def addN (la lb : List Int) : Nat → Int := settledN (addL (atL la) (atL lb))
def mulN (la lb : List Int) : Nat → Int := settledN (mulL (atL la) (atL lb))
def clampL (f : Nat → Int) : List Int := [f 0, f 1, f 2, umask (f 3) 15, uand (f 4) 252, f 5, f 6, umask (f 7) 15, uand (f 8) 252, f 9, f 10, umask (f 11) 15, uand (f 12) 252, f 13, f 14, umask (f 15) 15, 0]
def clampN (la : List Int) : Nat → Int := blockN (clampL (atL la))
theorem block_run (lb : List Int) : runF gp1 200 [] 58 [.agg (svF (List.replicate 17 .u8) (atL lb) 0)] [] [] = some (.agg (svF (List.replicate 5 .u64) (blockN lb) 0), [], []) := by kernel_rfl
theorem clamp_run (la : List Int) : runF gp1 200 [] 35 [.agg (svF (List.replicate 16 .u8) (atL la) 0)] [] [] = some (.agg (svF (List.replicate 5 .u64) (clampN la) 0), [], []) := by kernel_rfl
theorem add_run (la lb : List Int) : runF gp1 200 [] 57 [.raw (.pointer none), .agg (svF (List.replicate 5 .u64) (atL la) 0), .agg (svF (List.replicate 5 .u64) (atL lb) 0)] [] [] = some (.agg (svF (List.replicate 5 .u64) (addN la lb) 0), [], []) := by kernel_rfl
theorem mul_run (la lb : List Int) : runF gp1 200 [] 56 [.raw (.pointer none), .agg (svF (List.replicate 5 .u64) (atL la) 0), .agg (svF (List.replicate 5 .u64) (atL lb) 0)] [] [] = some (.agg (svF (List.replicate 5 .u64) (mulN la lb) 0), [], []) := by kernel_rfl
theorem least_run (la : List Int) : runF gp1 200 [] 70 [.agg (svF (List.replicate 5 .u64) (atL la) 0)] [] [] = some (.agg (svF (List.replicate 5 .u64) (leastN la) 0), [], []) := by kernel_rfl
theorem ok26 : Acc gp1 70 (arrF 5 .u64 5 .u64 leastN) := arr_ok (fn := 70) gp1_ok (fun la => ⟨_, least_run la⟩)
theorem ok11 : Acc gp1 58 (arrF 17 .u8 5 .u64 blockN) := arr_ok (fn := 58) gp1_ok (fun la => ⟨_, block_run la⟩)
theorem ok19 : Acc gp1 35 (arrF 16 .u8 5 .u64 clampN) := arr_ok (fn := 35) gp1_ok (fun la => ⟨_, clamp_run la⟩)
theorem add_log (la lb : List Int) (l : List (List Int)) : runF gp1 200 [] 57 [.ptr 0 0, .agg (svF (List.replicate 5 .u64) (atL la) 0), .agg (svF (List.replicate 5 .u64) (atL lb) 0)] [.log l] [] = some (.agg (svF (List.replicate 5 .u64) (addN la lb) 0), [some (.log (l ++ [[3, 11]]))], [l.length < 1099511627776]) := by kernel_rfl
theorem mul_log (la lb : List Int) (l : List (List Int)) : runF gp1 200 [] 56 [.ptr 0 0, .agg (svF (List.replicate 5 .u64) (atL la) 0), .agg (svF (List.replicate 5 .u64) (atL lb) 0)] [.log l] [] = some (.agg (svF (List.replicate 5 .u64) (mulN la lb) 0), [some (.log (l ++ [[3, 12]]))], [l.length < 1099511627776]) := by kernel_rfl
theorem ok12 : Acc gp1 57 (binF 11 addN) := bin_ok (fn := 57) gp1_ok (fun la lb => ⟨_, add_run la lb⟩) (fun la lb l => ⟨_, add_log la lb l⟩)
theorem ok14 : Acc gp1 56 (binF 12 mulN) := bin_ok (fn := 56) gp1_ok (fun la lb => ⟨_, mul_run la lb⟩) (fun la lb l => ⟨_, mul_log la lb l⟩)
noncomputable abbrev gp2 : Ctx := gp1.add [(70, arrF 5 .u64 5 .u64 leastN)]
theorem gp2_ok : CtxU gp2 := gp1_ok.add mixed noGo (by
  intro x hx
  simp only [List.mem_cons, List.not_mem_nil, or_false] at hx
  rcases hx with rfl
  exact ok26)
theorem bytes_run (la : List Int) : runF gp2 200 [] 59 [.agg (svF (List.replicate 5 .u64) (atL la) 0)] [] [] = some (.agg (svF (List.replicate 17 .u8) (bytesN la) 0), [], []) := by kernel_rfl
theorem ok13 : Acc gp2 59 (arrF 5 .u64 17 .u8 bytesN) := arr_ok (fn := 59) gp2_ok (fun la => ⟨_, bytes_run la⟩)
noncomputable abbrev gp3 : Ctx := gp2.add [(58, arrF 17 .u8 5 .u64 blockN), (57, binF 11 addN), (59, arrF 5 .u64 17 .u8 bytesN), (56, binF 12 mulN), (35, arrF 16 .u8 5 .u64 clampN)]
theorem gp3_ok : CtxU gp3 := gp2_ok.add mixed noGo (by
  intro x hx
  simp only [List.mem_cons, List.not_mem_nil, or_false] at hx
  rcases hx with rfl | rfl | rfl | rfl | rfl
  · exact Acc.of rfl rfl ok11
  · exact Acc.of rfl rfl ok12
  · exact ok13
  · exact Acc.of rfl rfl ok14
  · exact Acc.of rfl rfl ok19)
def F18 : SumF := fun args B => match args, B with
  | [.agg xs, .agg ys], [] => match numsAs (List.replicate 5 .u64) xs, numsAs (List.replicate 16 .u8) ys with
    | some la, some lb => some { val := .agg (svF (List.replicate 16 .u8) (sumN la lb) 0) }
    | _, _ => none
  | _, _ => none
theorem sum_run (a b : Nat → Int) : runF gp3 400 [] 40 [.agg (svF (List.replicate 5 .u64) a 0), .agg (svF (List.replicate 16 .u8) b 0)] [] [] =
    some (.agg (svF (List.replicate 16 .u8) (sumN (listF 5 a 0) (listF 16 b 0)) 0), [], [(0 : Int).toNat ≤ 1, (adcC (word8 (bytesN (listF 5 a 0)) 0) (word8 (atL (listF 16 b 0)) 0) 0).toNat ≤ 1]) := by kernel_rfl
theorem facts8 {n : Nat} {a : Nat → Int} (h : factsL (svF (List.replicate n .u8) a 0)) (j : Nat) (hj : j < n) : Byte (a j) := by
  have := facts_svF h j .u8 (rep_get hj)
  rw [Nat.zero_add] at this
  obtain ⟨m, e, hm⟩ := fits_u8 this
  rw [e]; unfold Byte; omega
theorem atL_listF {n : Nat} {a : Nat → Int} {j : Nat} (hj : j < n) : atL (listF n a 0) j = a j := by
  unfold atL
  rw [List.getD_eq_getElem?_getD, listF_get, if_pos hj, Nat.zero_add]; rfl
theorem ok18 : Acc gp3 40 F18 := by
  intro args B out h _
  unfold F18 at h
  split at h
  · split at h
    · rename_i la lb ha hb
      simp only [Option.some.injEq] at h; subst h
      refine FnOk.imp (args' := [.agg (svF (List.replicate 5 .u64) (atL la) 0), .agg (svF (List.replicate 16 .u8) (atL lb) 0)]) ?_ ⟨nums_imp ha, nums_imp hb, trivial⟩
      refine FnOk.facts fun ⟨_, h2, _⟩ => ?_
      have hrun := sum_run (atL la) (atL lb)
      have e1 := nums_list ha
      have e2 := nums_list hb
      simp only [List.length_replicate] at e1 e2
      rw [← e1, ← e2] at hrun
      refine FnOk.pure gp3_ok hrun ?_
      rw [allC_cons, allC_cons, allC_nil]
      refine ⟨by decide, carry_le (fun j _ => bytesN_byte _ _) (fun j hj => ?_), trivial⟩
      rw [Nat.zero_add]
      exact facts8 h2 j (by omega)
    · simp at h
  · simp at h
noncomputable abbrev gp : Ctx := gp3.add [(40, F18)]
theorem gp_ok : CtxU gp := gp3_ok.add mixed noGo (by
  intro x hx
  simp only [List.mem_cons, List.not_mem_nil, or_false] at hx
  rcases hx with rfl
  exact ok18)
/-! ### what the limbs are -/
abbrev L5 (f : Nat → Int) : List Int := listF 5 f 0
abbrev BS (x : List Int) : List Int := listF 17 (bytesN x) 0
/-- limbs of n -/
def Is (x : List Int) (n : Int) : Prop := Sett x ∧ V5 (atL x) % P5 = n % P5
theorem sub_mod (n q : Int) : (n - P5 * q) % P5 = n % P5 := Int.sub_mul_emod_self_left n P5 q
theorem is_block {l : List Int} (h : ∀ i, i < 17 → Byte (atL l i)) : Is (L5 (blockN l)) (leN 17 (atL l) 0) := by
  obtain ⟨h1, h2⟩ := numL_spec h
  obtain ⟨h3, q, h4⟩ := settled_spec h1
  refine ⟨h3, ?_⟩
  show V5 (settledN (numL (atL l))) % P5 = _
  rw [h4, sub_mod, h2]
theorem is_add {x y : List Int} {n m : Int} (hx : Is x n) (hy : Is y m) : Is (L5 (addN x y)) (n + m) := by
  obtain ⟨h1, h2⟩ := add_spec hx.1 hy.1
  obtain ⟨h3, q, h4⟩ := settled_spec h1
  refine ⟨h3, ?_⟩
  show V5 (settledN (addL (atL x) (atL y))) % P5 = _
  rw [h4, sub_mod, h2, Int.add_emod, hx.2, hy.2, ← Int.add_emod]
theorem is_mul {x y : List Int} {n m : Int} (hx : Is x n) (hy : Is y m) : Is (L5 (mulN x y)) (n * m) := by
  obtain ⟨h1, q', h2⟩ := mul_spec hx.1 hy.1
  obtain ⟨h3, q, h4⟩ := settled_spec h1
  refine ⟨h3, ?_⟩
  show V5 (settledN (mulL (atL x) (atL y))) % P5 = _
  rw [h4, sub_mod, h2, sub_mod, Int.mul_emod, hx.2, hy.2, ← Int.mul_emod]
theorem bytes_eq {x : List Int} {n : Int} (hx : Is x n) : BS x = listF 17 (byteN (n % P5)) 0 := by
  rw [← hx.2]; exact bytesN_spec hx.1
theorem eq_of {x y : List Int} {n m : Int} (hx : Is x n) (hy : Is y m) (h : n = m) : BS x = BS y := by
  rw [bytes_eq hx, bytes_eq hy, h]

theorem umask_byte {x : Int} (h : Byte x) (m : Nat) (hm : m < 256) : Byte (umask x (m : Int)) := by
  unfold Byte at *
  rw [umaskE x m h.1]
  have h1 := Int.emod_nonneg x (b := ((m + 1 : Nat) : Int)) (by omega)
  have h2 := Int.emod_lt_of_pos x (b := ((m + 1 : Nat) : Int)) (by omega)
  omega
theorem uand_byte {x : Int} (h : Byte x) (y : Int) : Byte (uand x y) := by
  unfold Byte at *
  obtain ⟨n, rfl⟩ := Int.eq_ofNat_of_zero_le h.1
  unfold uand
  have : ((n : Int).toNat &&& y.toNat) ≤ n := Nat.and_le_left
  simp only [Int.toNat_natCast, Int.ofNat_eq_natCast] at *
  omega
theorem clamp_bytes {f : Nat → Int} (h : ∀ i, i < 16 → Byte (f i)) : ∀ i, i < 17 → Byte (atL (clampL f) i) := by
  intro i hi
  match i, hi with
  | 0, _ => exact h 0 (by decide)
  | 1, _ => exact h 1 (by decide)
  | 2, _ => exact h 2 (by decide)
  | 3, _ => exact umask_byte (h 3 (by decide)) 15 (by decide)
  | 4, _ => exact uand_byte (h 4 (by decide)) 252
  | 5, _ => exact h 5 (by decide)
  | 6, _ => exact h 6 (by decide)
  | 7, _ => exact umask_byte (h 7 (by decide)) 15 (by decide)
  | 8, _ => exact uand_byte (h 8 (by decide)) 252
  | 9, _ => exact h 9 (by decide)
  | 10, _ => exact h 10 (by decide)
  | 11, _ => exact umask_byte (h 11 (by decide)) 15 (by decide)
  | 12, _ => exact uand_byte (h 12 (by decide)) 252
  | 13, _ => exact h 13 (by decide)
  | 14, _ => exact h 14 (by decide)
  | 15, _ => exact umask_byte (h 15 (by decide)) 15 (by decide)
  | 16, _ => exact show Byte 0 from ⟨by decide, by decide⟩
  | i + 17, h => exact absurd h (by omega)
theorem clamp_lt {f : Nat → Int} (h : ∀ i, i < 16 → Byte (f i)) : 0 ≤ leN 17 (atL (clampL f)) 0 ∧ leN 17 (atL (clampL f)) 0 < P5 := by
  have hb := clamp_bytes h
  have e := leN_add 16 1 (atL (clampL f)) 0
  have h1 := leN_nonneg 16 (f := atL (clampL f)) 0 (fun j hj => by rw [Nat.zero_add]; exact hb j (by omega))
  have e2 : leN 1 (atL (clampL f)) (0 + 16) = 0 := rfl
  rw [e2, Int.mul_zero, Int.add_zero] at e
  have e3 : ((256 ^ 16 : Nat) : Int) = 340282366920938463463374607431768211456 := rfl
  rw [e3] at h1
  rw [show (17 : Nat) = 16 + 1 from rfl, e]
  unfold P5
  omega
theorem bytesN_at {x : List Int} {n : Int} (hx : Is x n) {i : Nat} (hi : i < 17) : bytesN x i = byteN (n % P5) i := by
  have h := bytes_eq hx
  rw [listF_eq0] at h
  exact h i hi
theorem sumN_eq {x l : List Int} (hl : ∀ j, j < 16 → Byte (atL l j)) : listF 16 (sumN x l) 0 = listF 16 (byteN (leN 16 (bytesN x) 0 + leN 16 (atL l) 0)) 0 := by
  rw [← sum_spec (fun j _ => bytesN_byte x j) hl]
  rfl
end Go.Proofs.Ytejcjdhplpjpjaa
