/- Accounts of this seat's functions: lemmas, no statement of their own. No conditions. -/
import Derived.Test.YthciddlfnajchaaDoorV5
import Derived.Test.YthciddlfnajchaaDoorProg
import Derived.RangeFuncBox
import Derived.Shelf.Abstract
import Derived.OwnWalkIn
import Derived.TacticsInMore
import Derived.LoopNIn
import Derived.LoopIn
namespace Go.Proofs.Tryd
open Go Go.Vx

noncomputable def g0 : Ctx := { P := Tryd.prog, sum := fun _ => none, glob := fun _ => none }
theorem mixed : Tryd.prog.follows .mixedOrders = true := by kernel_rfl
theorem names : Tryd.prog.funcs.all (fun fn => !(fn.name == "runtime.NumGoroutine") || fn.body.isNone) = true := by kernel_rfl
theorem noGo (f : FuncId) (fn : Func) (c : Code) (h : Tryd.prog.funcs[f]? = some fn) (hb : fn.body = some c) : (fn.name == "runtime.NumGoroutine") = false := by
  have := Array.all_eq_true'.1 names fn (Array.mem_of_getElem? h)
  rw [hb] at this
  simpa using this
theorem g0_ok : CtxU g0 := CtxU.mk (fun f σ h => by simp [g0] at h) mixed noGo
theorem get_ok {f : FuncId} (h : (Tryd.prog.funcs[f]?).isSome = true) : Tryd.prog.funcs[f]? = some ((Tryd.prog.funcs[f]?).getD default) := by
  obtain ⟨x, hx⟩ := Option.isSome_iff_exists.1 h
  rw [hx]; rfl
theorem acc53 : Acc g0 53 loadF := fun args B out h hC =>
  load_ok (g := g0) (get_ok (f := 53) (by kernel_rfl)) (by kernel_rfl) (by kernel_rfl) (by kernel_rfl) (by kernel_rfl) args B out h hC
theorem acc55 : Acc g0 55 addF := fun args B out h hC =>
  add_ok (g := g0) (get_ok (f := 55) (by kernel_rfl)) (by kernel_rfl) (by kernel_rfl) (by kernel_rfl) (by kernel_rfl) args B out h hC
noncomputable abbrev gx : Ctx := g0.add [(53, loadF), (55, addF)]
theorem gx_ok : CtxU gx := g0_ok.add mixed noGo (by
  intro x hx
  simp only [List.mem_cons, List.not_mem_nil, or_false] at hx
  rcases hx with rfl | rfl
  · exact acc53
  · exact acc55)
theorem acc43 : Acc gx 43 logF := logF_ok gx_ok (fun k v n l => by kernel_rfl) (fun k v => by kernel_rfl)
theorem acc48 : Acc gx 48 opF := opF_ok gx_ok (fun k n l => by kernel_rfl) (fun k => by kernel_rfl)
theorem acc18 : Acc gx 18 newF := newF_ok gx_ok (by kernel_rfl)
theorem acc36 : Acc gx 36 totalF := totalF_ok gx_ok (fun n l => by kernel_rfl) (by kernel_rfl)
theorem acc32 : Acc gx 32 ifF := ifF_ok gx_ok (fun b n l => by cases b <;> kernel_rfl) (fun b => by cases b <;> kernel_rfl)
theorem acc38 : Acc gx 38 atF := atF_ok gx_ok (fun k n l => by kernel_rfl) (fun k => by kernel_rfl)
end Go.Proofs.Tryd

namespace Go.Proofs.Tryd
open Go Go.Vx Go.RowKit Go.Shelf
section
attribute [local go_sem] Oper.semAt_some

set_option maxRecDepth 100000 in
set_option maxHeartbeats 2000000 in
theorem since_has (bR oR bN oN b base b1 o1 cap : Nat) (xs : List (List Int)) (hfit : xs.length ≤ 9223372036854775807) :
    IterOk Tryd.prog 50 #[.pointer (some ⟨bR, oR, none⟩), .pointer (some ⟨bN, oN, none⟩)] evV xs (LogK bR oR bN oN b base b1 o1 cap xs) := by
  intro l J hK hY W h0
  have hk0 := hK _ _ h0
  refine callsIn_of_wp Tryd.func50 rfl trivial ?_ rfl
  simp only [Tryd.ntmps50, List.size_toArray, List.length_cons, List.length_nil, Nat.reduceAdd, Nat.reduceSub, Array.replicate_succ, Array.replicate_zero, List.push_toArray, List.append_toArray, List.nil_append, List.cons_append]
  have hr := hk0.r
  have hn := hk0.n
  have hs := hk0.s
  gi_wp2
  gi_loopw [5] (fun i wr => ∃ k : Nat, k ≤ xs.length ∧ i = .int .i64 k ∧ J (xs.take k) wr)
    (fun i _ => xs.length - (intOf i).toNat)
  case atStart => exact ⟨0, Nat.zero_le _, rfl, h0⟩
  case round =>
    obtain ⟨k, hk, rfl, hJs⟩ := hrel
    have hkk := hK _ _ hJs
    by_cases hlt : k < xs.length
    · have hx : xs = xs.take k ++ xs.getD k [] :: xs.drop (k + 1) := by
        conv => lhs; rw [← List.take_append_drop k xs, List.drop_eq_getElem_cons hlt]
        simp [hlt]
      obtain ⟨fn, tmps, assign, body, hy, hR⟩ := hY _ _ _ wr hx hJs
      have e0 := hkk.c0 k hlt
      have e1 := hkk.c1 k hlt
      unfold evV at hy
      clear hx
      generalize (xs.getD k []).getD 0 0 = v0 at hy e0
      generalize (xs.getD k []).getD 1 0 = v1 at hy e1
      gi_wp2
      refine ⟨rfl, hR.mono ?_⟩
      rintro e W3 ⟨rfl, hJ3⟩
      gi_wp2
      go_roundw
      case rel => exact ⟨k + 1, by omega, by simp, by rw [List.take_add_one]; simpa [hlt] using hJ3⟩
      case measure => simp [intOf]; omega
    · obtain rfl : k = xs.length := by omega
      gi_wp2
      go_end0
      exact ⟨⟨_, rfl⟩, by simpa using hJs⟩

set_option maxRecDepth 100000 in
set_option maxHeartbeats 2000000 in
theorem since_non (bR oR bN oN b base : Nat) :
    IterOk Tryd.prog 50 #[.pointer (some ⟨bR, oR, none⟩), .pointer (some ⟨bN, oN, none⟩)] evV [] (LogN bR oR bN oN b base) := by
  intro l J hK hY W h0
  have hk0 := hK _ _ h0
  refine callsIn_of_wp Tryd.func50 rfl trivial ?_ rfl
  simp only [Tryd.ntmps50, List.size_toArray, List.length_cons, List.length_nil, Nat.reduceAdd, Nat.reduceSub, Array.replicate_succ, Array.replicate_zero, List.push_toArray, List.append_toArray, List.nil_append, List.cons_append]
  have hr := hk0.r
  have hn := hk0.n
  have hs := hk0.s
  gi_wp2
  gi_loopw [5] (fun i wr => i = .int .i64 0 ∧ J [] wr) (fun _ _ => 0)
  case atStart => exact ⟨rfl, h0⟩
  case round =>
    obtain ⟨rfl, hJs⟩ := hrel
    gi_wp2
    go_end0
    exact ⟨⟨_, rfl⟩, hJs⟩
end

theorem since_ok : SinceOk Tryd.prog 50 := ⟨since_has, since_non⟩
noncomputable def evParts : RParts := rparts Tryd.f22.body
theorem events_acc (l : List (List Int)) (hl : l.length * 16 ≤ 2 ^ 47) : FnOk gx 22 [.ptr 0 0] [.log l] { val := .own 1, new := [.rows [.i64, .i64] l], C := [l.length * 16 ≤ 2 ^ 47] } :=
  events_ok (g := gx) gx_ok (f := 22) (gf := 50) (fn := Tryd.f22) (r := evParts) (m := 60) Tryd.func22 (by kernel_rfl) (by kernel_rfl) (by kernel_rfl) (by kernel_rfl) (by kernel_rfl) (by kernel_rfl)
    (enters_of Tryd.func50 (by kernel_rfl) rfl) since_ok (by constructor <;> kernel_rfl) hl
    (fun n => by kernel_rfl) (fun n pre a b => by kernel_rfl) (fun n pre => by kernel_rfl)
end Go.Proofs.Tryd

namespace Go.Proofs.Tryd
open Go Go.Vx

def eventsF : SumF := fun args B => match args, B with
  | [.ptr 0 0], [.log l] => some { val := .own 1, new := [.rows [.i64, .i64] l], C := [l.length * 16 ≤ 2 ^ 47] }
  | _, _ => none
theorem acc22 : Acc gx 22 eventsF := by
  intro args B out h hC
  unfold eventsF at h
  split at h
  · simp only [Option.some.injEq] at h; subst h
    exact events_acc _ (hC _ (by simp))
  · simp at h
noncomputable abbrev g1 : Ctx := gx.add [(48, opF), (18, newF), (36, totalF), (32, ifF), (38, atF), (22, eventsF)]
theorem g1_ok : CtxU g1 := gx_ok.add mixed noGo (by
  intro x hx
  simp only [List.mem_cons, List.not_mem_nil, or_false] at hx
  rcases hx with rfl | rfl | rfl | rfl | rfl | rfl
  · exact acc48
  · exact acc18
  · exact acc36
  · exact acc32
  · exact acc38
  · exact acc22)
end Go.Proofs.Tryd

namespace Go.Proofs.Tryd
open Go Go.Vx
/-! ### a mixing -/
def rotl (n : Int) (m : Int) (x : Int) : Int := uor (ushl .u32 x n) (ushr x m)
theorem ro16 (x : Int) : runF g1 60 [] 57 [.int .u32 x, .lit .i64 (-16)] [] [] = some (.int .u32 (rotl 16 16 x), [], []) := by kernel_rfl
theorem ro12 (x : Int) : runF g1 60 [] 57 [.int .u32 x, .lit .i64 (-12)] [] [] = some (.int .u32 (rotl 20 12 x), [], []) := by kernel_rfl
theorem ro8 (x : Int) : runF g1 60 [] 57 [.int .u32 x, .lit .i64 (-8)] [] [] = some (.int .u32 (rotl 24 8 x), [], []) := by kernel_rfl
theorem ro7 (x : Int) : runF g1 60 [] 57 [.int .u32 x, .lit .i64 (-7)] [] [] = some (.int .u32 (rotl 25 7 x), [], []) := by kernel_rfl
def F57 : SumF := fun args B => match args, B with
  | [.int .u32 x, .int .i64 (.negSucc 15)], [] => some { val := .int .u32 (rotl 16 16 x) }
  | [.int .u32 x, .int .i64 (.negSucc 11)], [] => some { val := .int .u32 (rotl 20 12 x) }
  | [.int .u32 x, .int .i64 (.negSucc 7)], [] => some { val := .int .u32 (rotl 24 8 x) }
  | [.int .u32 x, .int .i64 (.negSucc 6)], [] => some { val := .int .u32 (rotl 25 7 x) }
  | _, _ => none
theorem acc57 : Acc g1 57 F57 := by
  intro args B out h hC
  unfold F57 at h
  split at h
  · rename_i x
    simp only [Option.some.injEq] at h; subst h
    refine FnOk.imp (args' := [.int .u32 x, .lit .i64 (-16)]) ?_ ⟨DenImp.refl _, DenImp.lit, trivial⟩
    exact FnOk.pure g1_ok (ro16 x) (by simp [AllC])
  · rename_i x
    simp only [Option.some.injEq] at h; subst h
    refine FnOk.imp (args' := [.int .u32 x, .lit .i64 (-12)]) ?_ ⟨DenImp.refl _, DenImp.lit, trivial⟩
    exact FnOk.pure g1_ok (ro12 x) (by simp [AllC])
  · rename_i x
    simp only [Option.some.injEq] at h; subst h
    refine FnOk.imp (args' := [.int .u32 x, .lit .i64 (-8)]) ?_ ⟨DenImp.refl _, DenImp.lit, trivial⟩
    exact FnOk.pure g1_ok (ro8 x) (by simp [AllC])
  · rename_i x
    simp only [Option.some.injEq] at h; subst h
    refine FnOk.imp (args' := [.int .u32 x, .lit .i64 (-7)]) ?_ ⟨DenImp.refl _, DenImp.lit, trivial⟩
    exact FnOk.pure g1_ok (ro7 x) (by simp [AllC])
  · simp at h
noncomputable abbrev g2a : Ctx := g1.add [(57, F57)]
theorem g2a_ok : CtxU g2a := g1_ok.add mixed noGo (by
  intro x hx
  simp only [List.mem_cons, List.not_mem_nil, or_false] at hx
  rcases hx with rfl
  exact acc57)
def mxA (a b c d x y : Int) : Int := let a1 := uadd .u32 a (uadd .u32 b x); let d1 := rotl 16 16 (uxor d a1); let c1 := uadd .u32 c d1; let b1 := rotl 20 12 (uxor b c1); uadd .u32 a1 (uadd .u32 b1 y)
def mxD (a b c d x y : Int) : Int := let a1 := uadd .u32 a (uadd .u32 b x); let d1 := rotl 16 16 (uxor d a1); rotl 24 8 (uxor d1 (mxA a b c d x y))
def mxC (a b c d x y : Int) : Int := let a1 := uadd .u32 a (uadd .u32 b x); let d1 := rotl 16 16 (uxor d a1); let c1 := uadd .u32 c d1; uadd .u32 c1 (mxD a b c d x y)
def mxB (a b c d x y : Int) : Int := let a1 := uadd .u32 a (uadd .u32 b x); let d1 := rotl 16 16 (uxor d a1); let c1 := uadd .u32 c d1; let b1 := rotl 20 12 (uxor b c1); rotl 25 7 (uxor b1 (mxC a b c d x y))
theorem mix_run (a b c d x y : Int) : runF g2a 200 [] 56 [.int .u32 a, .int .u32 b, .int .u32 c, .int .u32 d, .int .u32 x, .int .u32 y] [] [] =
    some (.tuple [.int .u32 (mxA a b c d x y), .int .u32 (mxB a b c d x y), .int .u32 (mxC a b c d x y), .int .u32 (mxD a b c d x y)], [], []) := by kernel_rfl
def F56 : SumF := fun args B => match args, B with
  | [.int .u32 a, .int .u32 b, .int .u32 c, .int .u32 d, .int .u32 x, .int .u32 y], [] => some { val := .tuple [.int .u32 (mxA a b c d x y), .int .u32 (mxB a b c d x y), .int .u32 (mxC a b c d x y), .int .u32 (mxD a b c d x y)] }
  | _, _ => none
theorem acc56 : Acc g2a 56 F56 := by
  intro args B out h hC
  unfold F56 at h
  split at h
  · simp only [Option.some.injEq] at h; subst h
    exact FnOk.pure g2a_ok (mix_run _ _ _ _ _ _) (by simp [AllC])
  · simp at h
noncomputable abbrev g2b : Ctx := g2a.add [(56, F56)]
theorem g2b_ok : CtxU g2b := g2a_ok.add mixed noGo (by
  intro x hx
  simp only [List.mem_cons, List.not_mem_nil, or_false] at hx
  rcases hx with rfl
  exact acc56)
/-! ### a round -/
noncomputable abbrev w16 (x : Nat → Int) : List SV := svF (List.replicate 16 .u32) x 0
abbrev n16 (v : Nat → Int) : Nat → Int := atL (listF 16 v 0)
def rdC (v m : Nat → Int) : Nat → Int := atL [mxA (v 0) (v 4) (v 8) (v 12) (m 0) (m 1), mxA (v 1) (v 5) (v 9) (v 13) (m 2) (m 3), mxA (v 2) (v 6) (v 10) (v 14) (m 4) (m 5), mxA (v 3) (v 7) (v 11) (v 15) (m 6) (m 7), mxB (v 0) (v 4) (v 8) (v 12) (m 0) (m 1), mxB (v 1) (v 5) (v 9) (v 13) (m 2) (m 3), mxB (v 2) (v 6) (v 10) (v 14) (m 4) (m 5), mxB (v 3) (v 7) (v 11) (v 15) (m 6) (m 7), mxC (v 0) (v 4) (v 8) (v 12) (m 0) (m 1), mxC (v 1) (v 5) (v 9) (v 13) (m 2) (m 3), mxC (v 2) (v 6) (v 10) (v 14) (m 4) (m 5), mxC (v 3) (v 7) (v 11) (v 15) (m 6) (m 7), mxD (v 0) (v 4) (v 8) (v 12) (m 0) (m 1), mxD (v 1) (v 5) (v 9) (v 13) (m 2) (m 3), mxD (v 2) (v 6) (v 10) (v 14) (m 4) (m 5), mxD (v 3) (v 7) (v 11) (v 15) (m 6) (m 7)]
def rdD (v m : Nat → Int) : Nat → Int := atL [mxA (v 0) (v 5) (v 10) (v 15) (m 8) (m 9), mxA (v 1) (v 6) (v 11) (v 12) (m 10) (m 11), mxA (v 2) (v 7) (v 8) (v 13) (m 12) (m 13), mxA (v 3) (v 4) (v 9) (v 14) (m 14) (m 15), mxB (v 3) (v 4) (v 9) (v 14) (m 14) (m 15), mxB (v 0) (v 5) (v 10) (v 15) (m 8) (m 9), mxB (v 1) (v 6) (v 11) (v 12) (m 10) (m 11), mxB (v 2) (v 7) (v 8) (v 13) (m 12) (m 13), mxC (v 2) (v 7) (v 8) (v 13) (m 12) (m 13), mxC (v 3) (v 4) (v 9) (v 14) (m 14) (m 15), mxC (v 0) (v 5) (v 10) (v 15) (m 8) (m 9), mxC (v 1) (v 6) (v 11) (v 12) (m 10) (m 11), mxD (v 1) (v 6) (v 11) (v 12) (m 10) (m 11), mxD (v 2) (v 7) (v 8) (v 13) (m 12) (m 13), mxD (v 3) (v 4) (v 9) (v 14) (m 14) (m 15), mxD (v 0) (v 5) (v 10) (v 15) (m 8) (m 9)]
def rd (v m : Nat → Int) : Nat → Int := rdD (rdC v m) m
theorem rd_run (v m : Nat → Int) : runF g2b 600 [] 54 (.ptr 0 0 :: w16 m) [.cells (w16 v)] [] =
    some (.tuple [], [some (.cells (w16 (rd v m)))], []) := by kernel_rfl
noncomputable def F54 : SumF := fun args B => match args, B with
  | .ptr 0 0 :: ms, [.cells xs] => match numsAs (List.replicate 16 .u32) ms, numsAs (List.replicate 16 .u32) xs with
    | some lm, some lx => some { val := .tuple [], upd := [(0, some (.cells (w16 (rd (atL lx) (atL lm)))))] }
    | _, _ => none
  | _, _ => none
theorem acc54 : Acc g2b 54 F54 := by
  intro args B out h hC
  unfold F54 at h
  split at h
  · rename_i ms xs
    split at h
    · rename_i lm lx hm hx
      simp only [Option.some.injEq] at h; subst h
      refine FnOk.imp (args' := .ptr 0 0 :: w16 (atL lm)) ?_ ⟨DenImp.refl _, (impL_nums hm fun j _ => by rw [Nat.zero_add]; rfl).1⟩
      refine FnOk.preB (B' := [.cells (w16 (atL lx))]) ?_ ⟨cells_nums hx, trivial⟩ (fun j => by
        match j with
        | 0 => rfl
        | j + 1 => rfl)
      exact FnOk.run (new := []) g2b_ok (rd_run _ _) (by simp [AllC]) (by simp [upto]) rfl (by simp) (by simp) (fun j hj => by
        match j, hj with
        | 0, _ => rfl)
    · simp at h
  · simp at h
noncomputable abbrev g2c : Ctx := g2b.add [(54, F54)]
theorem g2c_ok : CtxU g2c := g2b_ok.add mixed noGo (by
  intro x hx
  simp only [List.mem_cons, List.not_mem_nil, or_false] at hx
  rcases hx with rfl
  exact acc54)
/-! ### the ten -/
def rows10 : List (List Nat) := [[0, 1, 2, 3, 4, 5, 6, 7, 8, 9, 10, 11, 12, 13, 14, 15], [14, 10, 4, 8, 9, 15, 13, 6, 1, 12, 0, 2, 11, 7, 5, 3], [11, 8, 12, 0, 5, 2, 15, 13, 10, 14, 3, 6, 7, 1, 9, 4], [7, 9, 3, 1, 13, 12, 11, 14, 2, 6, 5, 10, 4, 0, 15, 8], [9, 0, 5, 7, 2, 4, 10, 15, 14, 1, 11, 12, 6, 8, 3, 13], [2, 12, 6, 10, 0, 11, 8, 3, 4, 13, 7, 5, 15, 14, 1, 9], [12, 5, 1, 15, 14, 13, 4, 10, 0, 7, 6, 3, 9, 2, 8, 11], [13, 11, 7, 14, 12, 1, 3, 9, 5, 0, 15, 4, 8, 6, 2, 10], [6, 15, 14, 9, 11, 3, 0, 8, 12, 2, 13, 7, 1, 4, 10, 5], [10, 2, 8, 4, 7, 6, 1, 5, 15, 11, 9, 14, 3, 12, 13, 0]]
noncomputable def rds (v m : Nat → Int) : Nat → Int := rows10.foldl (fun v p => rd (n16 v) (atL (p.map m))) v
theorem rds_run (v m : Nat → Int) : runF g2c 900 [] 49 [.ptr 0 0, .ptr 1 0] [.cells (w16 v), .cells (w16 m)] [] =
    some (.tuple [], [some (.cells (w16 (rds v m))), some (.cells (w16 m))], []) := by kernel_rfl
noncomputable def F49 : SumF := fun args B => match args, B with
  | [.ptr 0 0, .ptr 1 0], [.cells xs, .cells ms] => match numsAs (List.replicate 16 .u32) ms, numsAs (List.replicate 16 .u32) xs with
    | some lm, some lx => some { val := .tuple [], upd := [(0, some (.cells (w16 (rds (atL lx) (atL lm))))), (1, some (.cells (w16 (atL lm))))] }
    | _, _ => none
  | _, _ => none
theorem acc49 : Acc g2c 49 F49 := by
  intro args B out h hC
  unfold F49 at h
  split at h
  · rename_i xs ms
    split at h
    · rename_i lm lx hm hx
      simp only [Option.some.injEq] at h; subst h
      refine FnOk.preB (B' := [.cells (w16 (atL lx)), .cells (w16 (atL lm))]) ?_ ⟨cells_nums hx, cells_nums hm, trivial⟩ (fun j => by
        match j with
        | 0 => rfl
        | 1 => rfl
        | j + 2 => rfl)
      exact FnOk.run (new := []) g2c_ok (rds_run _ _) (by simp [AllC]) (by simp [upto]) rfl (by simp) (by simp) (fun j hj => by
        match j, hj with
        | 0, _ => rfl
        | 1, _ => rfl)
    · simp at h
  · simp at h
noncomputable abbrev g2 : Ctx := g2c.add [(49, F49)]
theorem g2_ok : CtxU g2 := g2c_ok.add mixed noGo (by
  intro x hx
  simp only [List.mem_cons, List.not_mem_nil, or_false] at hx
  rcases hx with rfl
  exact acc49)
end Go.Proofs.Tryd

namespace Go.Proofs.Tryd
open Go Go.Vx
/-! ### a Hash: its numbers are size, state (8), count, block (64), held; a block is pressed -/
abbrev dgK : List IntKind := .i64 :: (List.replicate 8 .u32 ++ .u64 :: (List.replicate 64 .u8 ++ [.i64]))
abbrev nilR : SV := .raw (.pointer none)
noncomputable abbrev dgV (r : SV) (a : Nat → Int) : Body := .cells (r :: svF dgK a 0)
noncomputable abbrev w8 (x : Nat → Int) : List SV := svF (List.replicate 8 .u32) x 0
noncomputable abbrev b64 (x : Nat → Int) : List SV := svF (List.replicate 64 .u8) x 0
def wd (a b c d : Int) : Int := uor (uor (uor a (ushl .u32 b 8)) (ushl .u32 c 16)) (ushl .u32 d 24)
def mW (b : Nat → Int) : Nat → Int := atL [wd (b 0) (b 1) (b 2) (b 3), wd (b 4) (b 5) (b 6) (b 7), wd (b 8) (b 9) (b 10) (b 11), wd (b 12) (b 13) (b 14) (b 15),
  wd (b 16) (b 17) (b 18) (b 19), wd (b 20) (b 21) (b 22) (b 23), wd (b 24) (b 25) (b 26) (b 27), wd (b 28) (b 29) (b 30) (b 31),
  wd (b 32) (b 33) (b 34) (b 35), wd (b 36) (b 37) (b 38) (b 39), wd (b 40) (b 41) (b 42) (b 43), wd (b 44) (b 45) (b 46) (b 47),
  wd (b 48) (b 49) (b 50) (b 51), wd (b 52) (b 53) (b 54) (b 55), wd (b 56) (b 57) (b 58) (b 59), wd (b 60) (b 61) (b 62) (b 63)]
abbrev ivL : List Int := [1779033703, 3144134277, 1013904242, 2773480762, 1359893119, 2600822924, 528734635, 1541459225]
def v0 (s : Nat → Int) (c l : Int) : Nat → Int := atL [s 0, s 1, s 2, s 3, s 4, s 5, s 6, s 7, 1779033703, 3144134277, 1013904242, 2773480762,
  uxor 1359893119 (ucut .u32 c), uxor 2600822924 (ucut .u32 (ushr c 32)), uxor 528734635 l, 1541459225]
noncomputable def prS (s b : Nat → Int) (c l : Int) (j : Nat) : Int :=
  uxor (s j) (uxor (rds (v0 s c l) (mW b) j) (rds (v0 s c l) (mW b) (8 + j)))
/-- another state -/
def setS (v a : Nat → Int) (j : Nat) : Int := bif (Nat.ble 1 j).and (Nat.blt j 9) then v (j - 1) else a j
abbrev stA (a : Nat → Int) : Nat → Int := fun j => a (1 + j)
abbrev bkA (a : Nat → Int) : Nat → Int := fun j => a (10 + j)
theorem begin_run : runF g2 100 [] 33 [] [] [] = some (.agg (ivL.map (.lit .u32)), [], []) := by kernel_rfl
theorem pa_0 (a : Nat → Int) (c l : Int) : runF g2 2000 [] 37 [.ptr 0 0, .ptr 0 2, .ptr 0 11, .int .u64 c, .int .u32 l] [dgV nilR a] [] =
    some (.tuple [], [some (dgV nilR (setS (prS (stA a) (bkA a) c l) a))], []) := run_parts (by kernel_rfl) (by kernel_rfl) (by kernel_rfl)
theorem pa_1 (a : Nat → Int) (c l : Int) (w : List (List Int)) : runF g2 2000 [] 37 [.ptr 0 0, .ptr 0 2, .ptr 0 11, .int .u64 c, .int .u32 l] [dgV (.ptr 1 0) a, .log w] [] =
    some (.tuple [], [some (dgV (.ptr 1 0) (setS (prS (stA a) (bkA a) c l) a)), some (.log (w ++ [[3, 31]]))], [w.length < 1099511627776]) := run_parts (by kernel_rfl) (by kernel_rfl) (by kernel_rfl)
theorem pb_0 (a s b : Nat → Int) (c l : Int) : runF g2 2000 [] 37 [.ptr 0 0, .ptr 1 0, .ptr 2 0, .int .u64 c, .int .u32 l] [dgV nilR a, .cells (w8 s), .cells (b64 b)] [] =
    some (.tuple [], [some (dgV nilR a), some (.cells (w8 (prS s b c l))), some (.cells (b64 b))], []) := run_parts (by kernel_rfl) (by kernel_rfl) (by kernel_rfl)
theorem pb_1 (a s b : Nat → Int) (c l : Int) (w : List (List Int)) : runF g2 2000 [] 37 [.ptr 0 0, .ptr 1 0, .ptr 2 0, .int .u64 c, .int .u32 l] [dgV (.ptr 3 0) a, .cells (w8 s), .cells (b64 b), .log w] [] =
    some (.tuple [], [some (dgV (.ptr 3 0) a), some (.cells (w8 (prS s b c l))), some (.cells (b64 b)), some (.log (w ++ [[3, 31]]))], [w.length < 1099511627776]) := run_parts (by kernel_rfl) (by kernel_rfl) (by kernel_rfl)
def dgAs (ms : List SV) : Option (List Int) := numsAs dgK (ms.drop 1)
inductive HeadK where
  | nil | log1 | log2 | log3 | log4 | other
def headK (l : List SV) : HeadK := match l with
  | [.raw (.pointer none)] => .nil
  | [.ptr 1 0] => .log1
  | [.ptr 2 0] => .log2
  | [.ptr 3 0] => .log3
  | [.ptr 4 0] => .log4
  | _ => .other
theorem head_nil {l : List SV} (h : headK l = .nil) : l = [nilR] := by
  unfold headK at h; split at h <;> first | rfl | simp at h
theorem head_log1 {l : List SV} (h : headK l = .log1) : l = [.ptr 1 0] := by
  unfold headK at h; split at h <;> first | rfl | simp at h
theorem head_log2 {l : List SV} (h : headK l = .log2) : l = [.ptr 2 0] := by
  unfold headK at h; split at h <;> first | rfl | simp at h
theorem head_log3 {l : List SV} (h : headK l = .log3) : l = [.ptr 3 0] := by
  unfold headK at h; split at h <;> first | rfl | simp at h
theorem head_log4 {l : List SV} (h : headK l = .log4) : l = [.ptr 4 0] := by
  unfold headK at h; split at h <;> first | rfl | simp at h
theorem cells_dg {ms : List SV} {la : List Int} {r : SV} (h : dgAs ms = some la) (hr : ms.take 1 = [r]) (hr2 : isAggS r = false) : BImp (.cells ms) (dgV r (atL la)) ∧ ∀ l, Body.cells ms = .cells l → flatL l := by
  have a1 := impL_nums (i := 0) h (a := atL la) fun j _ => by rw [Nat.zero_add]; rfl
  have e : ms = [r] ++ ms.drop 1 := by rw [← hr, List.take_append_drop]
  refine ⟨?_, fun l hl => ?_⟩
  · have hI : ImpL ([r] ++ ms.drop 1) (r :: svF dgK (atL la) 0) := ⟨DenImp.refl _, a1.1⟩
    rw [← e] at hI
    exact .cells hI
  · injection hl with hl
    subst hl
    intro d hd
    rw [e] at hd
    rcases List.mem_append.1 hd with hd | hd
    · simp at hd; subst hd; exact hr2
    · exact a1.2 d hd
noncomputable def F37 : SumF := fun args B => match args, B with
  | [.ptr 0 0, .ptr 0 2, .ptr 0 11, .int .u64 c, .int .u32 l], [.cells ms] => match dgAs ms, headK (ms.take 1) with
    | some la, .nil => some { val := .tuple [], upd := [(0, some (dgV nilR (setS (prS (stA (atL la)) (bkA (atL la)) c l) (atL la))))] }
    | _, _ => none
  | [.ptr 0 0, .ptr 0 2, .ptr 0 11, .int .u64 c, .int .u32 l], [.cells ms, .log w] => match dgAs ms, headK (ms.take 1) with
    | some la, .log1 => some { val := .tuple [], upd := [(0, some (dgV (.ptr 1 0) (setS (prS (stA (atL la)) (bkA (atL la)) c l) (atL la)))), (1, some (.log (w ++ [[3, 31]])))], C := [w.length < 1099511627776] }
    | _, _ => none
  | [.ptr 0 0, .ptr 1 0, .ptr 2 0, .int .u64 c, .int .u32 l], [.cells ms, .cells ss, .cells bs] => match dgAs ms, headK (ms.take 1), numsAs (List.replicate 8 .u32) ss, numsAs (List.replicate 64 .u8) bs with
    | some la, .nil, some ls, some lb => some { val := .tuple [], upd := [(0, some (dgV nilR (atL la))), (1, some (.cells (w8 (prS (atL ls) (atL lb) c l)))), (2, some (.cells (b64 (atL lb))))] }
    | _, _, _, _ => none
  | [.ptr 0 0, .ptr 1 0, .ptr 2 0, .int .u64 c, .int .u32 l], [.cells ms, .cells ss, .cells bs, .log w] => match dgAs ms, headK (ms.take 1), numsAs (List.replicate 8 .u32) ss, numsAs (List.replicate 64 .u8) bs with
    | some la, .log3, some ls, some lb => some { val := .tuple [], upd := [(0, some (dgV (.ptr 3 0) (atL la))), (1, some (.cells (w8 (prS (atL ls) (atL lb) c l)))), (2, some (.cells (b64 (atL lb)))), (3, some (.log (w ++ [[3, 31]])))], C := [w.length < 1099511627776] }
    | _, _, _, _ => none
  | _, _ => none
theorem acc37 : Acc g2 37 F37 := by
  intro args B out h hC
  unfold F37 at h
  split at h
  · rename_i c l ms
    split at h
    · rename_i la ha hr
      have hr := head_nil hr
      simp only [Option.some.injEq] at h; subst h
      refine FnOk.preB (B' := [dgV nilR (atL la)]) ?_ ⟨cells_dg ha hr rfl, trivial⟩ (fun j => by
        match j with
        | 0 => rfl
        | j + 1 => rfl)
      exact FnOk.run (new := []) g2_ok (pa_0 (atL la) c l) (by simp [AllC]) (by simp [upto]) rfl (by simp) (by simp) (fun j hj => by
        match j, hj with
        | 0, _ => rfl)
    · simp at h
  · rename_i c l ms w
    split at h
    · rename_i la ha hr
      have hr := head_log1 hr
      simp only [Option.some.injEq] at h; subst h
      simp only [allC_cons, allC_nil, and_true] at hC
      refine FnOk.preB (B' := [dgV (.ptr 1 0) (atL la), .log w]) ?_ ⟨cells_dg ha hr rfl, ⟨BImp.refl _, fun _ h => by simp at h⟩, trivial⟩ (fun j => by
        match j with
        | 0 => rfl
        | 1 => rfl
        | j + 2 => rfl)
      exact FnOk.run (new := []) g2_ok (pa_1 (atL la) c l w) (by simp only [allC_cons, allC_nil, and_true]; exact hC) (by simp [upto]) rfl (by simp) (by simp) (fun j hj => by
        match j, hj with
        | 0, _ => rfl
        | 1, _ => rfl)
    · simp at h
  · rename_i c l ms ss bs
    split at h
    · rename_i la ls lb ha hr hs hb
      have hr := head_nil hr
      simp only [Option.some.injEq] at h; subst h
      refine FnOk.preB (B' := [dgV nilR (atL la), .cells (w8 (atL ls)), .cells (b64 (atL lb))]) ?_ ⟨cells_dg ha hr rfl, cells_nums hs, cells_nums hb, trivial⟩ (fun j => by
        match j with
        | 0 => rfl
        | 1 => rfl
        | 2 => rfl
        | j + 3 => rfl)
      exact FnOk.run (new := []) g2_ok (pb_0 (atL la) (atL ls) (atL lb) c l) (by simp [AllC]) (by simp [upto]) rfl (by simp) (by simp) (fun j hj => by
        match j, hj with
        | 0, _ => rfl
        | 1, _ => rfl
        | 2, _ => rfl)
    · simp at h
  · rename_i c l ms ss bs w
    split at h
    · rename_i la ls lb ha hr hs hb
      have hr := head_log3 hr
      simp only [Option.some.injEq] at h; subst h
      simp only [allC_cons, allC_nil, and_true] at hC
      refine FnOk.preB (B' := [dgV (.ptr 3 0) (atL la), .cells (w8 (atL ls)), .cells (b64 (atL lb)), .log w]) ?_ ⟨cells_dg ha hr rfl, cells_nums hs, cells_nums hb, ⟨BImp.refl _, fun _ h => by simp at h⟩, trivial⟩ (fun j => by
        match j with
        | 0 => rfl
        | 1 => rfl
        | 2 => rfl
        | 3 => rfl
        | j + 4 => rfl)
      exact FnOk.run (new := []) g2_ok (pb_1 (atL la) (atL ls) (atL lb) c l w) (by simp only [allC_cons, allC_nil, and_true]; exact hC) (by simp [upto]) rfl (by simp) (by simp) (fun j hj => by
        match j, hj with
        | 0, _ => rfl
        | 1, _ => rfl
        | 2, _ => rfl
        | 3, _ => rfl)
    · simp at h
  · simp at h
noncomputable def F33 : SumF := fun args B => match args, B with
  | [], [] => some { val := .agg (ivL.map (.int .u32)) }
  | _, _ => none
theorem acc33 : Acc g2 33 F33 := by
  intro args B out h hC
  unfold F33 at h
  split at h
  · simp only [Option.some.injEq] at h; subst h
    exact FnOk.val (FnOk.pure g2_ok begin_run (by simp [AllC])) (fun _ _ _ _ h => denV_norm h)
  · simp at h
noncomputable abbrev g3 : Ctx := g2.add [(37, F37)]
theorem g3_ok : CtxU g3 := g2_ok.add mixed noGo (by
  intro x hx
  simp only [List.mem_cons, List.not_mem_nil, or_false] at hx
  rcases hx with rfl
  exact acc37)
end Go.Proofs.Tryd

namespace Go.Proofs.Tryd
open Go Go.Vx
theorem r3_parts4 {α β γ δ : Type} {x : Option (α × β × γ × δ)} {a : α} {b : β} {c : γ} {d : δ} (h1 : x.map (·.1) = some a) (h2 : x.map (·.2.1) = some b) (h3 : x.map (·.2.2.1) = some c) (h4 : x.map (·.2.2.2) = some d) : x = some (a, b, c, d) := by
  cases x with
  | none => simp at h1
  | some y => obtain ⟨y1, y2, y3, y4⟩ := y; simp at h1 h2 h3 h4; simp [h1, h2, h3, h4]
section
variable {w0 : World} {O : Go.Vx.Own} {ρ : Rho} {w : World} {Φ : Nat → Foot}
theorem relH_impF {H H' : Nat → Option Body} (h : ∀ id bd, H' id = some bd → ∃ b0, H id = some b0 ∧ (b0 = bd ∨ (BImp b0 bd ∧ ∀ l, b0 = .cells l → flatL l))) (x : RelH w0 O ρ H w Φ) : RelH w0 O ρ H' w Φ := by
  have hn : ∀ id, H' id ≠ none → H id ≠ none := fun id h' e => by
    cases hb : H' id with
    | none => exact h' hb
    | some bd =>
      obtain ⟨b0, q, _⟩ := h id bd hb
      rw [e] at q; simp at q
  refine ⟨x.frame, fun id bd hb => ?_, fun id id' b o hne h1 h2 => x.disj id id' b o hne (hn _ h1) (hn _ h2), fun id b o h1 => x.mine id b o (hn _ h1)⟩
  obtain ⟨b0, q1, q2⟩ := h id bd hb
  obtain ⟨hd, g1, g2⟩ := x.holds id b0 q1
  rcases q2 with rfl | ⟨q2, q3⟩
  · exact ⟨hd, g1, g2⟩
  · exact ⟨hd, g1, holds_imp q2 q3 g2⟩
end
/-- a new chunk that says less -/
theorem FnOk.new1 {g : Ctx} {f : FuncId} {args : List SV} {B : List Body} {v : SV} {upd : List (Nat × Option Body)} {b b' : Body} {C : List Prop} (hb : BImp b b' ∧ ∀ l, b = .cells l → flatL l) (h : FnOk g f args B { val := v, upd, new := [b] }) : FnOk g f args B { val := v, upd, new := [b'], C } := by
  intro w0 O hG ρ Φ vs w d x hr
  refine (h w0 O hG ρ Φ vs w d x hr).mono fun u w' ⟨ρ', Φ', q1, q2, q3, q4⟩ => ⟨ρ', Φ', q1, q2, q3, relH_impF (fun id bd hbd => ?_) q4⟩
  unfold afterH newH at hbd ⊢
  simp only [newAll] at hbd ⊢
  by_cases hid : id = B.length
  · subst hid
    simp only [upH, if_true, Option.some.injEq] at hbd ⊢
    subst hbd
    exact ⟨b, rfl, .inr hb⟩
  · simp only [upH, if_neg hid] at hbd ⊢
    exact ⟨bd, hbd, .inl rfl⟩
/-! ### New -/
abbrev hd0 (n : Int) (k : List Int) : Int := uxor 1779033703 (uadd .u32 (uadd .u32 16842752 (umul .u32 256 (scut .u32 (k.length : Int)))) (scut .u32 n))
def blk0 (k : List Int) (j : Nat) : Int := if 0 ≤ j ∧ j < 0 + (k.take 64).length then (k.take 64).getD j 0 else 0
/-- what New lays: the size, the state, the count, the block, what is held -/
def nwL (n : Int) (k : List Int) : List Int := n :: hd0 n k :: (ivL.drop 1 ++ 0 :: (listF 64 (blk0 k) 0 ++ [if 0 < k.length then 64 else 0]))
abbrev nwA (n : Int) (k : List Int) : Nat → Int := atL (nwL n k)
abbrev nwC (n : Int) (k : List Int) (b : Bool) : List Prop := [decide (n < 1) = false, decide (32 < n) = false, Fits .i64 (k.length : Int), decide ((32 : Int) < (k.length : Int)) = false, Fits .i64 (k.length : Int), Fits .i64 (k.length : Int), decide ((0 : Int) < (k.length : Int)) = b]
noncomputable abbrev nwB (r : SV) (n : Int) (h : Int) (t : List SV) : Body := .cells (r :: .int .i64 n :: .int .u32 h :: ((ivL.drop 1).map (.lit .u32) ++ .lit .u64 0 :: t))
abbrev z64 : List SV := List.replicate 64 (.lit .u8 0) ++ [.lit .i64 0]
theorem nw_a (n : Int) (k : List Int) : runF g3 400 [.br false, .br false, .br false, .br true] 10 [nilR, .int .i64 n, .roi .u8 k] [] [1] =
    some (.tuple [.ptr 0 0, .raw .nilIface], [some (nwB nilR n (hd0 n k) (svF (List.replicate 64 .u8) (blk0 k) 0 ++ [.lit .i64 64]))], nwC n k true ++ [Fits .i64 ((min k.length 64 : Nat) : Int), 0 + (k.take 64).length ≤ 64]) := run_parts (by kernel_rfl) (by kernel_rfl) (by kernel_rfl)
theorem nw_b (n : Int) (k : List Int) : runF g3 400 [.br false, .br false, .br false, .br false] 10 [nilR, .int .i64 n, .roi .u8 k] [] [1] =
    some (.tuple [.ptr 0 0, .raw .nilIface], [some (nwB nilR n (hd0 n k) z64)], nwC n k false) := run_parts (by kernel_rfl) (by kernel_rfl) (by kernel_rfl)
theorem nw_c (n : Int) : runF g3 400 [.br false, .br false, .br false, .br false] 10 [nilR, .int .i64 n, .raw (.slice none 0 0)] [] [1] =
    some (.tuple [.ptr 0 0, .raw .nilIface], [some (nwB nilR n (uxor 1779033703 (uadd .u32 16842752 (scut .u32 n))) z64)], [decide (n < 1) = false, decide (32 < n) = false, false = false, false = false]) := run_parts (by kernel_rfl) (by kernel_rfl) (by kernel_rfl)
theorem dg_of {ms : List SV} {la : List Int} {r : SV} (h : dgAs ms = some la) (hr : ms.take 1 = [r]) (hr2 : isAggS r = false) {a : Nat → Int} (ha : atL la = a) : BImp (.cells ms) (dgV r a) ∧ ∀ l, Body.cells ms = .cells l → flatL l := by
  subst ha; exact cells_dg h hr hr2
theorem nwL_nil (n : Int) : nwL n [] = n :: uxor 1779033703 (uadd .u32 16842752 (scut .u32 n)) :: (ivL.drop 1 ++ 0 :: (List.replicate 64 0 ++ [0])) := by kernel_rfl
noncomputable def F10 : SumF := fun args B => match args, B with
  | [.raw (.pointer none), .int .i64 n, .roi K k], [] => match sameK K .u8 with
    | true => some { val := .tuple [.ptr 0 0, .raw .nilIface], new := [dgV nilR (nwA n k)], C := [1 ≤ n, n ≤ 32, k.length ≤ 32] }
    | _ => none
  | [.raw (.pointer none), .int .i64 n, .raw (.slice none 0 0)], [] => some { val := .tuple [.ptr 0 0, .raw .nilIface], new := [dgV nilR (nwA n [])], C := [1 ≤ n, n ≤ 32] }
  | _, _ => none
theorem acc10 : Acc g3 10 F10 := by
  intro args B out h hC
  unfold F10 at h
  split at h
  · rename_i n K k
    split at h
    · rename_i hK
      obtain rfl := kidx_inj hK
      simp only [Option.some.injEq] at h; subst h
      simp only [allC_cons, allC_nil, and_true] at hC
      obtain ⟨h1, h2, h3⟩ := hC
      have F : Fits .i64 (k.length : Int) := fits_of (by omega) (by omega)
      have cs : ∀ b, decide ((0 : Int) < (k.length : Int)) = b → AllC (nwC n k b) := fun b hb => by
        simp only [nwC, allC_cons, allC_nil, and_true]
        exact ⟨decide_eq_false (by omega), decide_eq_false (by omega), F, decide_eq_false (by omega), F, F, hb⟩
      by_cases hk : 0 < k.length
      · refine FnOk.new1 (b := nwB nilR n (hd0 n k) (svF (List.replicate 64 .u8) (blk0 k) 0 ++ [.lit .i64 64])) ?_ ?_
        · refine dg_of (la := n :: hd0 n k :: (ivL.drop 1 ++ 0 :: (listF 64 (blk0 k) 0 ++ [64]))) (by kernel_rfl) rfl rfl ?_
          rw [nwA, nwL, if_pos hk]
        · refine FnOk.run (out := { val := .tuple [.ptr 0 0, .raw .nilIface], new := [nwB nilR n (hd0 n k) (svF (List.replicate 64 .u8) (blk0 k) 0 ++ [.lit .i64 64])] }) (new := [1]) g3_ok (nw_a n k) (allC_append.2 ⟨cs _ (decide_eq_true (by omega)), ?_⟩) (by simp [upto]) rfl (by simp) (by simp) (fun j hj => by
            match j, hj with
            | 0, _ => rfl)
          have : (k.take 64).length ≤ 64 := by rw [List.length_take]; omega
          simp only [allC_cons, allC_nil, and_true]
          exact ⟨fits_of (by omega) (by omega), by omega⟩
      · obtain rfl : k = [] := List.length_eq_zero_iff.1 (by omega)
        refine FnOk.new1 (b := nwB nilR n (hd0 n []) z64) ?_ ?_
        · exact dg_of (la := n :: hd0 n [] :: (ivL.drop 1 ++ 0 :: (List.replicate 64 0 ++ [0]))) (by kernel_rfl) rfl rfl (by kernel_rfl)
        · exact FnOk.run (out := { val := .tuple [.ptr 0 0, .raw .nilIface], new := [nwB nilR n (hd0 n []) z64] }) (new := [1]) g3_ok (nw_b n []) (cs _ (decide_eq_false (by omega))) (by simp [upto]) rfl (by simp) (by simp) (fun j hj => by
            match j, hj with
            | 0, _ => rfl)
    · simp at h
  · rename_i n
    simp only [Option.some.injEq] at h; subst h
    simp only [allC_cons, allC_nil, and_true] at hC
    obtain ⟨h1, h2⟩ := hC
    refine FnOk.new1 (b := nwB nilR n (uxor 1779033703 (uadd .u32 16842752 (scut .u32 n))) z64) ?_ ?_
    · exact dg_of (la := n :: uxor 1779033703 (uadd .u32 16842752 (scut .u32 n)) :: (ivL.drop 1 ++ 0 :: (List.replicate 64 0 ++ [0]))) (by kernel_rfl) rfl rfl (by rw [nwA, nwL_nil])
    · refine FnOk.run (out := { val := .tuple [.ptr 0 0, .raw .nilIface], new := [nwB nilR n (uxor 1779033703 (uadd .u32 16842752 (scut .u32 n))) z64] }) (new := [1]) g3_ok (nw_c n) ?_ (by simp [upto]) rfl (by simp) (by simp) (fun j hj => by
        match j, hj with
        | 0, _ => rfl)
      simp only [allC_cons, allC_nil, and_true]
      exact ⟨decide_eq_false (by omega), decide_eq_false (by omega)⟩
  · simp at h
theorem flat_lit {cs : List SV} (h : cs.all (fun c => !isAggS c) = true) : flatL cs := fun d hd => by
  have := List.all_eq_true.1 h d hd
  simpa using this
end Go.Proofs.Tryd
