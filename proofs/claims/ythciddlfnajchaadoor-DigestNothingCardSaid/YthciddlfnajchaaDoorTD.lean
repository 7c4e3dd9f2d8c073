/- Accounts of this seat's functions: lemmas, no statement of their own. No conditions. -/
import Derived.Test.YthciddlfnajchaaDoorTC
import Derived.Test.YthciddlfnajchaaDoorV5
namespace Go.Proofs.Tryd
open Go Go.Vx
/-! ### a Hash: its numbers are size, state (8), count, block (64), held; a block is pressed -/
abbrev dgK : List IntKind := .i64 :: (List.replicate 8 .u32 ++ .u64 :: (List.replicate 64 .u8 ++ [.i64]))
abbrev nilR : SV := .raw (.pointer none)
noncomputable abbrev dgV (r : SV) (a : Nat → Int) : Body := .cells (r :: svF dgK a 0)
noncomputable abbrev w8 (x : Nat → Int) : List SV := svF (List.replicate 8 .u32) x 0
noncomputable abbrev b64 (x : Nat → Int) : List SV := svF (List.replicate 64 .u8) x 0
def wd (a b c d : Int) : Int := uor (uor (uor a (ushl .u32 b 8)) (ushl .u32 c 16)) (ushl .u32 d 24)
def mW (b : Nat → Int) : Nat → Int := atL [wd (b 0) (b 1) (b 2) (b 3), wd (b 4) (b 5) (b 6) (b 7), wd (b 8) (b 9) (b 10) (b 11), wd (b 12) (b 13) (b 14) (b 15),
  wd (b 16) (b 17) (b 18) (b 19), wd (b 20) (b 21) (b 22) (b 23), wd (b 24) (b 25) (b 26) (b 27), wd (b 28) (b 29) (b 30) (b 31),
  wd (b 32) (b 33) (b 34) (b 35), wd (b 36) (b 37) (b 38) (b 39), wd (b 40) (b 41) (b 42) (b 43), wd (b 44) (b 45) (b 46) (b 47),
  wd (b 48) (b 49) (b 50) (b 51), wd (b 52) (b 53) (b 54) (b 55), wd (b 56) (b 57) (b 58) (b 59), wd (b 60) (b 61) (b 62) (b 63)]
abbrev ivL : List Int := [1779033703, 3144134277, 1013904242, 2773480762, 1359893119, 2600822924, 528734635, 1541459225]
def v0 (s : Nat → Int) (c l : Int) : Nat → Int := atL [s 0, s 1, s 2, s 3, s 4, s 5, s 6, s 7, 1779033703, 3144134277, 1013904242, 2773480762,
  uxor 1359893119 (ucut .u32 c), uxor 2600822924 (ucut .u32 (ushr c 32)), uxor 528734635 l, 1541459225]
noncomputable def prS (s b : Nat → Int) (c l : Int) (j : Nat) : Int :=
  uxor (s j) (uxor (rds (v0 s c l) (mW b) j) (rds (v0 s c l) (mW b) (8 + j)))
/-- another state -/
def setS (v a : Nat → Int) (j : Nat) : Int := bif (Nat.ble 1 j).and (Nat.blt j 9) then v (j - 1) else a j
abbrev stA (a : Nat → Int) : Nat → Int := fun j => a (1 + j)
abbrev bkA (a : Nat → Int) : Nat → Int := fun j => a (10 + j)
theorem begin_run : runF g2 100 [] 33 [] [] [] = some (.agg (ivL.map (.lit .u32)), [], []) := by kernel_rfl
theorem pa_0 (a : Nat → Int) (c l : Int) : runF g2 2000 [] 37 [.ptr 0 0, .ptr 0 2, .ptr 0 11, .int .u64 c, .int .u32 l] [dgV nilR a] [] =
    some (.tuple [], [some (dgV nilR (setS (prS (stA a) (bkA a) c l) a))], []) := run_parts (by kernel_rfl) (by kernel_rfl) (by kernel_rfl)
theorem pa_1 (a : Nat → Int) (c l : Int) (w : List (List Int)) : runF g2 2000 [] 37 [.ptr 0 0, .ptr 0 2, .ptr 0 11, .int .u64 c, .int .u32 l] [dgV (.ptr 1 0) a, .log w] [] =
    some (.tuple [], [some (dgV (.ptr 1 0) (setS (prS (stA a) (bkA a) c l) a)), some (.log (w ++ [[3, 31]]))], [w.length < 1099511627776]) := run_parts (by kernel_rfl) (by kernel_rfl) (by kernel_rfl)
theorem pb_0 (a s b : Nat → Int) (c l : Int) : runF g2 2000 [] 37 [.ptr 0 0, .ptr 1 0, .ptr 2 0, .int .u64 c, .int .u32 l] [dgV nilR a, .cells (w8 s), .cells (b64 b)] [] =
    some (.tuple [], [some (dgV nilR a), some (.cells (w8 (prS s b c l))), some (.cells (b64 b))], []) := run_parts (by kernel_rfl) (by kernel_rfl) (by kernel_rfl)
theorem pb_1 (a s b : Nat → Int) (c l : Int) (w : List (List Int)) : runF g2 2000 [] 37 [.ptr 0 0, .ptr 1 0, .ptr 2 0, .int .u64 c, .int .u32 l] [dgV (.ptr 3 0) a, .cells (w8 s), .cells (b64 b), .log w] [] =
    some (.tuple [], [some (dgV (.ptr 3 0) a), some (.cells (w8 (prS s b c l))), some (.cells (b64 b)), some (.log (w ++ [[3, 31]]))], [w.length < 1099511627776]) := run_parts (by kernel_rfl) (by kernel_rfl) (by kernel_rfl)
def dgAs (ms : List SV) : Option (List Int) := numsAs dgK (ms.drop 1)
inductive HeadK where
  | nil | log1 | log2 | log3 | log4 | other
def headK (l : List SV) : HeadK := match l with
  | [.raw (.pointer none)] => .nil
  | [.ptr 1 0] => .log1
  | [.ptr 2 0] => .log2
  | [.ptr 3 0] => .log3
  | [.ptr 4 0] => .log4
  | _ => .other
theorem head_nil {l : List SV} (h : headK l = .nil) : l = [nilR] := by
  unfold headK at h; split at h <;> first | rfl | simp at h
theorem head_log1 {l : List SV} (h : headK l = .log1) : l = [.ptr 1 0] := by
  unfold headK at h; split at h <;> first | rfl | simp at h
theorem head_log2 {l : List SV} (h : headK l = .log2) : l = [.ptr 2 0] := by
  unfold headK at h; split at h <;> first | rfl | simp at h
theorem head_log3 {l : List SV} (h : headK l = .log3) : l = [.ptr 3 0] := by
  unfold headK at h; split at h <;> first | rfl | simp at h
theorem head_log4 {l : List SV} (h : headK l = .log4) : l = [.ptr 4 0] := by
  unfold headK at h; split at h <;> first | rfl | simp at h
theorem cells_dg {ms : List SV} {la : List Int} {r : SV} (h : dgAs ms = some la) (hr : ms.take 1 = [r]) (hr2 : isAggS r = false) : BImp (.cells ms) (dgV r (atL la)) ∧ ∀ l, Body.cells ms = .cells l → flatL l := by
  have a1 := impL_nums (i := 0) h (a := atL la) fun j _ => by rw [Nat.zero_add]; rfl
  have e : ms = [r] ++ ms.drop 1 := by rw [← hr, List.take_append_drop]
  refine ⟨?_, fun l hl => ?_⟩
  · have hI : ImpL ([r] ++ ms.drop 1) (r :: svF dgK (atL la) 0) := ⟨DenImp.refl _, a1.1⟩
    rw [← e] at hI
    exact .cells hI
  · injection hl with hl
    subst hl
    intro d hd
    rw [e] at hd
    rcases List.mem_append.1 hd with hd | hd
    · simp at hd; subst hd; exact hr2
    · exact a1.2 d hd
noncomputable def F37 : SumF := fun args B => match args, B with
  | [.ptr 0 0, .ptr 0 2, .ptr 0 11, .int .u64 c, .int .u32 l], [.cells ms] => match dgAs ms, headK (ms.take 1) with
    | some la, .nil => some { val := .tuple [], upd := [(0, some (dgV nilR (setS (prS (stA (atL la)) (bkA (atL la)) c l) (atL la))))] }
    | _, _ => none
  | [.ptr 0 0, .ptr 0 2, .ptr 0 11, .int .u64 c, .int .u32 l], [.cells ms, .log w] => match dgAs ms, headK (ms.take 1) with
    | some la, .log1 => some { val := .tuple [], upd := [(0, some (dgV (.ptr 1 0) (setS (prS (stA (atL la)) (bkA (atL la)) c l) (atL la)))), (1, some (.log (w ++ [[3, 31]])))], C := [w.length < 1099511627776] }
    | _, _ => none
  | [.ptr 0 0, .ptr 1 0, .ptr 2 0, .int .u64 c, .int .u32 l], [.cells ms, .cells ss, .cells bs] => match dgAs ms, headK (ms.take 1), numsAs (List.replicate 8 .u32) ss, numsAs (List.replicate 64 .u8) bs with
    | some la, .nil, some ls, some lb => some { val := .tuple [], upd := [(0, some (dgV nilR (atL la))), (1, some (.cells (w8 (prS (atL ls) (atL lb) c l)))), (2, some (.cells (b64 (atL lb))))] }
    | _, _, _, _ => none
  | [.ptr 0 0, .ptr 1 0, .ptr 2 0, .int .u64 c, .int .u32 l], [.cells ms, .cells ss, .cells bs, .log w] => match dgAs ms, headK (ms.take 1), numsAs (List.replicate 8 .u32) ss, numsAs (List.replicate 64 .u8) bs with
    | some la, .log3, some ls, some lb => some { val := .tuple [], upd := [(0, some (dgV (.ptr 3 0) (atL la))), (1, some (.cells (w8 (prS (atL ls) (atL lb) c l)))), (2, some (.cells (b64 (atL lb)))), (3, some (.log (w ++ [[3, 31]])))], C := [w.length < 1099511627776] }
    | _, _, _, _ => none
  | _, _ => none
theorem acc37 : Acc g2 37 F37 := by
  intro args B out h hC
  unfold F37 at h
  split at h
  · rename_i c l ms
    split at h
    · rename_i la ha hr
      have hr := head_nil hr
      simp only [Option.some.injEq] at h; subst h
      refine FnOk.preB (B' := [dgV nilR (atL la)]) ?_ ⟨cells_dg ha hr rfl, trivial⟩ (fun j => by
        match j with
        | 0 => rfl
        | j + 1 => rfl)
      exact FnOk.run (new := []) g2_ok (pa_0 (atL la) c l) (by simp [AllC]) (by simp [upto]) rfl (by simp) (by simp) (fun j hj => by
        match j, hj with
        | 0, _ => rfl)
    · simp at h
  · rename_i c l ms w
    split at h
    · rename_i la ha hr
      have hr := head_log1 hr
      simp only [Option.some.injEq] at h; subst h
      simp only [allC_cons, allC_nil, and_true] at hC
      refine FnOk.preB (B' := [dgV (.ptr 1 0) (atL la), .log w]) ?_ ⟨cells_dg ha hr rfl, ⟨BImp.refl _, fun _ h => by simp at h⟩, trivial⟩ (fun j => by
        match j with
        | 0 => rfl
        | 1 => rfl
        | j + 2 => rfl)
      exact FnOk.run (new := []) g2_ok (pa_1 (atL la) c l w) (by simp only [allC_cons, allC_nil, and_true]; exact hC) (by simp [upto]) rfl (by simp) (by simp) (fun j hj => by
        match j, hj with
        | 0, _ => rfl
        | 1, _ => rfl)
    · simp at h
  · rename_i c l ms ss bs
    split at h
    · rename_i la ls lb ha hr hs hb
      have hr := head_nil hr
      simp only [Option.some.injEq] at h; subst h
      refine FnOk.preB (B' := [dgV nilR (atL la), .cells (w8 (atL ls)), .cells (b64 (atL lb))]) ?_ ⟨cells_dg ha hr rfl, cells_nums hs, cells_nums hb, trivial⟩ (fun j => by
        match j with
        | 0 => rfl
        | 1 => rfl
        | 2 => rfl
        | j + 3 => rfl)
      exact FnOk.run (new := []) g2_ok (pb_0 (atL la) (atL ls) (atL lb) c l) (by simp [AllC]) (by simp [upto]) rfl (by simp) (by simp) (fun j hj => by
        match j, hj with
        | 0, _ => rfl
        | 1, _ => rfl
        | 2, _ => rfl)
    · simp at h
  · rename_i c l ms ss bs w
    split at h
    · rename_i la ls lb ha hr hs hb
      have hr := head_log3 hr
      simp only [Option.some.injEq] at h; subst h
      simp only [allC_cons, allC_nil, and_true] at hC
      refine FnOk.preB (B' := [dgV (.ptr 3 0) (atL la), .cells (w8 (atL ls)), .cells (b64 (atL lb)), .log w]) ?_ ⟨cells_dg ha hr rfl, cells_nums hs, cells_nums hb, ⟨BImp.refl _, fun _ h => by simp at h⟩, trivial⟩ (fun j => by
        match j with
        | 0 => rfl
        | 1 => rfl
        | 2 => rfl
        | 3 => rfl
        | j + 4 => rfl)
      exact FnOk.run (new := []) g2_ok (pb_1 (atL la) (atL ls) (atL lb) c l w) (by simp only [allC_cons, allC_nil, and_true]; exact hC) (by simp [upto]) rfl (by simp) (by simp) (fun j hj => by
        match j, hj with
        | 0, _ => rfl
        | 1, _ => rfl
        | 2, _ => rfl
        | 3, _ => rfl)
    · simp at h
  · simp at h
noncomputable def F33 : SumF := fun args B => match args, B with
  | [], [] => some { val := .agg (ivL.map (.int .u32)) }
  | _, _ => none
theorem acc33 : Acc g2 33 F33 := by
  intro args B out h hC
  unfold F33 at h
  split at h
  · simp only [Option.some.injEq] at h; subst h
    exact FnOk.val (FnOk.pure g2_ok begin_run (by simp [AllC])) (fun _ _ _ _ h => denV_norm h)
  · simp at h
noncomputable abbrev g3 : Ctx := g2.add [(37, F37)]
theorem g3_ok : CtxU g3 := g2_ok.add mixed noGo (by
  intro x hx
  simp only [List.mem_cons, List.not_mem_nil, or_false] at hx
  rcases hx with rfl
  exact acc37)
end Go.Proofs.Tryd
