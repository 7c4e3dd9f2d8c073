/- Accounts of this seat's functions: lemmas, no statement of their own. No conditions. -/
import Derived.Test.YthciddlfnajchaaDoorV5
import Derived.Test.YthciddlfnajchaaDoorTB
namespace Go.Proofs.Tryd
open Go Go.Vx
/-! ### a mixing -/
def rotl (n : Int) (m : Int) (x : Int) : Int := uor (ushl .u32 x n) (ushr x m)
theorem ro16 (x : Int) : runF g1 60 [] 57 [.int .u32 x, .lit .i64 (-16)] [] [] = some (.int .u32 (rotl 16 16 x), [], []) := by kernel_rfl
theorem ro12 (x : Int) : runF g1 60 [] 57 [.int .u32 x, .lit .i64 (-12)] [] [] = some (.int .u32 (rotl 20 12 x), [], []) := by kernel_rfl
theorem ro8 (x : Int) : runF g1 60 [] 57 [.int .u32 x, .lit .i64 (-8)] [] [] = some (.int .u32 (rotl 24 8 x), [], []) := by kernel_rfl
theorem ro7 (x : Int) : runF g1 60 [] 57 [.int .u32 x, .lit .i64 (-7)] [] [] = some (.int .u32 (rotl 25 7 x), [], []) := by kernel_rfl
def F57 : SumF := fun args B => match args, B with
  | [.int .u32 x, .int .i64 (.negSucc 15)], [] => some { val := .int .u32 (rotl 16 16 x) }
  | [.int .u32 x, .int .i64 (.negSucc 11)], [] => some { val := .int .u32 (rotl 20 12 x) }
  | [.int .u32 x, .int .i64 (.negSucc 7)], [] => some { val := .int .u32 (rotl 24 8 x) }
  | [.int .u32 x, .int .i64 (.negSucc 6)], [] => some { val := .int .u32 (rotl 25 7 x) }
  | _, _ => none
theorem acc57 : Acc g1 57 F57 := by
  intro args B out h hC
  unfold F57 at h
  split at h
  · rename_i x
    simp only [Option.some.injEq] at h; subst h
    refine FnOk.imp (args' := [.int .u32 x, .lit .i64 (-16)]) ?_ ⟨DenImp.refl _, DenImp.lit, trivial⟩
    exact FnOk.pure g1_ok (ro16 x) (by simp [AllC])
  · rename_i x
    simp only [Option.some.injEq] at h; subst h
    refine FnOk.imp (args' := [.int .u32 x, .lit .i64 (-12)]) ?_ ⟨DenImp.refl _, DenImp.lit, trivial⟩
    exact FnOk.pure g1_ok (ro12 x) (by simp [AllC])
  · rename_i x
    simp only [Option.some.injEq] at h; subst h
    refine FnOk.imp (args' := [.int .u32 x, .lit .i64 (-8)]) ?_ ⟨DenImp.refl _, DenImp.lit, trivial⟩
    exact FnOk.pure g1_ok (ro8 x) (by simp [AllC])
  · rename_i x
    simp only [Option.some.injEq] at h; subst h
    refine FnOk.imp (args' := [.int .u32 x, .lit .i64 (-7)]) ?_ ⟨DenImp.refl _, DenImp.lit, trivial⟩
    exact FnOk.pure g1_ok (ro7 x) (by simp [AllC])
  · simp at h
noncomputable abbrev g2a : Ctx := g1.add [(57, F57)]
theorem g2a_ok : CtxU g2a := g1_ok.add mixed noGo (by
  intro x hx
  simp only [List.mem_cons, List.not_mem_nil, or_false] at hx
  rcases hx with rfl
  exact acc57)
def mxA (a b c d x y : Int) : Int := let a1 := uadd .u32 a (uadd .u32 b x); let d1 := rotl 16 16 (uxor d a1); let c1 := uadd .u32 c d1; let b1 := rotl 20 12 (uxor b c1); uadd .u32 a1 (uadd .u32 b1 y)
def mxD (a b c d x y : Int) : Int := let a1 := uadd .u32 a (uadd .u32 b x); let d1 := rotl 16 16 (uxor d a1); rotl 24 8 (uxor d1 (mxA a b c d x y))
def mxC (a b c d x y : Int) : Int := let a1 := uadd .u32 a (uadd .u32 b x); let d1 := rotl 16 16 (uxor d a1); let c1 := uadd .u32 c d1; uadd .u32 c1 (mxD a b c d x y)
def mxB (a b c d x y : Int) : Int := let a1 := uadd .u32 a (uadd .u32 b x); let d1 := rotl 16 16 (uxor d a1); let c1 := uadd .u32 c d1; let b1 := rotl 20 12 (uxor b c1); rotl 25 7 (uxor b1 (mxC a b c d x y))
theorem mix_run (a b c d x y : Int) : runF g2a 200 [] 56 [.int .u32 a, .int .u32 b, .int .u32 c, .int .u32 d, .int .u32 x, .int .u32 y] [] [] =
    some (.tuple [.int .u32 (mxA a b c d x y), .int .u32 (mxB a b c d x y), .int .u32 (mxC a b c d x y), .int .u32 (mxD a b c d x y)], [], []) := by kernel_rfl
def F56 : SumF := fun args B => match args, B with
  | [.int .u32 a, .int .u32 b, .int .u32 c, .int .u32 d, .int .u32 x, .int .u32 y], [] => some { val := .tuple [.int .u32 (mxA a b c d x y), .int .u32 (mxB a b c d x y), .int .u32 (mxC a b c d x y), .int .u32 (mxD a b c d x y)] }
  | _, _ => none
theorem acc56 : Acc g2a 56 F56 := by
  intro args B out h hC
  unfold F56 at h
  split at h
  · simp only [Option.some.injEq] at h; subst h
    exact FnOk.pure g2a_ok (mix_run _ _ _ _ _ _) (by simp [AllC])
  · simp at h
noncomputable abbrev g2b : Ctx := g2a.add [(56, F56)]
theorem g2b_ok : CtxU g2b := g2a_ok.add mixed noGo (by
  intro x hx
  simp only [List.mem_cons, List.not_mem_nil, or_false] at hx
  rcases hx with rfl
  exact acc56)
/-! ### a round -/
noncomputable abbrev w16 (x : Nat → Int) : List SV := svF (List.replicate 16 .u32) x 0
abbrev n16 (v : Nat → Int) : Nat → Int := atL (listF 16 v 0)
def rdC (v m : Nat → Int) : Nat → Int := atL [mxA (v 0) (v 4) (v 8) (v 12) (m 0) (m 1), mxA (v 1) (v 5) (v 9) (v 13) (m 2) (m 3), mxA (v 2) (v 6) (v 10) (v 14) (m 4) (m 5), mxA (v 3) (v 7) (v 11) (v 15) (m 6) (m 7), mxB (v 0) (v 4) (v 8) (v 12) (m 0) (m 1), mxB (v 1) (v 5) (v 9) (v 13) (m 2) (m 3), mxB (v 2) (v 6) (v 10) (v 14) (m 4) (m 5), mxB (v 3) (v 7) (v 11) (v 15) (m 6) (m 7), mxC (v 0) (v 4) (v 8) (v 12) (m 0) (m 1), mxC (v 1) (v 5) (v 9) (v 13) (m 2) (m 3), mxC (v 2) (v 6) (v 10) (v 14) (m 4) (m 5), mxC (v 3) (v 7) (v 11) (v 15) (m 6) (m 7), mxD (v 0) (v 4) (v 8) (v 12) (m 0) (m 1), mxD (v 1) (v 5) (v 9) (v 13) (m 2) (m 3), mxD (v 2) (v 6) (v 10) (v 14) (m 4) (m 5), mxD (v 3) (v 7) (v 11) (v 15) (m 6) (m 7)]
def rdD (v m : Nat → Int) : Nat → Int := atL [mxA (v 0) (v 5) (v 10) (v 15) (m 8) (m 9), mxA (v 1) (v 6) (v 11) (v 12) (m 10) (m 11), mxA (v 2) (v 7) (v 8) (v 13) (m 12) (m 13), mxA (v 3) (v 4) (v 9) (v 14) (m 14) (m 15), mxB (v 3) (v 4) (v 9) (v 14) (m 14) (m 15), mxB (v 0) (v 5) (v 10) (v 15) (m 8) (m 9), mxB (v 1) (v 6) (v 11) (v 12) (m 10) (m 11), mxB (v 2) (v 7) (v 8) (v 13) (m 12) (m 13), mxC (v 2) (v 7) (v 8) (v 13) (m 12) (m 13), mxC (v 3) (v 4) (v 9) (v 14) (m 14) (m 15), mxC (v 0) (v 5) (v 10) (v 15) (m 8) (m 9), mxC (v 1) (v 6) (v 11) (v 12) (m 10) (m 11), mxD (v 1) (v 6) (v 11) (v 12) (m 10) (m 11), mxD (v 2) (v 7) (v 8) (v 13) (m 12) (m 13), mxD (v 3) (v 4) (v 9) (v 14) (m 14) (m 15), mxD (v 0) (v 5) (v 10) (v 15) (m 8) (m 9)]
def rd (v m : Nat → Int) : Nat → Int := rdD (rdC v m) m
theorem rd_run (v m : Nat → Int) : runF g2b 600 [] 54 (.ptr 0 0 :: w16 m) [.cells (w16 v)] [] =
    some (.tuple [], [some (.cells (w16 (rd v m)))], []) := by kernel_rfl
noncomputable def F54 : SumF := fun args B => match args, B with
  | .ptr 0 0 :: ms, [.cells xs] => match numsAs (List.replicate 16 .u32) ms, numsAs (List.replicate 16 .u32) xs with
    | some lm, some lx => some { val := .tuple [], upd := [(0, some (.cells (w16 (rd (atL lx) (atL lm)))))] }
    | _, _ => none
  | _, _ => none
theorem acc54 : Acc g2b 54 F54 := by
  intro args B out h hC
  unfold F54 at h
  split at h
  · rename_i ms xs
    split at h
    · rename_i lm lx hm hx
      simp only [Option.some.injEq] at h; subst h
      refine FnOk.imp (args' := .ptr 0 0 :: w16 (atL lm)) ?_ ⟨DenImp.refl _, (impL_nums hm fun j _ => by rw [Nat.zero_add]; rfl).1⟩
      refine FnOk.preB (B' := [.cells (w16 (atL lx))]) ?_ ⟨cells_nums hx, trivial⟩ (fun j => by
        match j with
        | 0 => rfl
        | j + 1 => rfl)
      exact FnOk.run (new := []) g2b_ok (rd_run _ _) (by simp [AllC]) (by simp [upto]) rfl (by simp) (by simp) (fun j hj => by
        match j, hj with
        | 0, _ => rfl)
    · simp at h
  · simp at h
noncomputable abbrev g2c : Ctx := g2b.add [(54, F54)]
theorem g2c_ok : CtxU g2c := g2b_ok.add mixed noGo (by
  intro x hx
  simp only [List.mem_cons, List.not_mem_nil, or_false] at hx
  rcases hx with rfl
  exact acc54)
/-! ### the ten -/
def rows10 : List (List Nat) := [[0, 1, 2, 3, 4, 5, 6, 7, 8, 9, 10, 11, 12, 13, 14, 15], [14, 10, 4, 8, 9, 15, 13, 6, 1, 12, 0, 2, 11, 7, 5, 3], [11, 8, 12, 0, 5, 2, 15, 13, 10, 14, 3, 6, 7, 1, 9, 4], [7, 9, 3, 1, 13, 12, 11, 14, 2, 6, 5, 10, 4, 0, 15, 8], [9, 0, 5, 7, 2, 4, 10, 15, 14, 1, 11, 12, 6, 8, 3, 13], [2, 12, 6, 10, 0, 11, 8, 3, 4, 13, 7, 5, 15, 14, 1, 9], [12, 5, 1, 15, 14, 13, 4, 10, 0, 7, 6, 3, 9, 2, 8, 11], [13, 11, 7, 14, 12, 1, 3, 9, 5, 0, 15, 4, 8, 6, 2, 10], [6, 15, 14, 9, 11, 3, 0, 8, 12, 2, 13, 7, 1, 4, 10, 5], [10, 2, 8, 4, 7, 6, 1, 5, 15, 11, 9, 14, 3, 12, 13, 0]]
noncomputable def rds (v m : Nat → Int) : Nat → Int := rows10.foldl (fun v p => rd (n16 v) (atL (p.map m))) v
theorem rds_run (v m : Nat → Int) : runF g2c 900 [] 49 [.ptr 0 0, .ptr 1 0] [.cells (w16 v), .cells (w16 m)] [] =
    some (.tuple [], [some (.cells (w16 (rds v m))), some (.cells (w16 m))], []) := by kernel_rfl
noncomputable def F49 : SumF := fun args B => match args, B with
  | [.ptr 0 0, .ptr 1 0], [.cells xs, .cells ms] => match numsAs (List.replicate 16 .u32) ms, numsAs (List.replicate 16 .u32) xs with
    | some lm, some lx => some { val := .tuple [], upd := [(0, some (.cells (w16 (rds (atL lx) (atL lm))))), (1, some (.cells (w16 (atL lm))))] }
    | _, _ => none
  | _, _ => none
theorem acc49 : Acc g2c 49 F49 := by
  intro args B out h hC
  unfold F49 at h
  split at h
  · rename_i xs ms
    split at h
    · rename_i lm lx hm hx
      simp only [Option.some.injEq] at h; subst h
      refine FnOk.preB (B' := [.cells (w16 (atL lx)), .cells (w16 (atL lm))]) ?_ ⟨cells_nums hx, cells_nums hm, trivial⟩ (fun j => by
        match j with
        | 0 => rfl
        | 1 => rfl
        | j + 2 => rfl)
      exact FnOk.run (new := []) g2c_ok (rds_run _ _) (by simp [AllC]) (by simp [upto]) rfl (by simp) (by simp) (fun j hj => by
        match j, hj with
        | 0, _ => rfl
        | 1, _ => rfl)
    · simp at h
  · simp at h
noncomputable abbrev g2 : Ctx := g2c.add [(49, F49)]
theorem g2_ok : CtxU g2 := g2c_ok.add mixed noGo (by
  intro x hx
  simp only [List.mem_cons, List.not_mem_nil, or_false] at hx
  rcases hx with rfl
  exact acc49)
end Go.Proofs.Tryd
