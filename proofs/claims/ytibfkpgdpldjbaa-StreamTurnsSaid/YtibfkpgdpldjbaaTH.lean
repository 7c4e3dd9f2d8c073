/- Accounts of this seat's functions: lemmas, no statement of their own. No conditions. -/
import Derived.Test.YtibfkpgdpldjbaaTG
namespace Go.Proofs.Ytibfkpgdpldjbaa
open Go Go.Vx
noncomputable def n1G : LoopF := fun vals B => match vals, B with
  | [.raw (.pointer none), .sl 0 0 off 1 0 n false, .ptr 1 0, .int .i64 0], [.ints K l, .cells ss] => match sameK K .u8, numsAs (List.replicate 16 .u32) ss with
    | true, some ls => some ([(0, .raw (.pointer none)), (4, .sl 0 0 off 1 0 n false), (10, .ptr 1 0), (11, .int .i64 ((256 * (n / 256) : Nat) : Int))], [.ints .u8 (xorF l off (256 * (n / 256)) (sb (atL ls))), .cells (w16 (bump (atL ls) (4 * (n / 256))))], [off + n ≤ l.length, n ≤ 140737488355328, Fits .u32 (atL ls 12)])
    | _, _ => none
  | _, _ => none
noncomputable def n2G : LoopF := fun vals B => match vals, B with
  | [.raw (.pointer none), .sl 0 0 off 1 0 n false, .ptr 1 0, .int .i64 a], [.ints K l, .cells ss] => match sameK K .u8, numsAs (List.replicate 16 .u32) ss with
    | true, some ls => some ([(0, .raw (.pointer none)), (4, .sl 0 0 off 1 0 n false), (10, .ptr 1 0), (11, .int .i64 ((a.toNat + 64 * ((n - a.toNat) / 64) : Nat) : Int))], [.ints .u8 (xorF l (off + a.toNat) (64 * ((n - a.toNat) / 64)) (sb (atL ls))), .cells (w16 (bump (atL ls) ((n - a.toNat) / 64)))], [0 ≤ a, a ≤ n, off + n ≤ l.length, n ≤ 140737488355328, Fits .u32 (atL ls 12)])
    | _, _ => none
  | _, _ => none
abbrev S0 (k : Nat → Int) (c : Int) (m : Nat → Int) : Nat → Int := atL (listF 16 (stt (atL (listF 32 k 0)) c (atL (listF 12 m 0))) 0)
abbrev a1 (n : Nat) : Nat := 256 * (n / 256)
abbrev a2 (n : Nat) : Nat := a1 n + 64 * ((n - a1 n) / 64)
abbrev S1 (n : Nat) (s : Nat → Int) : Nat → Int := atL (listF 16 (bump s (4 * (n / 256))) 0)
abbrev S2 (n : Nat) (s : Nat → Int) : Nat → Int := atL (listF 16 (bump (S1 n s) ((n - a1 n) / 64)) 0)
abbrev L2 (off n : Nat) (l : List Int) (s : Nat → Int) : List Int := xorF (xorF l off (a1 n) (sb s)) (off + a1 n) (64 * ((n - a1 n) / 64)) (sb (S1 n s))
abbrev X3 (off n : Nat) (l : List Int) : List Int := (l.drop (off + a2 n)).take (n - a2 n)
def cpy (X : List Int) (e : Nat) : Int := if 0 ≤ e ∧ e < 0 + (X.take 64).length then (X.take 64).getD (e - 0) 0 else 0
abbrev Y3 (X : List Int) (b : Nat → Int) : List Int := listF 64 (fun j => uxor (atL (listF 64 (cpy X) 0) j) (atL (listF 64 b 0) j)) 0
abbrev C1 (off n : Nat) (l : List Int) (s : Nat → Int) : List Prop :=
  [LoopGood g3 92 (.loop x1Body) xoKeep 2 (.exit 0) (mkLoopN n1G), off + n ≤ l.length, n ≤ 140737488355328, Fits .u32 (s 12),
   LoopGood g3 92 (.loop x2Body) xoKeep 2 (.exit 2) (mkLoopN n2G), (0 : Int) ≤ (a1 n : Nat), ((a1 n : Nat) : Int) ≤ (n : Nat), off + n ≤ (xorF l off (a1 n) (sb s)).length, n ≤ 140737488355328, Fits .u32 (S1 n s 12)]
theorem xn_run0 (off n : Nat) (l : List Int) (k : Nat → Int) (c : Int) (m : Nat → Int) : runF g3 2000 [.loop 3 xoKeep 2 (.exit 0) (mkLoopN n1G), .loop 9 xoKeep 2 (.exit 2) (mkLoopN n2G), .br false] 10 [.raw (.pointer none), .agg (k32 k), .int .u32 c, .agg (n12 m), .sl 0 0 off 1 0 n false] [.ints .u8 l] [] =
    some (.tuple [], [some (.ints .u8 (L2 off n l (S0 k c m)))], C1 off n l (S0 k c m) ++ [Fits .i64 ((n : Int) - (a2 n : Nat)), Fits .i64 (n : Int), decide ((0 : Int) < (n : Int) - (a2 n : Nat)) = false]) := by kernel_rfl
theorem xn_run1 (off n : Nat) (l : List Int) (k : Nat → Int) (c : Int) (m : Nat → Int) : runF g3 2000 [.loop 3 xoKeep 2 (.exit 0) (mkLoopN n1G), .loop 9 xoKeep 2 (.exit 2) (mkLoopN n2G), .br true] 10 [.raw (.pointer none), .agg (k32 k), .int .u32 c, .agg (n12 m), .sl 0 0 off 1 0 n false] [.ints .u8 l] [] =
    some (.tuple [], [some (.ints .u8 (splice (L2 off n l (S0 k c m)) (off + a2 n) ((Y3 (X3 off n (L2 off n l (S0 k c m))) (blk (S2 n (S0 k c m)))).take (n - a2 n))))],
      C1 off n l (S0 k c m) ++ [Fits .i64 ((n : Int) - (a2 n : Nat)), Fits .i64 (n : Int), decide ((0 : Int) < (n : Int) - (a2 n : Nat)) = true, (0 : Int) ≤ (a2 n : Nat) ∧ ((a2 n : Nat) : Int) ≤ (n : Nat) ∧ ((n : Nat) : Int) ≤ (n : Nat),
        Fits .i64 ((min (X3 off n (L2 off n l (S0 k c m))).length 64 : Nat) : Int), 0 + ((X3 off n (L2 off n l (S0 k c m))).take 64).length ≤ 64, off + a2 n + 0 + (n - a2 n) ≤ (L2 off n l (S0 k c m)).length,
        Fits .i64 ((min (Y3 (X3 off n (L2 off n l (S0 k c m))) (blk (S2 n (S0 k c m)))).length (n - a2 n) : Nat) : Int), off + a2 n + 0 + ((Y3 (X3 off n (L2 off n l (S0 k c m))) (blk (S2 n (S0 k c m)))).take (n - a2 n)).length ≤ (L2 off n l (S0 k c m)).length]) := by kernel_rfl
end Go.Proofs.Ytibfkpgdpldjbaa
