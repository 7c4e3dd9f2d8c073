/- Accounts of this seat's functions: lemmas, no statement of their own. No conditions. -/
import Derived.Test.YtibfkpgdpldjbaaTZq
namespace Go.Proofs.Ytibfkpgdpldjbaa
open Go Go.Vx
abbrev tS (k : Nat → Int) (c : Int) (n : Nat → Int) : Nat → Int := strm (atL (listF 32 k 0)) c (atL (listF 12 n 0))
abbrev tS2 (k : Nat → Int) (c : Int) (n : Nat → Int) : Nat → Int := strm (atL (listF 32 (atL (listF 32 k 0)) 0)) c (atL (listF 12 (atL (listF 12 n 0)) 0))
abbrev tE (l : List Int) : List (List Int) := [] ++ evX l.length
abbrev tW1 (l : List Int) (s : Nat → Int) : List Int := xorF (roomL l) 0 l.length s
abbrev tA1 (l : List Int) (s : Nat → Int) : List Int := xorF l 0 l.length s
abbrev tO (l : List Int) : List Int := ([] ++ l).set 0 (uxor (([] ++ l).getD 0 0) 1)
abbrev tW2 (l : List Int) (s : Nat → Int) : List Int := cpL (tW1 l s) (tO l) (tO l).length
abbrev tW3 (l : List Int) (s s2 : Nat → Int) : List Int := xorF (tW2 l s) 0 l.length s2
abbrev tA2 (l : List Int) (s2 : Nat → Int) : List Int := xorF (subI (tO l) 0 (tO l).length) 0 (tO l).length s2
abbrev tP (k : Nat → Int) (c : Int) (n : Nat → Int) (l : List Int) : List Prop :=
  [Fits .i64 (l.length : Int), decide ((131072 : Int) < (l.length : Int)) = false, l.length ≤ 1000000000, 0 + l.length ≤ (roomL l).length, l.length ≤ 1000000000, Fits .u32 c, ([] : List (List Int)).length + l.length ≤ 1000000000000,
   (0 : Int) ≤ 0 ∧ (0 : Int) ≤ (l.length : Int) ∧ (l.length : Int) ≤ ((l.length + 70 : Nat) : Int), U c, BN 32 (atL (listF 32 k 0)), BN 12 (atL (listF 12 n 0)), l.length ≤ 1000000000, (0 : Int) ≤ (l.length : Int), (l.length : Int) ≤ 1000000000,
   tE l = evX l.length, (tE l).length ≤ 140737488355328, (tE l).length * 16 ≤ 2 ^ 47, (!true) = false, 0 + (l.length + 70) ≤ (tW1 l (tS k c n)).length, l.length + 70 ≤ 140737488355328, marked (tW1 l (tS k c n)) 0 (l.length + 70) (l.length : Int), (!true) = false,
   0 + l.length ≤ (tW1 l (tS k c n)).length, 0 + (tA1 l (tS k c n)).length ≤ (tA1 l (tS k c n)).length, l.length ≤ 140737488355328, subI (tW1 l (tS k c n)) 0 l.length = subI (tA1 l (tS k c n)) 0 (tA1 l (tS k c n)).length,
   (0 : Int) ≤ 0 ∧ (0 : Int) ≤ (l.length : Int) ∧ (l.length : Int) ≤ ((l.length + 70 : Nat) : Int), (!true) = false]
abbrev tQ (k : Nat → Int) (c : Int) (n : Nat → Int) (l : List Int) : List Prop :=
  [([] ++ l).length * 1 ≤ 2 ^ 47, 0 + (0 + 0) < ([] ++ l).length, (0 : Int) ≤ 0 ∧ (0 : Int) < (([] ++ l).length : Int), 0 + (0 + 0) < ([] ++ l).length, (0 : Int) ≤ 0 ∧ (0 : Int) < (([] ++ l).length : Int),
   LoopGood g12 113 (.loop cpBody) cpKeep 6 (.exit 0) (mkLoopN cpG), (l.length : Int) = ((tO l).length : Int), (tO l).length ≤ l.length + 70, l.length + 70 ≤ (tW1 l (tS k c n)).length, (tO l).length ≤ 1000000000,
   0 + l.length ≤ (tW2 l (tS k c n)).length, l.length ≤ 1000000000, Fits .u32 c, (0 : Int) ≤ 0 ∧ (0 : Int) ≤ (l.length : Int) ∧ (l.length : Int) ≤ ((l.length + 70 : Nat) : Int), U c, BN 32 (atL (listF 32 (atL (listF 32 k 0)) 0)), BN 12 (atL (listF 12 (atL (listF 12 n 0)) 0)),
   (tO l).length ≤ 1000000000, 0 + (tO l).length ≤ (tO l).length, decide (((tE l).length : Int) = ((evX l.length).length : Int)) = true, Fits .i64 ((evX l.length).length : Int), true = true,
   0 + (l.length + 70) ≤ (tW3 l (tS k c n) (tS2 k c n)).length, l.length + 70 ≤ 140737488355328, marked (tW3 l (tS k c n) (tS2 k c n)) 0 (l.length + 70) (l.length : Int), true = true,
   0 + l.length ≤ (tW3 l (tS k c n) (tS2 k c n)).length, 0 + (tA2 l (tS2 k c n)).length ≤ (tA2 l (tS2 k c n)).length, l.length ≤ 140737488355328, subI (tW3 l (tS k c n) (tS2 k c n)) 0 l.length = subI (tA2 l (tS2 k c n)) 0 (tA2 l (tS2 k c n)).length,
   (0 : Int) ≤ 0 ∧ (0 : Int) ≤ (l.length : Int) ∧ (l.length : Int) ≤ ((l.length + 70 : Nat) : Int)]
noncomputable abbrev tA (k : Nat → Int) (c : Int) (n : Nat → Int) (l : List Int) : List SV := [.agg (k32 k), .int .u32 c, .agg (n12 n), .roi .u8 l]
theorem tu_big (k : Nat → Int) (c : Int) (n : Nat → Int) (l : List Int) : runF g12 3000 [.br true] 7 (tA k c n l) [] [] = some (.bool true, [], [Fits .i64 (l.length : Int), decide ((131072 : Int) < (l.length : Int)) = true]) :=
  run_parts (by kernel_rfl) (by kernel_rfl) (by kernel_rfl)
theorem tu_nil (k : Nat → Int) (c : Int) (n : Nat → Int) (l : List Int) : runF g12 3000 [.br false, .br false, .br false, .br false, .br true] 7 (tA k c n l) [] [] =
    some (.sbool true, [], tP k c n l ++ [decide ((l.length : Int) = 0) = true]) :=
  run_parts (by kernel_rfl) (by kernel_rfl) (by kernel_rfl)
theorem tu_run (k : Nat → Int) (c : Int) (n : Nat → Int) (l : List Int) : runF g12 3000 [.br false, .br false, .br false, .br false, .br false, .loop 16 cpKeep 6 (.exit 0) (mkLoopN cpG), .br true, .br true, .br true] 7 (tA k c n l) [] [] =
    some (.sbool true, [], tP k c n l ++ [decide ((l.length : Int) = 0) = false] ++ tQ k c n l) :=
  run_parts (by kernel_rfl) (by kernel_rfl) (by kernel_rfl)
end Go.Proofs.Ytibfkpgdpldjbaa
