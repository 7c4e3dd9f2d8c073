/- Accounts of this seat's functions: lemmas, no statement of their own. No conditions. -/
import Derived.Test.YtibfkpgdpldjbaaTZg
namespace Go.Proofs.Ytibfkpgdpldjbaa
open Go Go.Vx
noncomputable abbrev g8 : Ctx := g7.add [(31, F31), (32, F32)]
theorem g8_ok : CtxU g8 := g7_ok.add mixed noGo (by
  intro x hx
  simp only [List.mem_cons, List.not_mem_nil, or_false] at hx
  rcases hx with rfl | rfl
  · exact acc31
  · exact acc32)
abbrev Lf (x : Nat → Int) : Nat → Int := atL (listF 16 x 0)
abbrev y1 (x : Nat → Int) := qst (Lf x) 0 4 8 12
abbrev y2 (x : Nat → Int) := qst (Lf (y1 x)) 1 5 9 13
abbrev y3 (x : Nat → Int) := qst (Lf (y2 x)) 2 6 10 14
abbrev y4 (x : Nat → Int) := qst (Lf (y3 x)) 3 7 11 15
abbrev y5 (x : Nat → Int) := qst (Lf (y4 x)) 0 5 10 15
abbrev y6 (x : Nat → Int) := qst (Lf (y5 x)) 1 6 11 12
abbrev y7 (x : Nat → Int) := qst (Lf (y6 x)) 2 7 8 13
abbrev y8 (x : Nat → Int) := qst (Lf (y7 x)) 3 4 9 14
abbrev rbKeep : List Nat := [6, 7, 8, 9]
noncomputable abbrev rbBody : Code := bodyAt Try.prog 16 4
abbrev rbS (i : Nat) : List (Nat × SV) := rbKeep.zip [.ptr 0 0, .ptr 1 0, .ptr 2 0, .int .i64 (i : Int)]
noncomputable abbrev rbB (o s x : Nat → Int) : List Body := [.cells (b64 o), .cells (i16 s), .cells (i16 x)]
theorem rb_go (i : Nat) (o s x : Nat → Int) : runC g8 2000 84 [.br true] rbBody (rbS i) (rbB o s x) rbKeep [0, 1, 2] =
    some (.normal, [.ptr 0 0, .ptr 1 0, .ptr 2 0, .int .i64 ((i : Int) + 1)], (rbB o s (y8 x)).map some, [decide ((i : Int) < 10) = true, U16 (Lf x), U16 (Lf (y1 x)), U16 (Lf (y2 x)), U16 (Lf (y3 x)), U16 (Lf (y4 x)), U16 (Lf (y5 x)), U16 (Lf (y6 x)), U16 (Lf (y7 x)), Fits .i64 ((i : Int) + 1)]) := by kernel_rfl
theorem rb_end (i : Nat) (o s x : Nat → Int) : runC g8 2000 84 [.br false] rbBody (rbS i) (rbB o s x) rbKeep [0, 1, 2] =
    some (.exit 0, [.ptr 0 0, .ptr 1 0, .ptr 2 0, .int .i64 (i : Int)], (rbB o s x).map some, [decide ((i : Int) < 10) = false]) := by kernel_rfl
end Go.Proofs.Ytibfkpgdpldjbaa
