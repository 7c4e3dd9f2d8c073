/- Accounts of this seat's functions: lemmas, no statement of their own. No conditions. -/
import Derived.Test.YtibfkpgdpldjbaaTY
namespace Go.Proofs.Ytibfkpgdpldjbaa
open Go Go.Vx
/-! ### the document's quarter -/
noncomputable abbrev g7 : Ctx := g6.add [(42, F42)]
theorem g7_ok : CtxU g7 := g6_ok.add mixed noGo (by
  intro x hx
  simp only [List.mem_cons, List.not_mem_nil, or_false] at hx
  rcases hx with rfl
  exact acc42)
abbrev M : Int := 4294967296
abbrev kA1 (a b : Int) : Int := (a + b).tmod M
abbrev kD1 (a b d : Int) : Int := rotl 16 16 (uxor d (kA1 a b))
abbrev kC1 (a b c d : Int) : Int := (c + kD1 a b d).tmod M
abbrev kB1 (a b c d : Int) : Int := rotl 12 20 (uxor b (kC1 a b c d))
abbrev kA2 (a b c d : Int) : Int := (kA1 a b + kB1 a b c d).tmod M
abbrev kD2 (a b c d : Int) : Int := rotl 8 24 (uxor (kD1 a b d) (kA2 a b c d))
abbrev kC2 (a b c d : Int) : Int := (kC1 a b c d + kD2 a b c d).tmod M
abbrev kB2 (a b c d : Int) : Int := rotl 7 25 (uxor (kB1 a b c d) (kC2 a b c d))
abbrev kC (a b c d : Int) : List Prop := [Fits .i64 (a + b), 0 ≤ uxor d (kA1 a b), uxor d (kA1 a b) < M, 0 ≤ d ∧ 0 ≤ kA1 a b, Fits .i64 (c + kD1 a b d), 0 ≤ uxor b (kC1 a b c d), uxor b (kC1 a b c d) < M, 0 ≤ b ∧ 0 ≤ kC1 a b c d,
  Fits .i64 (kA1 a b + kB1 a b c d), 0 ≤ uxor (kD1 a b d) (kA2 a b c d), uxor (kD1 a b d) (kA2 a b c d) < M, 0 ≤ kD1 a b d ∧ 0 ≤ kA2 a b c d, Fits .i64 (kC1 a b c d + kD2 a b c d), 0 ≤ uxor (kB1 a b c d) (kC2 a b c d), uxor (kB1 a b c d) (kC2 a b c d) < M, 0 ≤ kB1 a b c d ∧ 0 ≤ kC2 a b c d]
def qset (x : Nat → Int) (a b c d : Nat) (A B C D : Int) : Nat → Int := fun i => if i = a then A else if i = b then B else if i = c then C else if i = d then D else x i
noncomputable abbrev i16 (x : Nat → Int) : List SV := svF (List.replicate 16 .i64) x 0
theorem rq0 (x : Nat → Int) : runF g7 300 [] 32 [.agg (i16 x), .lit .i64 0, .lit .i64 4, .lit .i64 8, .lit .i64 12] [] [] =
    some (.agg (i16 (qset x 0 4 8 12 (kA2 (x 0) (x 4) (x 8) (x 12)) (kB2 (x 0) (x 4) (x 8) (x 12)) (kC2 (x 0) (x 4) (x 8) (x 12)) (kD2 (x 0) (x 4) (x 8) (x 12)))), [], kC (x 0) (x 4) (x 8) (x 12)) :=
  run_parts (by kernel_rfl) (by kernel_rfl) (by kernel_rfl)
theorem rq1 (x : Nat → Int) : runF g7 300 [] 32 [.agg (i16 x), .lit .i64 1, .lit .i64 5, .lit .i64 9, .lit .i64 13] [] [] =
    some (.agg (i16 (qset x 1 5 9 13 (kA2 (x 1) (x 5) (x 9) (x 13)) (kB2 (x 1) (x 5) (x 9) (x 13)) (kC2 (x 1) (x 5) (x 9) (x 13)) (kD2 (x 1) (x 5) (x 9) (x 13)))), [], kC (x 1) (x 5) (x 9) (x 13)) :=
  run_parts (by kernel_rfl) (by kernel_rfl) (by kernel_rfl)
theorem rq2 (x : Nat → Int) : runF g7 300 [] 32 [.agg (i16 x), .lit .i64 2, .lit .i64 6, .lit .i64 10, .lit .i64 14] [] [] =
    some (.agg (i16 (qset x 2 6 10 14 (kA2 (x 2) (x 6) (x 10) (x 14)) (kB2 (x 2) (x 6) (x 10) (x 14)) (kC2 (x 2) (x 6) (x 10) (x 14)) (kD2 (x 2) (x 6) (x 10) (x 14)))), [], kC (x 2) (x 6) (x 10) (x 14)) :=
  run_parts (by kernel_rfl) (by kernel_rfl) (by kernel_rfl)
theorem rq3 (x : Nat → Int) : runF g7 300 [] 32 [.agg (i16 x), .lit .i64 3, .lit .i64 7, .lit .i64 11, .lit .i64 15] [] [] =
    some (.agg (i16 (qset x 3 7 11 15 (kA2 (x 3) (x 7) (x 11) (x 15)) (kB2 (x 3) (x 7) (x 11) (x 15)) (kC2 (x 3) (x 7) (x 11) (x 15)) (kD2 (x 3) (x 7) (x 11) (x 15)))), [], kC (x 3) (x 7) (x 11) (x 15)) :=
  run_parts (by kernel_rfl) (by kernel_rfl) (by kernel_rfl)
theorem rq4 (x : Nat → Int) : runF g7 300 [] 32 [.agg (i16 x), .lit .i64 0, .lit .i64 5, .lit .i64 10, .lit .i64 15] [] [] =
    some (.agg (i16 (qset x 0 5 10 15 (kA2 (x 0) (x 5) (x 10) (x 15)) (kB2 (x 0) (x 5) (x 10) (x 15)) (kC2 (x 0) (x 5) (x 10) (x 15)) (kD2 (x 0) (x 5) (x 10) (x 15)))), [], kC (x 0) (x 5) (x 10) (x 15)) :=
  run_parts (by kernel_rfl) (by kernel_rfl) (by kernel_rfl)
theorem rq5 (x : Nat → Int) : runF g7 300 [] 32 [.agg (i16 x), .lit .i64 1, .lit .i64 6, .lit .i64 11, .lit .i64 12] [] [] =
    some (.agg (i16 (qset x 1 6 11 12 (kA2 (x 1) (x 6) (x 11) (x 12)) (kB2 (x 1) (x 6) (x 11) (x 12)) (kC2 (x 1) (x 6) (x 11) (x 12)) (kD2 (x 1) (x 6) (x 11) (x 12)))), [], kC (x 1) (x 6) (x 11) (x 12)) :=
  run_parts (by kernel_rfl) (by kernel_rfl) (by kernel_rfl)
theorem rq6 (x : Nat → Int) : runF g7 300 [] 32 [.agg (i16 x), .lit .i64 2, .lit .i64 7, .lit .i64 8, .lit .i64 13] [] [] =
    some (.agg (i16 (qset x 2 7 8 13 (kA2 (x 2) (x 7) (x 8) (x 13)) (kB2 (x 2) (x 7) (x 8) (x 13)) (kC2 (x 2) (x 7) (x 8) (x 13)) (kD2 (x 2) (x 7) (x 8) (x 13)))), [], kC (x 2) (x 7) (x 8) (x 13)) :=
  run_parts (by kernel_rfl) (by kernel_rfl) (by kernel_rfl)
theorem rq7 (x : Nat → Int) : runF g7 300 [] 32 [.agg (i16 x), .lit .i64 3, .lit .i64 4, .lit .i64 9, .lit .i64 14] [] [] =
    some (.agg (i16 (qset x 3 4 9 14 (kA2 (x 3) (x 4) (x 9) (x 14)) (kB2 (x 3) (x 4) (x 9) (x 14)) (kC2 (x 3) (x 4) (x 9) (x 14)) (kD2 (x 3) (x 4) (x 9) (x 14)))), [], kC (x 3) (x 4) (x 9) (x 14)) :=
  run_parts (by kernel_rfl) (by kernel_rfl) (by kernel_rfl)
end Go.Proofs.Ytibfkpgdpldjbaa
