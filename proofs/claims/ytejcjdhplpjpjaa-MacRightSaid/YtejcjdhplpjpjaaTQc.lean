/- Accounts of this seat's functions: lemmas, no statement of their own. No conditions. -/
import Derived.Test.YtejcjdhplpjpjaaTQb
namespace Go.Proofs.Ytejcjdhplpjpjaa
open Go Go.Vx
/-! ### Write: the runs -/
abbrev zeB (a : Nat → Int) : List Int := listF 16 (fun j => n43 a (26 + j)) 0
noncomputable abbrev eqA (a : Nat → Int) (l : List Int) : Nat → Int := clA (tkA (ovA a l) (zeB (ovA a l)))
noncomputable abbrev lpE (a : Nat → Int) (l : List Int) : Nat → Int := lpA (n43 a) l (l.length / 16)
noncomputable abbrev tlE (a : Nat → Int) (l : List Int) : Nat → Int := tlA (lpE a l) (rsL l)
abbrev C0 (a : Nat → Int) (b : Bool) : Prop := decide (0 < a 42) = b
abbrev Crest (l : List Int) (b : Bool) : List Prop := [l.length ≤ 140737488355328, Fits .i64 ((rsL l).length : Int), decide (0 < ((rsL l).length : Int)) = b]
abbrev Ctl (l : List Int) : List Prop := [Fits .i64 ((min (rsL l).length (16 - 0) : Nat) : Int), 0 + ((rsL l).take 16).length ≤ 16]
abbrev Cov (a : Nat → Int) (l : List Int) (b : Bool) : List Prop := [Fits .i64 (kN a l), (a 42).toNat + (l.take (16 - (a 42).toNat)).length ≤ 16, 0 ≤ a 42 ∧ a 42 ≤ ((16 : Nat) : Int) ∧ ((16 : Nat) : Int) ≤ ((16 : Nat) : Int), 0 ≤ kN a l ∧ kN a l ≤ (l.length : Int) ∧ (l.length : Int) ≤ (l.length : Int), Fits .i64 (a 42 + kN a l), decide (a 42 + kN a l = 16) = b]
theorem w00 (a : Nat → Int) (l : List Int) : runF gw 400 [.br false, wrPl, .br false] 12 [.ptr 0 0, .roi .u8 l] [macV nilR a] [] =
    some (.tuple [], [some (macV nilR (lpE a l))], [C0 a false, LGw] ++ Crest l false) :=
  run_parts (by kernel_rfl) (by kernel_rfl) (by kernel_rfl)
theorem w01 (a : Nat → Int) (l : List Int) : runF gw 400 [.br false, wrPl, .br true] 12 [.ptr 0 0, .roi .u8 l] [macV nilR a] [] =
    some (.tuple [], [some (macV nilR (tlE a l))], [C0 a false, LGw] ++ (Crest l true ++ Ctl l)) :=
  run_parts (by kernel_rfl) (by kernel_rfl) (by kernel_rfl)
theorem we0 (a : Nat → Int) (l : List Int) : runF gw 400 [.br true, .br true, wrPl, .br false] 12 [.ptr 0 0, .roi .u8 l] [macV nilR a] [] =
    some (.tuple [], [some (macV nilR (lpE (eqA a l) (l1 a l)))], C0 a true :: (Cov a l true ++ (LGw :: Crest (l1 a l) false))) :=
  run_parts (by kernel_rfl) (by kernel_rfl) (by kernel_rfl)
theorem we1 (a : Nat → Int) (l : List Int) : runF gw 400 [.br true, .br true, wrPl, .br true] 12 [.ptr 0 0, .roi .u8 l] [macV nilR a] [] =
    some (.tuple [], [some (macV nilR (tlE (eqA a l) (l1 a l)))], C0 a true :: (Cov a l true ++ (LGw :: (Crest (l1 a l) true ++ Ctl (l1 a l))))) :=
  run_parts (by kernel_rfl) (by kernel_rfl) (by kernel_rfl)
theorem wn0 (a : Nat → Int) (l : List Int) : runF gw 400 [.br true, .br false, wrPl, .br false] 12 [.ptr 0 0, .roi .u8 l] [macV nilR a] [] =
    some (.tuple [], [some (macV nilR (lpE (ovA a l) (l1 a l)))], C0 a true :: (Cov a l false ++ (LGw :: Crest (l1 a l) false))) :=
  run_parts (by kernel_rfl) (by kernel_rfl) (by kernel_rfl)
end Go.Proofs.Ytejcjdhplpjpjaa
