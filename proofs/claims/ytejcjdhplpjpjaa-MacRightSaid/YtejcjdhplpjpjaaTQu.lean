/- Accounts of this seat's functions: lemmas, no statement of their own. No conditions. -/
import Derived.Test.YtejcjdhplpjpjaaTQs
namespace Go.Proofs.Ytejcjdhplpjpjaa
open Go Go.Vx
/-! ### pieces: long, Of -/
noncomputable abbrev rowL (d : Nat → List Int) : Nat → SV := fun i => .roi .u8 (d i)
def lOf (f : Nat → SV) (i : Nat) : List Int := match f i with | .roi _ l => l | _ => []
abbrev lgKeep : List Nat := [0, 3, 4]
noncomputable abbrev lgBody : Code := bodyAt Try.prog 17 5
noncomputable abbrev lgO (d : Nat → List Int) (m : Nat) (n i : Int) : List SV := [.ro 1 m (rowL d), .int .i64 n, .int .i64 i]
noncomputable abbrev lgS (d : Nat → List Int) (m : Nat) (n : Int) (i : Nat) : List (Nat × SV) := lgKeep.zip (lgO d m n (i : Int))
abbrev lgC (m i : Nat) (n : Int) (e : List Int) (b : Bool) : List Prop := [Fits .i64 (m : Int), decide ((i : Int) < (m : Int)) = true, Fits .i64 (n + (e.length : Int)), Fits .i64 (e.length : Int), (0 : Int) ≤ (i : Int) ∧ (i : Int) < (m : Int), decide (131072 < n + (e.length : Int)) = b]
theorem lg_go (d : Nat → List Int) (m i : Nat) (n : Int) : runC gn 300 23 [.br true, .br false] lgBody (lgS d m n i) [] lgKeep [] =
    some (.normal, lgO d m (n + ((d i).length : Int)) ((i : Int) + 1), [], lgC m i n (d i) false ++ [Fits .i64 ((i : Int) + 1)]) :=
  r3_parts4 (by kernel_rfl) (by kernel_rfl) (by kernel_rfl) (by kernel_rfl)
theorem lg_long (d : Nat → List Int) (m i : Nat) (n : Int) : runC gn 300 23 [.br true, .br true] lgBody (lgS d m n i) [] [2] [] =
    some (.ret, [.bool true], [], lgC m i n (d i) true) :=
  r3_parts4 (by kernel_rfl) (by kernel_rfl) (by kernel_rfl) (by kernel_rfl)
theorem lg_end (d : Nat → List Int) (m i : Nat) (n : Int) : runC gn 300 23 [.br false] lgBody (lgS d m n i) [] lgKeep [] =
    some (.exit 0, lgO d m n (i : Int), [], [Fits .i64 (m : Int), decide ((i : Int) < (m : Int)) = false]) :=
  r3_parts4 (by kernel_rfl) (by kernel_rfl) (by kernel_rfl) (by kernel_rfl)
abbrev ofKeep : List Nat := [0, 2, 6, 7, 8]
noncomputable abbrev ofBody : Code := bodyAt Try.prog 16 3
noncomputable abbrev ofO (d : Nat → List Int) (m : Nat) (i : Int) : List SV := [nilR, .ro 1 m (rowL d), .ptr 0 0, .ptr 1 0, .int .i64 i]
noncomputable abbrev ofB (z a : Nat → Int) : List Body := [.cells (svF (List.replicate 16 .u8) z 0), macV nilR a]
noncomputable abbrev ofS (d : Nat → List Int) (m i : Nat) : List (Nat × SV) := ofKeep.zip (ofO d m (i : Int))
theorem of_go (d : Nat → List Int) (m i : Nat) (z a : Nat → Int) : runC gn 300 30 [.br true] ofBody (ofS d m i) (ofB z a) ofKeep [0, 1] =
    some (.normal, ofO d m ((i : Int) + 1), (ofB z (wrA (n43 a) (d i))).map some, [Fits .i64 (m : Int), decide ((i : Int) < (m : Int)) = true, 0 ≤ n43 a 42 ∧ n43 a 42 < 16, (d i).length ≤ 140737488355328, (0 : Int) ≤ (i : Int) ∧ (i : Int) < (m : Int), Fits .i64 ((i : Int) + 1)]) :=
  r3_parts4 (by kernel_rfl) (by kernel_rfl) (by kernel_rfl) (by kernel_rfl)
theorem of_end (d : Nat → List Int) (m i : Nat) (z a : Nat → Int) : runC gn 300 30 [.br false] ofBody (ofS d m i) (ofB z a) ofKeep [0, 1] =
    some (.exit 0, ofO d m (i : Int), (ofB z a).map some, [Fits .i64 (m : Int), decide ((i : Int) < (m : Int)) = false]) :=
  r3_parts4 (by kernel_rfl) (by kernel_rfl) (by kernel_rfl) (by kernel_rfl)
end Go.Proofs.Ytejcjdhplpjpjaa
