/- Accounts of this seat's functions: lemmas, no statement of their own. No conditions. -/
import Derived.Test.YtejcjdhplpjpjaaTQx
namespace Go.Proofs.Ytejcjdhplpjpjaa
open Go Go.Vx
abbrev q16 (p : Int) : Int := (p.tmod 16 + 16).tmod 16
abbrev T0 (k : Nat → Int) (x : List Int) : Nat → Int := atL (DT (kk k) x)
abbrev T1 (k : Nat → Int) (x : List Int) (p v : Int) : Nat → Int := fun j => if (q16 p).toNat = j then uxor ((listF 16 (T0 k x) 0).getD (q16 p).toNat 0) v else T0 k x j
abbrev lX (d : Nat → List Int) (m : Nat) : Bool := decide (400 < m ∨ stp d m < m)
theorem right_run0 (k : Nat → Int) (d : Nat → List Int) (m : Nat) (p v : Int) : runF gu 900 [.br true] 6 [.agg (svF (List.replicate 32 .u8) k 0), .ro 1 m (rowL d), .int .i64 p, .int .u8 v] [] [] =
    some (.bool true, [], lC (rowL d) m ++ [lX d m = true]) :=
  run_parts (by kernel_rfl) (by kernel_rfl) (by kernel_rfl)
theorem right_run1 (k : Nat → Int) (d : Nat → List Int) (m : Nat) (p v : Int) : runF gu 900 [.br false, .br false, .br true] 6 [.agg (svF (List.replicate 32 .u8) k 0), .ro 1 m (rowL d), .int .i64 p, .int .u8 v] [] [] =
    some (.sbool true, [], lC (rowL d) m ++ [lX d m = false] ++ (oC (rowL d) m ++ (oC (rowL d) m ++ ([(!CK (kk k) (atL (listF 16 (T0 k (xZ d m)) 0)) (xZ d m)) = false, Fits .i64 (p.tmod 16 + 16), (q16 p).toNat < 16, 0 ≤ q16 p ∧ q16 p < ((16 : Nat) : Int), (q16 p).toNat < 16, 0 ≤ q16 p ∧ q16 p < ((16 : Nat) : Int),
      (CK (kk k) (atL (listF 16 (T1 k (xZ d m) p v) 0)) (xZ d m) == decide (v = 0)) = true] ++ oC (rowL d) m)))) :=
  run_parts (by kernel_rfl) (by kernel_rfl) (by kernel_rfl)
end Go.Proofs.Ytejcjdhplpjpjaa
