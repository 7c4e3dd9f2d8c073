/- Accounts of this seat's functions: lemmas, no statement of their own. No conditions. -/
import Derived.Test.YtejcjdhplpjpjaaTQp
namespace Go.Proofs.Ytejcjdhplpjpjaa
open Go Go.Vx
/-! ### MacTwo: a round -/
abbrev kk (k : Nat → Int) : Nat → Int := atL (listF 32 k 0)
abbrev Tg (a : Nat → Int) : List Int := listF 16 (tgN (n43 a)) 0
abbrev Dg (k : Nat → Int) (x : List Int) : List Int := listF 16 (atL (dTag (kT (kk k)) (atL (hiK (kk k))) x)) 0
abbrev st2 (m i : Nat) (x y e : List Int) (b : Bool) : List Prop := [Fits .i64 (m : Int), decide ((i : Int) < (m : Int)) = true, (0 : Int) ≤ (i : Int) ∧ (i : Int) < (m : Int), Fits .i64 (131072 - (x.length : Int) - (y.length : Int)), Fits .i64 (y.length : Int), Fits .i64 (131072 - (x.length : Int)), Fits .i64 (x.length : Int), Fits .i64 (e.length : Int), decide (131072 - (x.length : Int) - (y.length : Int) < (e.length : Int)) = b]
noncomputable abbrev wr2 (i : Nat) (b : Bool) (a : Nat → Int) (x e : List Int) : List Prop := [decide ((i : Int).tmod 2 = 0) = b, 0 ≤ n43 a 42 ∧ n43 a 42 < 16, e.length ≤ 140737488355328, (x ++ e).length * 1 ≤ 2 ^ 47]
abbrev th2 (i : Nat) : Bool → List Prop
  | true => [decide ((i : Int) = 1) = true, (0 : Int) = 0, (0 : Int) ≤ 1 ∧ (1 : Int) < 16]
  | false => [decide ((i : Int) = 1) = false]
noncomputable abbrev ask2 (m i : Nat) (p : Nat → Bool) (k l a b : Nat → Int) (x y : List Int) : Bool → List Prop
  | true => [y.length = y.length, y.length ≤ 140737488355328, 0 ≤ n43 b 42 ∧ n43 b 42 < 16, (!decide (Tg a = Dg k x)) = false, x.length = x.length, x.length ≤ 140737488355328, 0 ≤ n43 a 42 ∧ n43 a 42 < 16, p i = true, (0 : Int) ≤ (i : Int) ∧ (i : Int) < (m : Int), (!decide (Tg b = Dg l y)) = false]
  | false => [p i = false, (0 : Int) ≤ (i : Int) ∧ (i : Int) < (m : Int)]
noncomputable abbrev twE (p : Nat → Bool) (d : Nat → List Int) (m i : Nat) (k l a b : Nat → Int) (x y : List Int) (q : Bool) : Prop :=
  runC gt 300 109 (bif q then [.br true, .br false, .br true, .br false, .br true, .br false, .br false, .br false] else [.br true, .br false, .br true, .br false, .br false]) twBody (twS p d m i) (twB k l a b x y) twKeep [0, 1, 2, 3, 6, 5] =
    some (.normal, twO p d m ((i : Int) + 1), (twB k l (wrA (n43 a) (d i)) b (x ++ d i) y).map some, st2 m i x y (d i) false ++ (wr2 i true a x (d i) ++ (th2 i false ++ (ask2 m i p k l (wrA (n43 a) (d i)) b (x ++ d i) y q ++ [Fits .i64 ((i : Int) + 1)]))))
theorem tw_e0 (p : Nat → Bool) (d : Nat → List Int) (m i : Nat) (k l a b : Nat → Int) (x y : List Int) : twE p d m i k l a b x y false := r3_parts4 (by kernel_rfl) (by kernel_rfl) (by kernel_rfl) (by kernel_rfl)
theorem tw_e1 (p : Nat → Bool) (d : Nat → List Int) (m i : Nat) (k l a b : Nat → Int) (x y : List Int) : twE p d m i k l a b x y true := r3_parts4 (by kernel_rfl) (by kernel_rfl) (by kernel_rfl) (by kernel_rfl)
noncomputable abbrev twP (p : Nat → Bool) (d : Nat → List Int) (m i : Nat) (k l a b : Nat → Int) (x y : List Int) (t q : Bool) : Prop :=
  runC gt 300 109 ([.br true, .br false, .br false, .br t] ++ (bif q then [.br true, .br false, .br false, .br false] else [.br false])) twBody (twS p d m i) (twB k l a b x y) twKeep [0, 1, 2, 3, 4, 6] =
    some (.normal, twO p d m ((i : Int) + 1), (twB k l a (wrA (n43 b) (d i)) x (y ++ d i)).map some, st2 m i x y (d i) false ++ (wr2 i false b y (d i) ++ (th2 i t ++ (ask2 m i p k l a (wrA (n43 b) (d i)) x (y ++ d i) q ++ [Fits .i64 ((i : Int) + 1)]))))
theorem tw_p00 (p : Nat → Bool) (d : Nat → List Int) (m i : Nat) (k l a b : Nat → Int) (x y : List Int) : twP p d m i k l a b x y false false := r3_parts4 (by kernel_rfl) (by kernel_rfl) (by kernel_rfl) (by kernel_rfl)
theorem tw_p01 (p : Nat → Bool) (d : Nat → List Int) (m i : Nat) (k l a b : Nat → Int) (x y : List Int) : twP p d m i k l a b x y false true := r3_parts4 (by kernel_rfl) (by kernel_rfl) (by kernel_rfl) (by kernel_rfl)
theorem tw_p10 (p : Nat → Bool) (d : Nat → List Int) (m i : Nat) (k l a b : Nat → Int) (x y : List Int) : twP p d m i k l a b x y true false := r3_parts4 (by kernel_rfl) (by kernel_rfl) (by kernel_rfl) (by kernel_rfl)
theorem tw_p11 (p : Nat → Bool) (d : Nat → List Int) (m i : Nat) (k l a b : Nat → Int) (x y : List Int) : twP p d m i k l a b x y true true := r3_parts4 (by kernel_rfl) (by kernel_rfl) (by kernel_rfl) (by kernel_rfl)
theorem tw_long (p : Nat → Bool) (d : Nat → List Int) (m i : Nat) (k l a b : Nat → Int) (x y : List Int) : runC gt 300 109 [.br true, .br true] twBody (twS p d m i) (twB k l a b x y) [6] [0, 1, 2, 3, 4, 5] =
    some (.ret, [.bool true], (twB k l a b x y).map some, st2 m i x y (d i) true) := r3_parts4 (by kernel_rfl) (by kernel_rfl) (by kernel_rfl) (by kernel_rfl)
theorem tw_end (p : Nat → Bool) (d : Nat → List Int) (m i : Nat) (k l a b : Nat → Int) (x y : List Int) : runC gt 300 109 [.br false] twBody (twS p d m i) (twB k l a b x y) twKeep [0, 1, 2, 3, 4, 5] =
    some (.exit 0, twO p d m (i : Int), (twB k l a b x y).map some, [Fits .i64 (m : Int), decide ((i : Int) < (m : Int)) = false]) := r3_parts4 (by kernel_rfl) (by kernel_rfl) (by kernel_rfl) (by kernel_rfl)
end Go.Proofs.Ytejcjdhplpjpjaa
