/- Accounts of this seat's functions: lemmas, no statement of their own. No conditions. -/
import Derived.Test.YtjkenobomlbdcaaTP
namespace Go.Proofs.Ytjkenobomlbdcaa
open Go Go.Vx
/-! ### the document's ladder -/
abbrev hD (N : Int) : Int := hxL (L16 (dgN N))
abbrev xA (a b : Int) : Int := (hD a + hD b) % Q
abbrev xS (a b : Int) : Int := (hD a - hD b) % Q
abbrev xM (a b : Int) : Int := hD a * hD b % Q
abbrev xK (a : Int) : Int := hD a * 121665 % Q
abbrev dGx (N : Int) : Prop := DG (atL (L16 (dgN N)))
abbrev tR (L : Lz) : Int := xM (xS L.c L.d) (xA L.a L.b)
abbrev tS (L : Lz) : Int := xM (xA L.c L.d) (xS L.a L.b)
abbrev tP (L : Lz) : Int := xM (xA L.a L.b) (xA L.a L.b)
abbrev tQ (L : Lz) : Int := xM (xS L.a L.b) (xS L.a L.b)
abbrev tE (L : Lz) : Int := xS (tP L) (tQ L)
abbrev stpR (x : Int) (L : Lz) : Lz := ⟨xM (tP L) (tQ L), xM (tE L) (xA (tP L) (xK (tE L))), xM (xA (tR L) (tS L)) (xA (tR L) (tS L)), xM x (xM (xS (tR L) (tS L)) (xS (tR L) (tS L)))⟩
abbrev stpC (x : Int) (L : Lz) : List Prop := [dGx L.a, dGx L.b, dGx L.a, dGx L.b, hD L.b ≤ Q, dGx (xS L.c L.d), dGx (xA L.a L.b), dGx L.c, dGx L.d, hD L.d ≤ Q, dGx (xA L.c L.d), dGx (xS L.a L.b), dGx L.c, dGx L.d,
  dGx (xA L.a L.b), dGx (xA L.a L.b), dGx (xS L.a L.b), dGx (xS L.a L.b), dGx (tP L), dGx (tQ L), hD (tQ L) ≤ Q, dGx (tR L), dGx (tS L), dGx (tR L), dGx (tS L), hD (tS L) ≤ Q, dGx (tE L), (0 : Int) ≤ 121665 ∧ (121665 : Int) < 4294967296,
  dGx x, dGx (xM (xS (tR L) (tS L)) (xS (tR L) (tS L))), dGx (xS (tR L) (tS L)), dGx (xS (tR L) (tS L)), dGx (xA (tR L) (tS L)), dGx (xA (tR L) (tS L)), dGx (tE L), dGx (xA (tP L) (xK (tE L))), dGx (tP L), dGx (xK (tE L)), dGx (tP L), dGx (tQ L)]
noncomputable abbrev rsBody : Code := bodyAt Try.prog 22 8
abbrev rsKeep : List Nat := [2, 4, 5, 6, 7, 8, 9, 10]
abbrev rsO (t : Int) : List SV := [.ptr 0 0, .ptr 1 0, .ptr 2 0, .ptr 3 0, .ptr 4 0, .ptr 5 0, .ptr 6 0, .int .i64 t]
abbrev rsS (t : Int) : List (Nat × SV) := rsKeep.zip (rsO t)
noncomputable abbrev rsB (k z : Nat → Int) (x : Int) (L : Lz) : List Body := [.cells (b32 k), .cells (b32 z), .cells (i16 (dgN x)), .cells (i16 (dgN L.a)), .cells (i16 (dgN L.b)), .cells (i16 (dgN L.c)), .cells (i16 (dgN L.d))]
abbrev sw4 (L : Lz) : Lz := ⟨L.c, L.d, L.a, L.b⟩
abbrev rsC (k : Nat → Int) (t : Int) (b : Bool) : List Prop := [decide (0 ≤ t) = true, 0 ≤ t ∧ t < 256, decide (kbZ (listF 32 k 0) t = 1) = b]
abbrev rsD (k : Nat → Int) (t : Int) (b : Bool) : List Prop := [0 ≤ t ∧ t < 256, decide (kbZ (listF 32 k 0) t = 1) = b, Fits .i64 (t - 1)]
theorem rs_go1 (t : Int) (k z : Nat → Int) (x : Int) (L : Lz) : runC gRh 900 55 [.br true, .br true, .br true] rsBody (rsS t) (rsB k z x L) rsKeep [0, 1, 2, 3, 4, 5, 6] =
    some (.normal, rsO (t - 1), (rsB k z x (sw4 (stpR x (sw4 L)))).map some, rsC k t true ++ stpC x (sw4 L) ++ rsD k t true) :=
  r3_parts4 (by kernel_rfl) (by kernel_rfl) (by kernel_rfl) (by kernel_rfl)
theorem rs_go0 (t : Int) (k z : Nat → Int) (x : Int) (L : Lz) : runC gRh 900 55 [.br true, .br false, .br false] rsBody (rsS t) (rsB k z x L) rsKeep [0, 1, 2, 3, 4, 5, 6] =
    some (.normal, rsO (t - 1), (rsB k z x (stpR x L)).map some, rsC k t false ++ stpC x L ++ rsD k t false) :=
  r3_parts4 (by kernel_rfl) (by kernel_rfl) (by kernel_rfl) (by kernel_rfl)
theorem rs_end (t : Int) (k z : Nat → Int) (x : Int) (L : Lz) : runC gRh 900 55 [.br false] rsBody (rsS t) (rsB k z x L) rsKeep [0, 1, 2, 3, 4, 5, 6] =
    some (.exit 0, rsO t, (rsB k z x L).map some, [decide (0 ≤ t) = false]) :=
  r3_parts4 (by kernel_rfl) (by kernel_rfl) (by kernel_rfl) (by kernel_rfl)
end Go.Proofs.Ytjkenobomlbdcaa
