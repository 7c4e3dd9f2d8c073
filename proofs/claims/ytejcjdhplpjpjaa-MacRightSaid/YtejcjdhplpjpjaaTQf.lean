/- Accounts of this seat's functions: lemmas, no statement of their own. No conditions. -/
import Derived.Test.YtejcjdhplpjpjaaTQe
namespace Go.Proofs.Ytejcjdhplpjpjaa
open Go Go.Vx
/-! ### the document's Tag -/
abbrev tgKeep : List Nat := [1, 4, 6, 8, 9, 10]
noncomputable abbrev tgBody : Code := bodyAt Try.prog 14 11
noncomputable abbrev tgS (n : Nat) (i : Int) : List (Nat × SV) := tgKeep.zip [.sl 0 0 0 1 0 n false, .ptr 1 0, .ptr 2 0, .ptr 3 0, .ptr 4 0, .int .i64 i]
noncomputable abbrev tgB (l : List Int) (z s tm sm : Nat → Int) : List Body := [.ints .u8 l, .cells (svF (List.replicate 16 .u8) z 0), .cells (svF (List.replicate 16 .u8) s 0), .cells (svF (List.replicate 17 .i64) tm 0), .cells (svF (List.replicate 17 .i64) sm 0)]
abbrev tgX (l : List Int) (i : Int) (r : Nat) : List Int := ((List.range r).map fun (j : Nat) => l.getD (0 + (i + (j : Int)).toNat + 0) 0) ++ [1] ++ List.replicate (16 - r) 0
abbrev tgV (l : List Int) (tm sm : Nat → Int) (i : Int) (r : Nat) : Int := leN 17 (atL (listF 17 (byteN ((leN 17 (atL (listF 17 sm 0)) 0 + leN 17 (atL (listF 17 (byteN (leN 17 (atL (tgX l i r)) 0 % P5)) 0)) 0) % P5)) 0)) 0 * leN 17 (atL (listF 17 tm 0)) 0 % P5
abbrev tgCi (n : Nat) (l : List Int) (i : Int) (j : Nat) : List Prop := [Fits .i64 (n : Int), Fits .i64 (i + (j : Int)), decide (i + (j : Int) < (n : Int)) = true, 0 + (i + (j : Int)).toNat + 0 < l.length, (0 : Int) ≤ i + (j : Int) ∧ i + (j : Int) < (n : Int), Fits .i64 (i + (j : Int))]
abbrev tgE (n : Nat) (i : Int) (r : Nat) : List Prop := bif Nat.blt r 16 then [Fits .i64 (n : Int), Fits .i64 (i + (r : Int)), decide (i + (r : Int) < (n : Int)) = false] else []
abbrev tgP (r : Nat) : List Plan := [.br true] ++ (List.replicate r (.br true) ++ (bif Nat.blt r 16 then [.br false] else []))
abbrev tgU (l : List Int) (sm : Nat → Int) (i : Int) (r : Nat) : Int := (leN 17 (atL (listF 17 sm 0)) 0 + leN 17 (atL (listF 17 (byteN (leN 17 (atL (tgX l i r)) 0 % P5)) 0)) 0) % P5
abbrev tgC (n : Nat) (l : List Int) (tm sm : Nat → Int) (i : Int) (r : Nat) : List Prop := [Fits .i64 (n : Int), decide (i < (n : Int)) = true] ++ ((List.range r).flatMap (tgCi n l i) ++ (tgE n i r ++ [NG (atL (listF 17 (byteN (tgU l sm i r)) 0)), NG (atL (listF 17 tm 0)), NG (atL (listF 17 sm 0)), NG (atL (listF 17 (byteN (leN 17 (atL (tgX l i r)) 0 % P5)) 0)), Fits .i64 (i + 16)]))
def TgOk (n : Nat) (l : List Int) (z s tm sm : Nat → Int) (i : Int) (r : Nat) : Prop := runC gw 600 68 (tgP r) tgBody (tgS n i) (tgB l z s tm sm) tgKeep [0, 1, 2, 3, 4] =
    some (.normal, [.sl 0 0 0 1 0 n false, .ptr 1 0, .ptr 2 0, .ptr 3 0, .ptr 4 0, .int .i64 (i + 16)], (tgB l z s tm (byteN (tgV l tm sm i r))).map some, tgC n l tm sm i r)
theorem tg_1 (n : Nat) (l : List Int) (z s tm sm : Nat → Int) (i : Int) : TgOk n l z s tm sm i 1 :=
  r3_parts4 (by kernel_rfl) (by kernel_rfl) (by kernel_rfl) (by kernel_rfl)
theorem tg_2 (n : Nat) (l : List Int) (z s tm sm : Nat → Int) (i : Int) : TgOk n l z s tm sm i 2 :=
  r3_parts4 (by kernel_rfl) (by kernel_rfl) (by kernel_rfl) (by kernel_rfl)
theorem tg_3 (n : Nat) (l : List Int) (z s tm sm : Nat → Int) (i : Int) : TgOk n l z s tm sm i 3 :=
  r3_parts4 (by kernel_rfl) (by kernel_rfl) (by kernel_rfl) (by kernel_rfl)
theorem tg_4 (n : Nat) (l : List Int) (z s tm sm : Nat → Int) (i : Int) : TgOk n l z s tm sm i 4 :=
  r3_parts4 (by kernel_rfl) (by kernel_rfl) (by kernel_rfl) (by kernel_rfl)
theorem tg_5 (n : Nat) (l : List Int) (z s tm sm : Nat → Int) (i : Int) : TgOk n l z s tm sm i 5 :=
  r3_parts4 (by kernel_rfl) (by kernel_rfl) (by kernel_rfl) (by kernel_rfl)
theorem tg_6 (n : Nat) (l : List Int) (z s tm sm : Nat → Int) (i : Int) : TgOk n l z s tm sm i 6 :=
  r3_parts4 (by kernel_rfl) (by kernel_rfl) (by kernel_rfl) (by kernel_rfl)
theorem tg_7 (n : Nat) (l : List Int) (z s tm sm : Nat → Int) (i : Int) : TgOk n l z s tm sm i 7 :=
  r3_parts4 (by kernel_rfl) (by kernel_rfl) (by kernel_rfl) (by kernel_rfl)
theorem tg_8 (n : Nat) (l : List Int) (z s tm sm : Nat → Int) (i : Int) : TgOk n l z s tm sm i 8 :=
  r3_parts4 (by kernel_rfl) (by kernel_rfl) (by kernel_rfl) (by kernel_rfl)
theorem tg_9 (n : Nat) (l : List Int) (z s tm sm : Nat → Int) (i : Int) : TgOk n l z s tm sm i 9 :=
  r3_parts4 (by kernel_rfl) (by kernel_rfl) (by kernel_rfl) (by kernel_rfl)
theorem tg_10 (n : Nat) (l : List Int) (z s tm sm : Nat → Int) (i : Int) : TgOk n l z s tm sm i 10 :=
  r3_parts4 (by kernel_rfl) (by kernel_rfl) (by kernel_rfl) (by kernel_rfl)
theorem tg_11 (n : Nat) (l : List Int) (z s tm sm : Nat → Int) (i : Int) : TgOk n l z s tm sm i 11 :=
  r3_parts4 (by kernel_rfl) (by kernel_rfl) (by kernel_rfl) (by kernel_rfl)
theorem tg_12 (n : Nat) (l : List Int) (z s tm sm : Nat → Int) (i : Int) : TgOk n l z s tm sm i 12 :=
  r3_parts4 (by kernel_rfl) (by kernel_rfl) (by kernel_rfl) (by kernel_rfl)
theorem tg_13 (n : Nat) (l : List Int) (z s tm sm : Nat → Int) (i : Int) : TgOk n l z s tm sm i 13 :=
  r3_parts4 (by kernel_rfl) (by kernel_rfl) (by kernel_rfl) (by kernel_rfl)
theorem tg_14 (n : Nat) (l : List Int) (z s tm sm : Nat → Int) (i : Int) : TgOk n l z s tm sm i 14 :=
  r3_parts4 (by kernel_rfl) (by kernel_rfl) (by kernel_rfl) (by kernel_rfl)
theorem tg_15 (n : Nat) (l : List Int) (z s tm sm : Nat → Int) (i : Int) : TgOk n l z s tm sm i 15 :=
  r3_parts4 (by kernel_rfl) (by kernel_rfl) (by kernel_rfl) (by kernel_rfl)
theorem tg_16 (n : Nat) (l : List Int) (z s tm sm : Nat → Int) (i : Int) : TgOk n l z s tm sm i 16 :=
  r3_parts4 (by kernel_rfl) (by kernel_rfl) (by kernel_rfl) (by kernel_rfl)
theorem tg_go (n : Nat) (l : List Int) (z s tm sm : Nat → Int) (i : Int) (r : Nat) (h1 : 1 ≤ r) (h2 : r ≤ 16) : TgOk n l z s tm sm i r := by
  match r, h1, h2 with
  | 1, _, _ => exact tg_1 n l z s tm sm i
  | 2, _, _ => exact tg_2 n l z s tm sm i
  | 3, _, _ => exact tg_3 n l z s tm sm i
  | 4, _, _ => exact tg_4 n l z s tm sm i
  | 5, _, _ => exact tg_5 n l z s tm sm i
  | 6, _, _ => exact tg_6 n l z s tm sm i
  | 7, _, _ => exact tg_7 n l z s tm sm i
  | 8, _, _ => exact tg_8 n l z s tm sm i
  | 9, _, _ => exact tg_9 n l z s tm sm i
  | 10, _, _ => exact tg_10 n l z s tm sm i
  | 11, _, _ => exact tg_11 n l z s tm sm i
  | 12, _, _ => exact tg_12 n l z s tm sm i
  | 13, _, _ => exact tg_13 n l z s tm sm i
  | 14, _, _ => exact tg_14 n l z s tm sm i
  | 15, _, _ => exact tg_15 n l z s tm sm i
  | 16, _, _ => exact tg_16 n l z s tm sm i
  | r + 17, _, h => exact absurd h (by omega)
theorem tg_end (n : Nat) (l : List Int) (z s tm sm : Nat → Int) (i : Int) : runC gw 600 68 [.br false] tgBody (tgS n i) (tgB l z s tm sm) tgKeep [0, 1, 2, 3, 4] =
    some (.exit 2, [.sl 0 0 0 1 0 n false, .ptr 1 0, .ptr 2 0, .ptr 3 0, .ptr 4 0, .int .i64 i], (tgB l z s tm sm).map some, [Fits .i64 (n : Int), decide (i < (n : Int)) = false]) :=
  r3_parts4 (by kernel_rfl) (by kernel_rfl) (by kernel_rfl) (by kernel_rfl)
end Go.Proofs.Ytejcjdhplpjpjaa
