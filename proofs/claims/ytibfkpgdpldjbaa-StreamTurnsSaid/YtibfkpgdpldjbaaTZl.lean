/- Accounts of this seat's functions: lemmas, no statement of their own. No conditions. -/
import Derived.Test.YtibfkpgdpldjbaaTZk
namespace Go.Proofs.Ytibfkpgdpldjbaa
open Go Go.Vx
theorem run_parts4 {α β γ δ : Type} {x : Option (α × β × γ × δ)} {a : α} {b : β} {c : γ} {d : δ} (h1 : x.map (·.1) = some a) (h2 : x.map (·.2.1) = some b) (h3 : x.map (·.2.2.1) = some c) (h4 : x.map (·.2.2.2) = some d) : x = some (a, b, c, d) := by
  cases x with
  | none => simp at h1
  | some y =>
    obtain ⟨y1, y2, y3, y4⟩ := y
    simp only [Option.map_some, Option.some.injEq] at h1 h2 h3 h4
    rw [h1, h2, h3, h4]
/-! ### the document's XOR -/
abbrev rxKeep : List Nat := [1, 3, 4, 6, 9, 10, 11]
noncomputable abbrev rxBody : Code := bodyAt Try.prog 20 4
abbrev rxV (l : List Int) (x : Nat → Int) (i : Nat) : Int := uxor (l.getD i 0) ((listF 64 x 0).getD ((i : Int).tmod 64).toNat 0)
abbrev rxc (c : Int) (i : Nat) : Int := scut .u32 ((c + (i : Int).tdiv 64).tmod 4294967296)
abbrev rxX (k n : Nat → Int) (c : Int) (i : Nat) : Nat → Int := blk (stt (atL (listF 32 k 0)) (rxc c i) (atL (listF 12 n 0)))
abbrev rxC (l : List Int) (x : Nat → Int) (w : List Int) (i : Nat) : List Prop := [(w ++ [rxV l x i]).length * 1 ≤ 2 ^ 47, ((i : Int).tmod 64).toNat < 64, (0 : Int) ≤ (i : Int).tmod 64 ∧ (i : Int).tmod 64 < ((64 : Nat) : Int)]
abbrev rxS (c : Int) (l : List Int) (i : Nat) : List (Nat × SV) := rxKeep.zip [.int .u32 c, .roi .u8 l, .ptr 0 0, .ptr 1 0, .own 3, .ptr 2 0, .int .i64 (i : Int)]
noncomputable abbrev rxB (k n x : Nat → Int) (w : List Int) : List Body := [.cells (k32 k), .cells (n12 n), .cells (b64 x), .ints .u8 w]
theorem rx_go1 (c : Int) (i : Nat) (l : List Int) (k n x : Nat → Int) (w : List Int) : runC g9 300 44 [.br true, .br true] rxBody (rxS c l i) (rxB k n x w) rxKeep [0, 1, 2, 5] =
    some (.normal, [.int .u32 c, .roi .u8 l, .ptr 0 0, .ptr 1 0, .own 3, .ptr 2 0, .int .i64 ((i : Int) + 1)], (rxB k n (rxX k n c i) (w ++ [rxV l (rxX k n c i) i])).map some, [Fits .i64 (l.length : Int), decide ((i : Int) < (l.length : Int)) = true, decide ((i : Int).tmod 64 = 0) = true, U (rxc c i), BN 32 (atL (listF 32 k 0)), BN 12 (atL (listF 12 n 0)), Fits .i64 (c + (i : Int).tdiv 64)] ++ rxC l (rxX k n c i) w i ++ [(0 : Int) ≤ (i : Int) ∧ (i : Int) < (l.length : Int), Fits .i64 ((i : Int) + 1)]) :=
  run_parts4 (by kernel_rfl) (by kernel_rfl) (by kernel_rfl) (by kernel_rfl)
theorem rx_go0 (c : Int) (i : Nat) (l : List Int) (k n x : Nat → Int) (w : List Int) : runC g9 300 44 [.br true, .br false] rxBody (rxS c l i) (rxB k n x w) rxKeep [0, 1, 2, 5] =
    some (.normal, [.int .u32 c, .roi .u8 l, .ptr 0 0, .ptr 1 0, .own 3, .ptr 2 0, .int .i64 ((i : Int) + 1)], (rxB k n x (w ++ [rxV l x i])).map some, [Fits .i64 (l.length : Int), decide ((i : Int) < (l.length : Int)) = true, decide ((i : Int).tmod 64 = 0) = false] ++ rxC l x w i ++ [(0 : Int) ≤ (i : Int) ∧ (i : Int) < (l.length : Int), Fits .i64 ((i : Int) + 1)]) :=
  run_parts4 (by kernel_rfl) (by kernel_rfl) (by kernel_rfl) (by kernel_rfl)
theorem rx_end (c : Int) (i : Nat) (l : List Int) (k n x : Nat → Int) (w : List Int) : runC g9 300 44 [.br false] rxBody (rxS c l i) (rxB k n x w) rxKeep [0, 1, 2, 3] =
    some (.exit 0, [.int .u32 c, .roi .u8 l, .ptr 0 0, .ptr 1 0, .own 3, .ptr 2 0, .int .i64 (i : Int)], (rxB k n x w).map some, [Fits .i64 (l.length : Int), decide ((i : Int) < (l.length : Int)) = false]) :=
  run_parts4 (by kernel_rfl) (by kernel_rfl) (by kernel_rfl) (by kernel_rfl)
end Go.Proofs.Ytibfkpgdpldjbaa
