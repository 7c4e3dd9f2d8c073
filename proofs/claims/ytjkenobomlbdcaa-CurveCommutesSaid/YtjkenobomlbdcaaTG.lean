/- Accounts of this seat's functions: lemmas, no statement of their own. No conditions. -/
import Derived.Test.YtjkenobomlbdcaaTF
namespace Go.Proofs.Ytjkenobomlbdcaa
open Go Go.Vx
/-! ### the ladder -/
noncomputable abbrev b32 (x : Nat → Int) : List SV := svF (List.replicate 32 .u8) x 0
abbrev clL (f : Nat → Int) : List Int := [uand (f 0) 248, f 1, f 2, f 3, f 4, f 5, f 6, f 7, f 8, f 9, f 10, f 11, f 12, f 13, f 14, f 15, f 16, f 17, f 18, f 19, f 20, f 21, f 22, f 23, f 24, f 25, f 26, f 27, f 28, f 29, f 30, uor (umask (f 31) 127) 64]
def clN (la : List Int) (i : Nat) : Int := (clL (atL la)).getD i 0
theorem cl_run (la : List Int) : runF gF 400 [] 11 [.agg (svF (List.replicate 32 .u8) (atL la) 0)] [] [] = some (.agg (svF (List.replicate 32 .u8) (clN la) 0), [], []) := by kernel_rfl
theorem acc_cl : Acc gF 11 (arrF 32 .u8 32 .u8 clN) := arr_ok gF_ok fun la => ⟨_, cl_run la⟩
noncomputable abbrev gK : Ctx := gF.add [(11, arrF 32 .u8 32 .u8 clN)]
theorem gK_ok : CtxU gK := gF_ok.add mixed noGo (by
  intro x hx
  simp only [List.mem_cons, List.not_mem_nil, or_false] at hx
  rcases hx with rfl
  exact acc_cl)
structure Ld where
  a : Nat → Int
  b : Nat → Int
  c : Nat → Int
  d : Nat → Int
abbrev S5 (x : Nat → Int) (L : Ld) : Nat → Int := atL (L5 x ++ L5 L.a ++ L5 L.b ++ L5 L.c ++ L5 L.d)
def ldSw (s : Int) (L : Ld) : Ld := ⟨swP s L.a L.c, swP s L.b L.d, swQ s L.a L.c, swQ s L.b L.d⟩
def ldStep (x : Nat → Int) (L : Ld) : Ld :=
  let p := faddN (L5 L.a) (L5 L.b)
  let pp := sqL p
  let q := fsubN (L5 L.a) (L5 L.b)
  let qq := sqL q
  let e := fsubN (L5 pp) (L5 qq)
  let m := faddN (L5 L.c) (L5 L.d)
  let n := fsubN (L5 L.c) (L5 L.d)
  let v := fmulN (L5 n) (L5 p)
  let w := fmulN (L5 m) (L5 q)
  ⟨fmulN (L5 pp) (L5 qq), fmulN (L5 e) (L5 (faddN (L5 pp) (L5 (fsclN (L5 e) 121665)))), sqL (faddN (L5 v) (L5 w)), fmulN (L5 x) (L5 (sqL (fsubN (L5 v) (L5 w))))⟩
abbrev shKeep : List Nat := [0, 6, 7, 10, 11, 26]
noncomputable abbrev shBody : Code := bodyAt Try.prog 13 7
noncomputable abbrev l25 (y : Nat → Int) : List SV := svF (List.replicate 25 .u64) y 0
abbrev shS (t : Int) (i : Nat) : List (Nat × SV) := shKeep.zip [.raw (.pointer none), .ptr 0 0, .ptr 1 0, .ptr 2 0, .int .u64 t, .int .i64 (i : Int)]
noncomputable abbrev shB (z k : Nat → Int) (y : Nat → Int) : List Body := [.cells (b32 z), .cells (b32 k), .cells (l25 y)]
def kBit (k : Nat → Int) (i : Nat) : Int := umask (ushr ((listF 32 k 0).getD ((254 - (i : Int)).tdiv 8).toNat 0) ((254 - (i : Int)).tmod 8)) 1
abbrev shC (i : Nat) : List Prop := [decide ((i : Int) < 255) = true, 0 ≤ (254 - (i : Int)).tmod 8, Fits .i64 (254 - (i : Int)), ((254 - (i : Int)).tdiv 8).toNat < 32, 0 ≤ (254 - (i : Int)).tdiv 8 ∧ (254 - (i : Int)).tdiv 8 < ((32 : Nat) : Int), Fits .i64 (254 - (i : Int))]
theorem run_parts4 {α β γ δ : Type} {x : Option (α × β × γ × δ)} {a : α} {b : β} {c : γ} {d : δ} (h1 : x.map (·.1) = some a) (h2 : x.map (·.2.1) = some b) (h3 : x.map (·.2.2.1) = some c) (h4 : x.map (·.2.2.2) = some d) : x = some (a, b, c, d) := by
  cases x with
  | none => simp at h1
  | some y =>
    obtain ⟨y1, y2, y3, y4⟩ := y
    simp only [Option.map_some, Option.some.injEq] at h1 h2 h3 h4
    rw [h1, h2, h3, h4]
theorem sh_go (i : Nat) (t : Int) (z k x : Nat → Int) (L : Ld) : runC gK 600 68 [.br true] shBody (shS t i) (shB z k (S5 x L)) shKeep [0, 1, 2] =
    some (.normal, [.raw (.pointer none), .ptr 0 0, .ptr 1 0, .ptr 2 0, .int .u64 (kBit k i), .int .i64 ((i : Int) + 1)], (shB z k (S5 x (ldStep x (ldSw (uadd .u64 t (kBit k i)) L)))).map some, shC i ++ [Fits .i64 ((i : Int) + 1)]) :=
  run_parts4 (by kernel_rfl) (by kernel_rfl) (by kernel_rfl) (by kernel_rfl)
theorem sh_end (i : Nat) (t : Int) (z k x : Nat → Int) (L : Ld) : runC gK 600 68 [.br false] shBody (shS t i) (shB z k (S5 x L)) shKeep [0, 1, 2] =
    some (.exit 0, [.raw (.pointer none), .ptr 0 0, .ptr 1 0, .ptr 2 0, .int .u64 t, .int .i64 (i : Int)], (shB z k (S5 x L)).map some, [decide ((i : Int) < 255) = false]) :=
  run_parts4 (by kernel_rfl) (by kernel_rfl) (by kernel_rfl) (by kernel_rfl)
/-- what one round logs -/
abbrev one20 : List (List Int) := [[3, 7], [3, 7], [3, 1], [3, 4], [3, 2], [3, 4], [3, 2], [3, 1], [3, 2], [3, 3], [3, 3], [3, 1], [3, 4], [3, 2], [3, 4], [3, 3], [3, 3], [3, 5], [3, 1], [3, 3]]
abbrev slS (t : Int) (i : Nat) : List (Nat × SV) := shKeep.zip [.ptr 0 0, .ptr 1 0, .ptr 2 0, .ptr 3 0, .int .u64 t, .int .i64 (i : Int)]
noncomputable abbrev slB (z k : Nat → Int) (y : Nat → Int) (w : List (List Int)) : List Body := [.log w, .cells (b32 z), .cells (b32 k), .cells (l25 y)]
end Go.Proofs.Ytjkenobomlbdcaa
