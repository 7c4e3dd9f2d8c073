/- Accounts of this seat's functions: lemmas, no statement of their own. No conditions. -/
import Derived.Test.YthciddlfnajchaaDoorTVd
import Derived.Test.YthciddlfnajchaaDoorV5
namespace Go.Proofs.Tryd
open Go Go.Vx
/-! ### DigestOwn: all is looked at -/
abbrev oK6 : List Nat := [7, 9, 11, 15, 16, 20, 23]
abbrev oV6 (i : Int) : List SV := [.ptr 0 0, .ptr 1 0, .ptr 2 0, .own 3, .own 4, .ptr 13 0, .lit .i64 i]
abbrev oX6 (i k : Int) : List SV := [.ptr 0 0, .ptr 1 0, .ptr 2 0, .own 3, .own 4, .ptr 13 0, .lit .i64 i, .int .i64 k]
noncomputable abbrev o6C : Code := bodyAt Tryd.prog 6 45
noncomputable abbrev c6C : Code := bodyAt Tryd.prog 6 48
section
variable (p : Addr) (a b : Nat → Int) (w o : List Int) (z : Nat → Nat) (L X : Nat → List Int)
theorem o6_end : runC (gO p) 900 230 [] o6C (oK6.zip (oV6 8)) (oS a b w o z L X 8) [7, 9, 15, 16] (upto 22) =
    some (.exit 14, [.ptr 0 0, .ptr 1 0, .own 3, .own 4], (oS a b w o z L X 8).map some, []) := r3_parts4 (by kernel_rfl) (by kernel_rfl) (by kernel_rfl) (by kernel_rfl)
theorem od_fin : runC (gO p) 900 230 [.br true, .br true] (dropSeq 19 odC) ([7, 9, 15, 16].zip [.ptr 0 0, .ptr 1 0, .own 3, .own 4]) (oS a b w o z L X 8) [6] [0] =
    some (.ret, [.sbool true], [some (dgV nilR (n75 a))], [true = true, 0 + (zI (n75 b) + 1) ≤ (dgL (n75 b)).length, 0 + o.length ≤ o.length, zI (n75 b) + 1 ≤ 140737488355328, subI (dgL (n75 b)) 0 (zI (n75 b) + 1) = subI o 0 o.length, 0 ≤ n75 b 74 ∧ n75 b 74 ≤ 64, 1 ≤ n75 b 0 ∧ n75 b 0 ≤ 32,
      true = true, 0 + (zI (n75 a) + 1) ≤ (dgL (n75 a)).length, 0 + w.length ≤ w.length, zI (n75 a) + 1 ≤ 140737488355328, subI (dgL (n75 a)) 0 (zI (n75 a) + 1) = subI w 0 w.length, 0 ≤ n75 a 74 ∧ n75 a 74 ≤ 64, 1 ≤ n75 a 0 ∧ n75 a 0 ≤ 32]) := r3_parts4 (by kernel_rfl) (by kernel_rfl) (by kernel_rfl) (by kernel_rfl)
variable (k : Nat)
theorem c6_lo : ∀ i : Nat, i < 8 → runC (gO p) 900 230 [.br true, .br false, .br false, .br true, .br false] c6C ((oK6 ++ [24]).zip (oX6 (i : Int) (k : Int))) (oS a b w o z L X 8) (oK6 ++ [24]) (upto 22) =
    some (.normal, oX6 (i : Int) ((k : Int) + 1), (oS a b w o z L X 8).map some, [Fits .i64 ((X i).length : Int), decide ((k : Int) < ((X i).length : Int)) = true, Fits .i64 ((z i + 1 : Nat) : Int), decide (((z i + 1 : Nat) : Int) ≤ (k : Int)) = false, 0 + k < (L i).length, (0 : Int) ≤ (k : Int) ∧ (k : Int) < ((z i + 1 : Nat) : Int), decide ((k : Int) < ((z i + 1 : Nat) : Int)) = true, Fits .i64 ((z i + 1 : Nat) : Int),
      (!decide ((X i).getD k 0 = 10 + (i : Int))) = false, k < (X i).length, (0 : Int) ≤ (k : Int) ∧ (k : Int) < ((X i).length : Int), (!decide ((L i).getD (0 + k) 0 = 10 + (i : Int))) = false, Fits .i64 ((k : Int) + 1)])
  | 0, _ => r3_parts4 (by kernel_rfl) (by kernel_rfl) (by kernel_rfl) (by kernel_rfl)
  | 1, _ => r3_parts4 (by kernel_rfl) (by kernel_rfl) (by kernel_rfl) (by kernel_rfl)
  | 2, _ => r3_parts4 (by kernel_rfl) (by kernel_rfl) (by kernel_rfl) (by kernel_rfl)
  | 3, _ => r3_parts4 (by kernel_rfl) (by kernel_rfl) (by kernel_rfl) (by kernel_rfl)
  | 4, _ => r3_parts4 (by kernel_rfl) (by kernel_rfl) (by kernel_rfl) (by kernel_rfl)
  | 5, _ => r3_parts4 (by kernel_rfl) (by kernel_rfl) (by kernel_rfl) (by kernel_rfl)
  | 6, _ => r3_parts4 (by kernel_rfl) (by kernel_rfl) (by kernel_rfl) (by kernel_rfl)
  | 7, _ => r3_parts4 (by kernel_rfl) (by kernel_rfl) (by kernel_rfl) (by kernel_rfl)
  | i + 8, h => absurd h (by omega)
theorem c6_hi : ∀ i : Nat, i < 8 → runC (gO p) 900 230 [.br true, .br true, .br false, .br false] c6C ((oK6 ++ [24]).zip (oX6 (i : Int) (k : Int))) (oS a b w o z L X 8) (oK6 ++ [24]) (upto 22) =
    some (.normal, oX6 (i : Int) ((k : Int) + 1), (oS a b w o z L X 8).map some, [Fits .i64 ((X i).length : Int), decide ((k : Int) < ((X i).length : Int)) = true, Fits .i64 ((z i + 1 : Nat) : Int), decide (((z i + 1 : Nat) : Int) ≤ (k : Int)) = true, decide ((k : Int) < ((z i + 1 : Nat) : Int)) = false, Fits .i64 ((z i + 1 : Nat) : Int),
      (!decide ((X i).getD k 0 = 100 + (i : Int))) = false, k < (X i).length, (0 : Int) ≤ (k : Int) ∧ (k : Int) < ((X i).length : Int), Fits .i64 ((k : Int) + 1)])
  | 0, _ => r3_parts4 (by kernel_rfl) (by kernel_rfl) (by kernel_rfl) (by kernel_rfl)
  | 1, _ => r3_parts4 (by kernel_rfl) (by kernel_rfl) (by kernel_rfl) (by kernel_rfl)
  | 2, _ => r3_parts4 (by kernel_rfl) (by kernel_rfl) (by kernel_rfl) (by kernel_rfl)
  | 3, _ => r3_parts4 (by kernel_rfl) (by kernel_rfl) (by kernel_rfl) (by kernel_rfl)
  | 4, _ => r3_parts4 (by kernel_rfl) (by kernel_rfl) (by kernel_rfl) (by kernel_rfl)
  | 5, _ => r3_parts4 (by kernel_rfl) (by kernel_rfl) (by kernel_rfl) (by kernel_rfl)
  | 6, _ => r3_parts4 (by kernel_rfl) (by kernel_rfl) (by kernel_rfl) (by kernel_rfl)
  | 7, _ => r3_parts4 (by kernel_rfl) (by kernel_rfl) (by kernel_rfl) (by kernel_rfl)
  | i + 8, h => absurd h (by omega)
theorem c6_end : ∀ i : Nat, i < 8 → runC (gO p) 900 230 [.br false] c6C ((oK6 ++ [24]).zip (oX6 (i : Int) (k : Int))) (oS a b w o z L X 8) oK6 (upto 22) =
    some (.exit 16, oV6 (i : Int), (oS a b w o z L X 8).map some, [Fits .i64 ((X i).length : Int), decide ((k : Int) < ((X i).length : Int)) = false])
  | 0, _ => r3_parts4 (by kernel_rfl) (by kernel_rfl) (by kernel_rfl) (by kernel_rfl)
  | 1, _ => r3_parts4 (by kernel_rfl) (by kernel_rfl) (by kernel_rfl) (by kernel_rfl)
  | 2, _ => r3_parts4 (by kernel_rfl) (by kernel_rfl) (by kernel_rfl) (by kernel_rfl)
  | 3, _ => r3_parts4 (by kernel_rfl) (by kernel_rfl) (by kernel_rfl) (by kernel_rfl)
  | 4, _ => r3_parts4 (by kernel_rfl) (by kernel_rfl) (by kernel_rfl) (by kernel_rfl)
  | 5, _ => r3_parts4 (by kernel_rfl) (by kernel_rfl) (by kernel_rfl) (by kernel_rfl)
  | 6, _ => r3_parts4 (by kernel_rfl) (by kernel_rfl) (by kernel_rfl) (by kernel_rfl)
  | 7, _ => r3_parts4 (by kernel_rfl) (by kernel_rfl) (by kernel_rfl) (by kernel_rfl)
  | i + 8, h => absurd h (by omega)
end
/-! the ways out -/
noncomputable abbrev gE (p : Addr) : Ctx := gT p (fun b => !b)
theorem od_long1 (p : Addr) (n : Int) (k d : List Int) : runF (gE p) 900 [.br true] 6 [.int .i64 n, .roi .u8 k, .roi .u8 d] [] [] = some (.bool true, [], [decide ((131072 : Int) < (d.length : Int)) = true, Fits .i64 (d.length : Int)]) := run_parts (by kernel_rfl) (by kernel_rfl) (by kernel_rfl)
theorem od_long2 (p : Addr) (n : Int) (k d : List Int) : runF (gE p) 900 [.br false, .br true] 6 [.int .i64 n, .roi .u8 k, .roi .u8 d] [] [] = some (.bool true, [], [Fits .i64 (k.length : Int), decide ((131072 : Int) < (d.length : Int)) = false, Fits .i64 (d.length : Int), decide ((131072 : Int) < (k.length : Int)) = true]) := run_parts (by kernel_rfl) (by kernel_rfl) (by kernel_rfl)
theorem od_err (p : Addr) (n : Int) (k d : List Int) : runF (gE p) 900 [.br false, .br false] 6 [.int .i64 n, .roi .u8 k, .roi .u8 d] [] [] = some (.sbool true, [], [Fits .i64 (k.length : Int), decide ((131072 : Int) < (d.length : Int)) = false, Fits .i64 (d.length : Int), decide ((131072 : Int) < (k.length : Int)) = false, n < 1 ∨ 32 < n ∨ 32 < k.length, Fits .i64 (k.length : Int), (1 : Int) ≤ 32, (32 : Int) ≤ 32, ([] : List Int).length ≤ 32]) := run_parts (by kernel_rfl) (by kernel_rfl) (by kernel_rfl)
end Go.Proofs.Tryd

namespace Go.Proofs.Tryd
open Go Go.Vx
/-! ### DigestOwn: between the loops -/
noncomputable abbrev b4C : Code := match dropSeq 1 o4C with | .seq (.block _ c) _ => c | _ => .skip
noncomputable abbrev r4C : Code := match dropSeq 1 o4C with | .seq _ c => c | _ => .skip
theorem o4_drop : dropSeq 1 o4C = .seq (.block 7 b4C) r4C := by kernel_rfl
theorem b4_drop : dropSeq 1 b4C = .block 8 (.loop w4C) := by kernel_rfl
noncomputable abbrev b6C : Code := match dropSeq 1 o6C with | .seq (.block _ c) _ => c | _ => .skip
noncomputable abbrev r6C : Code := match dropSeq 1 o6C with | .seq _ c => c | _ => .skip
theorem o6_drop : dropSeq 1 o6C = .seq (.block 15 b6C) r6C := by kernel_rfl
theorem b6_drop : dropSeq 1 b6C = .block 16 (.loop c6C) := by kernel_rfl
noncomputable abbrev q14 : Code := match dropSeq 14 odC with | .seq a _ => a | _ => .skip
noncomputable abbrev q15 : Code := match dropSeq 15 odC with | .seq a _ => a | _ => .skip
noncomputable abbrev q17 : Code := match dropSeq 17 odC with | .seq a _ => a | _ => .skip
noncomputable abbrev q18 : Code := match dropSeq 18 odC with | .seq a _ => a | _ => .skip
theorem od_d14 : dropSeq 6 (dropSeq 8 odC) = .seq q14 (.seq q15 (dropSeq 16 odC)) := by kernel_rfl
theorem od_d17 : dropSeq 1 (dropSeq 16 odC) = .seq q17 (.seq q18 (dropSeq 19 odC)) := by kernel_rfl
theorem q14_d : dropSeq 1 q14 = .block 4 (.loop o3C) := by kernel_rfl
theorem q15_d : dropSeq 1 q15 = .block 6 (.loop o4C) := by kernel_rfl
theorem q17_d : dropSeq 1 q17 = .block 10 (.loop o5C) := by kernel_rfl
theorem q18_d : dropSeq 1 q18 = .block 14 (.loop o6C) := by kernel_rfl
section
variable (p : Addr) (a b : Nat → Int) (w o : List Int) (z : Nat → Nat) (L X : Nat → List Int)
theorem q14_in (n s : Int) : runC (gO p) 900 230 [] (takeSeq 1 q14) ([0, 7, 9, 11, 14, 15, 16].zip [.int .i64 n, .ptr 0 0, .ptr 1 0, .ptr 2 0, .int .i64 s, .own 3, .own 4]) (oB a b w o z L) oK3 i13 =
    some (.normal, oV3 n s 0, (oB a b w o z L).map some, []) := r3_parts4 (by kernel_rfl) (by kernel_rfl) (by kernel_rfl) (by kernel_rfl)
theorem q15_in : runC (gO p) 900 230 [] (takeSeq 1 q15) ([7, 9, 11, 15, 16].zip [.ptr 0 0, .ptr 1 0, .ptr 2 0, .own 3, .own 4]) (oB a b w o z L) oK4 i13 =
    some (.normal, oV4 0, (oB a b w o z L).map some, []) := r3_parts4 (by kernel_rfl) (by kernel_rfl) (by kernel_rfl) (by kernel_rfl)
theorem q16_in : runC (gO p) 900 230 [] (takeSeq 1 (dropSeq 16 odC)) ([7, 9, 11, 15, 16].zip [.ptr 0 0, .ptr 1 0, .ptr 2 0, .own 3, .own 4]) (oB a b w o z L) [7, 9, 11, 15, 16, 20] (upto 14) =
    some (.normal, [.ptr 0 0, .ptr 1 0, .ptr 2 0, .own 3, .own 4, .ptr 13 0], (oS a b w o z L X 0).map some, []) := r3_parts4 (by kernel_rfl) (by kernel_rfl) (by kernel_rfl) (by kernel_rfl)
theorem q17_in : runC (gO p) 900 230 [] (takeSeq 1 q17) ([7, 9, 11, 15, 16, 20].zip [.ptr 0 0, .ptr 1 0, .ptr 2 0, .own 3, .own 4, .ptr 13 0]) (oS a b w o z L X 0) oK5 (upto 14) =
    some (.normal, oV5 0, (oS a b w o z L X 0).map some, []) := r3_parts4 (by kernel_rfl) (by kernel_rfl) (by kernel_rfl) (by kernel_rfl)
theorem q18_in : runC (gO p) 900 230 [] (takeSeq 1 q18) ([7, 9, 11, 15, 16, 20].zip [.ptr 0 0, .ptr 1 0, .ptr 2 0, .own 3, .own 4, .ptr 13 0]) (oS a b w o z L X 8) oK6 (upto 22) =
    some (.normal, oV6 0, (oS a b w o z L X 8).map some, []) := r3_parts4 (by kernel_rfl) (by kernel_rfl) (by kernel_rfl) (by kernel_rfl)
theorem o4_end : runC (gO p) 900 230 [] o4C (oK4.zip (oV4 8)) (oB a b w o z L) [7, 9, 11, 15, 16] i13 =
    some (.exit 6, [.ptr 0 0, .ptr 1 0, .ptr 2 0, .own 3, .own 4], (oB a b w o z L).map some, []) := r3_parts4 (by kernel_rfl) (by kernel_rfl) (by kernel_rfl) (by kernel_rfl)
theorem o4_in : ∀ i : Nat, i < 8 → runC (gO p) 900 230 [] (takeSeq 1 o4C) (oK4.zip (oV4 (i : Int))) (oB a b w o z L) oK4 i13 =
    some (.normal, oV4 (i : Int), (oB a b w o z L).map some, [])
  | 0, _ => r3_parts4 (by kernel_rfl) (by kernel_rfl) (by kernel_rfl) (by kernel_rfl)
  | 1, _ => r3_parts4 (by kernel_rfl) (by kernel_rfl) (by kernel_rfl) (by kernel_rfl)
  | 2, _ => r3_parts4 (by kernel_rfl) (by kernel_rfl) (by kernel_rfl) (by kernel_rfl)
  | 3, _ => r3_parts4 (by kernel_rfl) (by kernel_rfl) (by kernel_rfl) (by kernel_rfl)
  | 4, _ => r3_parts4 (by kernel_rfl) (by kernel_rfl) (by kernel_rfl) (by kernel_rfl)
  | 5, _ => r3_parts4 (by kernel_rfl) (by kernel_rfl) (by kernel_rfl) (by kernel_rfl)
  | 6, _ => r3_parts4 (by kernel_rfl) (by kernel_rfl) (by kernel_rfl) (by kernel_rfl)
  | 7, _ => r3_parts4 (by kernel_rfl) (by kernel_rfl) (by kernel_rfl) (by kernel_rfl)
  | i + 8, h => absurd h (by omega)
theorem b4_in : ∀ i : Nat, i < 8 → runC (gO p) 900 230 [] (takeSeq 1 b4C) (oK4.zip (oV4 (i : Int))) (oB a b w o z L) (oK4 ++ [19]) i13 =
    some (.normal, oV4 (i : Int) ++ [SV.lit .i64 0], (oB a b w o z L).map some, [])
  | 0, _ => r3_parts4 (by kernel_rfl) (by kernel_rfl) (by kernel_rfl) (by kernel_rfl)
  | 1, _ => r3_parts4 (by kernel_rfl) (by kernel_rfl) (by kernel_rfl) (by kernel_rfl)
  | 2, _ => r3_parts4 (by kernel_rfl) (by kernel_rfl) (by kernel_rfl) (by kernel_rfl)
  | 3, _ => r3_parts4 (by kernel_rfl) (by kernel_rfl) (by kernel_rfl) (by kernel_rfl)
  | 4, _ => r3_parts4 (by kernel_rfl) (by kernel_rfl) (by kernel_rfl) (by kernel_rfl)
  | 5, _ => r3_parts4 (by kernel_rfl) (by kernel_rfl) (by kernel_rfl) (by kernel_rfl)
  | 6, _ => r3_parts4 (by kernel_rfl) (by kernel_rfl) (by kernel_rfl) (by kernel_rfl)
  | 7, _ => r3_parts4 (by kernel_rfl) (by kernel_rfl) (by kernel_rfl) (by kernel_rfl)
  | i + 8, h => absurd h (by omega)
theorem r4_next : ∀ i : Nat, i < 8 → runC (gO p) 900 230 [] r4C (oK4.zip (oV4 (i : Int))) (oB a b w o z L) oK4 i13 =
    some (.normal, oV4 ((i : Int) + 1), (oB a b w o z L).map some, [])
  | 0, _ => r3_parts4 (by kernel_rfl) (by kernel_rfl) (by kernel_rfl) (by kernel_rfl)
  | 1, _ => r3_parts4 (by kernel_rfl) (by kernel_rfl) (by kernel_rfl) (by kernel_rfl)
  | 2, _ => r3_parts4 (by kernel_rfl) (by kernel_rfl) (by kernel_rfl) (by kernel_rfl)
  | 3, _ => r3_parts4 (by kernel_rfl) (by kernel_rfl) (by kernel_rfl) (by kernel_rfl)
  | 4, _ => r3_parts4 (by kernel_rfl) (by kernel_rfl) (by kernel_rfl) (by kernel_rfl)
  | 5, _ => r3_parts4 (by kernel_rfl) (by kernel_rfl) (by kernel_rfl) (by kernel_rfl)
  | 6, _ => r3_parts4 (by kernel_rfl) (by kernel_rfl) (by kernel_rfl) (by kernel_rfl)
  | 7, _ => r3_parts4 (by kernel_rfl) (by kernel_rfl) (by kernel_rfl) (by kernel_rfl)
  | i + 8, h => absurd h (by omega)
theorem o6_in : ∀ i : Nat, i < 8 → runC (gO p) 900 230 [] (takeSeq 1 o6C) (oK6.zip (oV6 (i : Int))) (oS a b w o z L X 8) oK6 (upto 22) =
    some (.normal, oV6 (i : Int), (oS a b w o z L X 8).map some, [])
  | 0, _ => r3_parts4 (by kernel_rfl) (by kernel_rfl) (by kernel_rfl) (by kernel_rfl)
  | 1, _ => r3_parts4 (by kernel_rfl) (by kernel_rfl) (by kernel_rfl) (by kernel_rfl)
  | 2, _ => r3_parts4 (by kernel_rfl) (by kernel_rfl) (by kernel_rfl) (by kernel_rfl)
  | 3, _ => r3_parts4 (by kernel_rfl) (by kernel_rfl) (by kernel_rfl) (by kernel_rfl)
  | 4, _ => r3_parts4 (by kernel_rfl) (by kernel_rfl) (by kernel_rfl) (by kernel_rfl)
  | 5, _ => r3_parts4 (by kernel_rfl) (by kernel_rfl) (by kernel_rfl) (by kernel_rfl)
  | 6, _ => r3_parts4 (by kernel_rfl) (by kernel_rfl) (by kernel_rfl) (by kernel_rfl)
  | 7, _ => r3_parts4 (by kernel_rfl) (by kernel_rfl) (by kernel_rfl) (by kernel_rfl)
  | i + 8, h => absurd h (by omega)
theorem b6_in : ∀ i : Nat, i < 8 → runC (gO p) 900 230 [] (takeSeq 1 b6C) (oK6.zip (oV6 (i : Int))) (oS a b w o z L X 8) (oK6 ++ [24]) (upto 22) =
    some (.normal, oV6 (i : Int) ++ [SV.lit .i64 0], (oS a b w o z L X 8).map some, [])
  | 0, _ => r3_parts4 (by kernel_rfl) (by kernel_rfl) (by kernel_rfl) (by kernel_rfl)
  | 1, _ => r3_parts4 (by kernel_rfl) (by kernel_rfl) (by kernel_rfl) (by kernel_rfl)
  | 2, _ => r3_parts4 (by kernel_rfl) (by kernel_rfl) (by kernel_rfl) (by kernel_rfl)
  | 3, _ => r3_parts4 (by kernel_rfl) (by kernel_rfl) (by kernel_rfl) (by kernel_rfl)
  | 4, _ => r3_parts4 (by kernel_rfl) (by kernel_rfl) (by kernel_rfl) (by kernel_rfl)
  | 5, _ => r3_parts4 (by kernel_rfl) (by kernel_rfl) (by kernel_rfl) (by kernel_rfl)
  | 6, _ => r3_parts4 (by kernel_rfl) (by kernel_rfl) (by kernel_rfl) (by kernel_rfl)
  | 7, _ => r3_parts4 (by kernel_rfl) (by kernel_rfl) (by kernel_rfl) (by kernel_rfl)
  | i + 8, h => absurd h (by omega)
theorem r6_next : ∀ i : Nat, i < 8 → runC (gO p) 900 230 [] r6C (oK6.zip (oV6 (i : Int))) (oS a b w o z L X 8) oK6 (upto 22) =
    some (.normal, oV6 ((i : Int) + 1), (oS a b w o z L X 8).map some, [])
  | 0, _ => r3_parts4 (by kernel_rfl) (by kernel_rfl) (by kernel_rfl) (by kernel_rfl)
  | 1, _ => r3_parts4 (by kernel_rfl) (by kernel_rfl) (by kernel_rfl) (by kernel_rfl)
  | 2, _ => r3_parts4 (by kernel_rfl) (by kernel_rfl) (by kernel_rfl) (by kernel_rfl)
  | 3, _ => r3_parts4 (by kernel_rfl) (by kernel_rfl) (by kernel_rfl) (by kernel_rfl)
  | 4, _ => r3_parts4 (by kernel_rfl) (by kernel_rfl) (by kernel_rfl) (by kernel_rfl)
  | 5, _ => r3_parts4 (by kernel_rfl) (by kernel_rfl) (by kernel_rfl) (by kernel_rfl)
  | 6, _ => r3_parts4 (by kernel_rfl) (by kernel_rfl) (by kernel_rfl) (by kernel_rfl)
  | 7, _ => r3_parts4 (by kernel_rfl) (by kernel_rfl) (by kernel_rfl) (by kernel_rfl)
  | i + 8, h => absurd h (by omega)
end
end Go.Proofs.Tryd

namespace Go.Proofs.Tryd
open Go Go.Vx
/-! ### DigestOwn: the loops -/
theorem updI_self (l : Nat → List Int) (i : Nat) (x : List Int) : updI l i x i = x := by simp [updI]
theorem updI_upd (l : Nat → List Int) (i : Nat) (x y : List Int) : updI (updI l i x) i y = updI l i y := by
  funext j; unfold updI; cases Nat.beq j i <;> rfl
theorem updI_same (l : Nat → List Int) (i : Nat) : updI l i (l i) = l := by
  funext j; unfold updI
  cases h : Nat.beq j i with
  | true => rw [Nat.eq_of_beq_eq_true h]
  | false => rfl
theorem blt_e (i j : Nat) : Nat.blt i j = decide (i < j) := by
  by_cases h : i < j
  · rw [decide_eq_true h]; rw [Nat.blt_eq]; exact h
  · rw [decide_eq_false h]
    cases e : Nat.blt i j with
    | false => rfl
    | true => rw [Nat.blt_eq] at e; exact absurd e h
theorem selI_lt {α : Type} {i j : Nat} (h : j < i) (x y : α) : selI i j x y = x := by simp [selI, blt_e, h]
theorem selI_ge {α : Type} {i j : Nat} (h : ¬ j < i) (x y : α) : selI i j x y = y := by simp [selI, blt_e, h]
/-- list i is written over, for those before j -/
def nL (M L : Nat → List Int) (j i : Nat) : List Int := selI j i (M i) (L i)
theorem nL_self (M L : Nat → List Int) (j : Nat) : nL M L j j = L j := selI_ge (Nat.lt_irrefl j) _ _
theorem nL_zero (M L : Nat → List Int) : nL M L 0 = L := by funext i; exact selI_ge (Nat.not_lt_zero i) _ _
theorem nL_lt {M L : Nat → List Int} {i j : Nat} (h : i < j) : nL M L j i = M i := selI_lt h _ _
theorem nL_succ (M L : Nat → List Int) (j : Nat) : updI (nL M L j) j (M j) = nL M L (j + 1) := by
  funext i
  by_cases h : i = j
  · subst h; rw [updI_self, nL_lt (Nat.lt_succ_self _)]
  · have h1 : Nat.beq i j = false := by
      cases e : Nat.beq i j with
      | false => rfl
      | true => exact absurd (Nat.eq_of_beq_eq_true e) h
    have h2 : updI (nL M L j) j (M j) i = nL M L j i := by simp only [updI, h1]
    rw [h2]
    by_cases h3 : i < j
    · rw [nL_lt h3, nL_lt (by omega)]
    · unfold nL; rw [selI_ge h3, selI_ge (by omega)]
theorem set_fill {l : List Int} {k : Nat} {v : Int} (hk : k < l.length) : (List.replicate k v ++ l.drop k).set (0 + k) v = List.replicate (k + 1) v ++ l.drop (k + 1) := by
  rw [List.set_append_right (h := by simp), List.length_replicate, Nat.zero_add, Nat.sub_self, List.drop_eq_getElem_cons hk, List.set_cons_zero, List.replicate_succ', List.append_assoc]
  rfl
theorem i13_nd : i13.Nodup := by decide
theorem upto_nd : ∀ n, (upto n).Nodup ∧ ∀ x ∈ upto n, x < n
  | 0 => ⟨by simp [upto], by simp [upto]⟩
  | n + 1 => by
    obtain ⟨h1, h2⟩ := upto_nd n
    refine ⟨?_, fun x hx => ?_⟩
    · simp only [upto]
      rw [List.nodup_append]
      refine ⟨h1, by simp, fun x hx y hy => ?_⟩
      simp only [List.mem_singleton] at hy
      have := h2 x hx; omega
    · simp only [upto, List.mem_append, List.mem_singleton] at hx
      rcases hx with hx | hx
      · have := h2 x hx; omega
      · omega
theorem upto_nd1 {n m : Nat} (h : n ≤ m) : (upto n ++ [m]).Nodup := by
  rw [List.nodup_append]
  refine ⟨(upto_nd n).1, by simp, fun x hx y hy => ?_⟩
  simp only [List.mem_singleton] at hy
  have := (upto_nd n).2 x hx; omega
theorem fS {n : Nat} (h : n ≤ 1000) : Fits .i64 (n : Int) := fits_of (by omega) (by omega)
theorem lg_len (X : Nat → List Int) : ∀ i, (lg X i).length = i
  | 0 => rfl
  | i + 1 => by simp [lg, lg_len X i]
section
variable {p : Addr} {a b : Nat → Int} {w o : List Int} {z : Nat → Nat} {L X : Nat → List Int} {W0 : World} {OW : Go.Vx.Own}
theorem oX4_imp (i : Int) (t : Nat) : DenImp (tget (mkT ((oK4 ++ [19]).zip (oV4 i ++ [SV.lit .i64 0]))) t) (tget (mkT ((oK4 ++ [19]).zip (oX4 i ((0 : Nat) : Int)))) t) := by
  refine zip_rel (R := DenImp) (DenImp.refl _) (oK4 ++ [19]) (oV4 i ++ [SV.lit .i64 0]) (oX4 i ((0 : Nat) : Int)) (by decide) rfl (fun j c c' h1 h2 => ?_) t
  match j with
  | 0 | 1 | 2 | 3 | 4 | 5 => simp at h1 h2; subst h1; subst h2; exact DenImp.refl _
  | 6 => simp at h1 h2; subst h1; subst h2; exact norm_imp (.lit .i64 0)
  | j + 7 => simp at h1
abbrev MO (z : Nat → Nat) (i : Nat) : List Int := List.replicate (z i + 1) (10 + (i : Int))
theorem w4_loop {i : Nat} (hi : i < 8) (hl : (L i).length = z i + 1) (hz : z i < 32) {w0 : World} {O : Go.Vx.Own} (hG : GlobOk (gO p) w0 O) :
    SimC (gO p).P w0 O 230 (.loop w4C) ((oK4 ++ [19]).zip (oV4 (i : Int) ++ [SV.lit .i64 0])) (oB a b w o z L) (.exit 8) (oK4.zip (oV4 (i : Int))) (oB a b w o z (updI L i (MO z i))) 0 := by
  refine SimC.pre ?_ (oX4_imp (i : Int))
  have e0 : oB a b w o z L = oB a b w o z (updI L i (List.replicate 0 (10 + (i : Int)) ++ (L i).drop 0)) := by
    rw [show List.replicate 0 (10 + (i : Int)) ++ (L i).drop 0 = L i by simp, updI_same]
  have e1 : MO z i = List.replicate (z i + 1) (10 + (i : Int)) ++ (L i).drop (z i + 1) := by rw [← hl, List.drop_length, List.append_nil, hl]
  rw [e0, e1]
  have F1 : Fits .i64 ((z i + 1 : Nat) : Int) := fS (by omega)
  refine SimC.iter (g := gO p) (S := fun k => (oK4 ++ [19]).zip (oX4 (i : Int) (k : Int))) (B := fun k => oB a b w o z (updI L i (List.replicate k (10 + (i : Int)) ++ (L i).drop k))) (N := z i + 1) (e := .exit 8) (fun k hk => ?_) ?_ (by simp) 0 (Nat.zero_le _)
  · have h := w4_go p a b w o z (updI L i (List.replicate k (10 + (i : Int)) ++ (L i).drop k)) k i hi
    have hn : (List.replicate k (10 + (i : Int)) ++ (L i).drop k).length = z i + 1 := by simp; omega
    rw [updI_self, updI_upd, set_fill (by omega), hn] at h
    refine SimC.run (ids := i13) (gO_ok p) (by decide) h ?_ i13_nd (fun j hj => absurd hj (by omega)) (by decide) (by simp) hG
    simp only [allC_cons, allC_nil, and_true]
    exact ⟨F1, decide_eq_true (by omega), by omega, ⟨by omega, by omega⟩, fS (n := k + 1) (by omega)⟩
  · refine SimC.run (ids := i13) (gO_ok p) (by decide) (w4_end p a b w o z _ (z i + 1) i hi) ?_ i13_nd (fun j hj => absurd hj (by omega)) (by decide) (by simp) hG
    simp only [allC_cons, allC_nil, and_true]
    exact ⟨F1, decide_eq_false (by omega)⟩
theorem od_writes (hl : ∀ i, i < 8 → (L i).length = z i + 1) (hz : ∀ i, i < 8 → z i < 32) (c : Act) (v : World)
    (x : StG (gO p) W0 OW 230 ([7, 9, 11, 15, 16].zip [.ptr 0 0, .ptr 1 0, .ptr 2 0, .own 3, .own 4]) (oB a b w o z L) c v) (Q : Exit → Act → World → Prop)
    (hQ : ∀ c' v', StG (gO p) W0 OW 230 ([7, 9, 11, 15, 16].zip [.ptr 0 0, .ptr 1 0, .ptr 2 0, .own 3, .own 4]) (oB a b w o z (nL (MO z) L 8)) c' v' → Q .normal c' v') : q15.wp (gO p).P Q c v := by
  refine x.cut (k := 1) (gO_ok p) (by decide) (q15_in p a b w o z L) (fun p hp => by cases hp) i13_nd (by decide) (by simp) fun c1 v1 x1 => ?_
  rw [q15_d]
  refine wp_block ?_
  refine StG.iter (W := W0) (OW := OW) (nT := 230) (S := fun j => oK4.zip (oV4 (j : Int))) (B := fun j => oB a b w o z (nL (MO z) L j)) (N := 8) (fun i hi c v x Q' hQ' => ?_) (fun c v x => ?_) 0 (by omega) c1 v1 (by rw [nL_zero]; exact x1)
  · refine x.cut (k := 1) (gO_ok p) (by decide) (o4_in p a b w o z (nL (MO z) L i) i hi) (fun p hp => by cases hp) i13_nd (by decide) (by simp) fun c2 v2 x2 => ?_
    rw [o4_drop]
    refine wp_seq (wp_block ?_)
    refine x2.cut (k := 1) (gO_ok p) (by decide) (b4_in p a b w o z (nL (MO z) L i) i hi) (fun p hp => by cases hp) i13_nd (by decide) (by simp) fun c3 v3 x3 => ?_
    rw [b4_drop]
    refine wpL_wp (StG.of (fun w0 O hG => SimC.block (w4_loop (L := nL (MO z) L i) hi (by rw [nL_self]; exact hl i hi) (hz i hi) hG) (.inl ⟨rfl, rfl⟩)) x3 fun c4 v4 x4 => ?_)
    rw [nL_succ] at x4
    show r4C.wp (gO p).P Q' c4 v4
    exact x4.run (gO_ok p) (by decide) (r4_next p a b w o z _ i hi) (fun p hp => by cases hp) i13_nd (by decide) (by simp) fun c5 v5 x5 => hQ' c5 v5 x5
  · exact x.run (gO_ok p) (by decide) (o4_end p a b w o z _) (fun p hp => by cases hp) i13_nd (by decide) (by simp) fun c5 v5 x5 => hQ c5 v5 x5
/-! the appends -/
abbrev XO (L : Nat → List Int) (i : Nat) : List Int := L i ++ List.replicate 70 (100 + (i : Int))
theorem oX5_imp (i : Int) (t : Nat) : DenImp (tget (mkT ((oK5 ++ [22]).zip (oV5 i ++ [SV.lit .i64 1]))) t) (tget (mkT ((oK5 ++ [22]).zip (oX5 i ((1 : Nat) : Int)))) t) := by
  refine zip_rel (R := DenImp) (DenImp.refl _) (oK5 ++ [22]) (oV5 i ++ [SV.lit .i64 1]) (oX5 i ((1 : Nat) : Int)) (by decide) rfl (fun j c c' h1 h2 => ?_) t
  match j with
  | 0 | 1 | 2 | 3 | 4 | 5 | 6 => simp at h1 h2; subst h1; subst h2; exact DenImp.refl _
  | 7 => simp at h1 h2; subst h1; subst h2; exact norm_imp (.lit .i64 1)
  | j + 8 => simp at h1
theorem a5_loop {i : Nat} (hi : i < 8) (hl : (L i).length = z i + 1) (hz : z i < 32) {w0 : World} {O : Go.Vx.Own} (hG : GlobOk (gO p) w0 O) :
    SimC (gO p).P w0 O 230 (.loop a5C) ((oK5 ++ [22]).zip (oV5 (i : Int) ++ [SV.lit .i64 0])) (oM a b w o z L (XO L) i) (.exit 12) (oK5.zip (oV5 (i : Int))) (oT a b w o z L (XO L) i (XO L i)) 0 := by
  have h0 := a5_0 p a b w o z L (XO L) i hi
  have el : ((L i).drop 0).take (z i + 1) ++ [100 + (i : Int)] = L i ++ List.replicate 1 (100 + (i : Int)) := by
    rw [List.drop_zero, List.take_of_length_le (by omega)]; rfl
  rw [el] at h0
  refine SimC.next (Nat.le_refl _) (SimC.run (gO_ok p) (by decide) h0 ?_ (upto_nd1 (by omega)) (fun j hj => absurd hj (by omega)) (by decide) (by simp [lg_len]; omega) hG) (SimC.pre ?_ (oX5_imp (i : Int)))
  · simp only [allC_cons, allC_nil, and_true, List.length_append, List.length_replicate, hl]
    exact ⟨by omega, by simp, by omega, by omega⟩
  refine SimC.iter (g := gO p) (S := fun k => (oK5 ++ [22]).zip (oX5 (i : Int) (k : Int))) (B := fun k => oT a b w o z L (XO L) i (L i ++ List.replicate k (100 + (i : Int)))) (N := 70) (e := .exit 12) (fun k hk => ?_) ?_ (by simp) 1 (by omega)
  · have h := a5_go p a b w o z L (XO L) (L i ++ List.replicate k (100 + (i : Int))) k i hi
    have e1 : L i ++ List.replicate k (100 + (i : Int)) ++ [100 + (i : Int)] = L i ++ List.replicate (k + 1) (100 + (i : Int)) := by rw [List.replicate_succ', List.append_assoc]
    rw [e1] at h
    refine SimC.run (gO_ok p) (by decide) h ?_ (upto_nd1 (by omega)) (fun j hj => absurd hj (by omega)) (by decide) (by simp [lg_len]; omega) hG
    simp only [allC_cons, allC_nil, and_true, List.length_append, List.length_replicate, hl]
    exact ⟨decide_eq_true (by omega), by omega, fS (n := k + 1) (by omega)⟩
  · refine SimC.run (gO_ok p) (by decide) (a5_end p a b w o z L (XO L) (XO L i) 70 i hi) ?_ (upto_nd _).1 (fun j hj => absurd hj (by omega)) (by decide) (by simp [lg_len]; omega) hG
    simp only [allC_cons, allC_nil, and_true]
    exact decide_eq_false (by omega)
theorem od_appends (hl : ∀ i, i < 8 → (L i).length = z i + 1) (hz : ∀ i, i < 8 → z i < 32) (c : Act) (v : World)
    (x : StG (gO p) W0 OW 230 ([7, 9, 11, 15, 16, 20].zip [.ptr 0 0, .ptr 1 0, .ptr 2 0, .own 3, .own 4, .ptr 13 0]) (oS a b w o z L (XO L) 0) c v) (Q : Exit → Act → World → Prop)
    (hQ : ∀ c' v', StG (gO p) W0 OW 230 ([7, 9, 11, 15, 16, 20].zip [.ptr 0 0, .ptr 1 0, .ptr 2 0, .own 3, .own 4, .ptr 13 0]) (oS a b w o z L (XO L) 8) c' v' → Q .normal c' v') : q17.wp (gO p).P Q c v := by
  refine x.cut (k := 1) (gO_ok p) (by decide) (q17_in p a b w o z L (XO L)) (fun p hp => by cases hp) (upto_nd _).1 (by decide) (by simp [lg]) fun c1 v1 x1 => ?_
  rw [q17_d]
  refine wp_block ?_
  refine StG.iter (W := W0) (OW := OW) (nT := 230) (S := fun j => oK5.zip (oV5 (j : Int))) (B := fun j => oS a b w o z L (XO L) j) (N := 8) (fun i hi c v x Q' hQ' => ?_) (fun c v x => ?_) 0 (by omega) c1 v1 x1
  · refine x.cut (k := 1) (gO_ok p) (by decide) (o5_in p a b w o z L (XO L) i hi) (fun p hp => by cases hp) (upto_nd _).1 (by decide) (by simp [lg_len]; omega) fun c2 v2 x2 => ?_
    rw [o5_drop]
    refine wp_seq (wp_block ?_)
    refine x2.cut (k := 2) (gO_ok p) (by decide) (b5_in p a b w o z L (XO L) i hi) (fun p hp => by cases hp) (upto_nd _).1 (by decide) (by simp [lg_len]; omega) fun c3 v3 x3 => ?_
    rw [b5_drop]
    refine wpL_wp (StG.of (fun w0 O hG => SimC.block (a5_loop (L := L) hi (hl i hi) (hz i hi) hG) (.inl ⟨rfl, rfl⟩)) x3 fun c4 v4 x4 => ?_)
    show r5C.wp (gO p).P Q' c4 v4
    exact x4.run (gO_ok p) (by decide) (r5_next p a b w o z L (XO L) (XO L i) i hi) (fun p hp => by cases hp) (upto_nd _).1 (by decide) (by simp [lg_len]; omega) fun c5 v5 x5 => hQ' c5 v5 x5
  · exact x.run (gO_ok p) (by decide) (o5_end p a b w o z L (XO L)) (fun p hp => by cases hp) (upto_nd _).1 (by decide) (by simp [lg_len]) fun c5 v5 x5 => hQ c5 v5 x5
/-! the looks -/
theorem oX6_imp (i : Int) (t : Nat) : DenImp (tget (mkT ((oK6 ++ [24]).zip (oV6 i ++ [SV.lit .i64 0]))) t) (tget (mkT ((oK6 ++ [24]).zip (oX6 i ((0 : Nat) : Int)))) t) := by
  refine zip_rel (R := DenImp) (DenImp.refl _) (oK6 ++ [24]) (oV6 i ++ [SV.lit .i64 0]) (oX6 i ((0 : Nat) : Int)) (by decide) rfl (fun j c c' h1 h2 => ?_) t
  match j with
  | 0 | 1 | 2 | 3 | 4 | 5 | 6 => simp at h1 h2; subst h1; subst h2; exact DenImp.refl _
  | 7 => simp at h1 h2; subst h1; subst h2; exact norm_imp (.lit .i64 0)
  | j + 8 => simp at h1
theorem rep_get {n k : Nat} {v : Int} (h : k < n) : (List.replicate n v).getD k 0 = v := by
  rw [List.getD_eq_getElem?_getD, List.getElem?_replicate, if_pos h]; rfl
theorem c6_loop {i : Nat} (hi : i < 8) (hL : L i = MO z i) (hz : z i < 32) {w0 : World} {O : Go.Vx.Own} (hG : GlobOk (gO p) w0 O) :
    SimC (gO p).P w0 O 230 (.loop c6C) ((oK6 ++ [24]).zip (oV6 (i : Int) ++ [SV.lit .i64 0])) (oS a b w o z L (XO L) 8) (.exit 16) (oK6.zip (oV6 (i : Int))) (oS a b w o z L (XO L) 8) 0 := by
  refine SimC.pre ?_ (oX6_imp (i : Int))
  have F1 : Fits .i64 ((z i + 1 : Nat) : Int) := fS (by omega)
  have hl : (L i).length = z i + 1 := by rw [hL, List.length_replicate]
  have hX : (XO L i).length = z i + 71 := by rw [List.length_append, hl, List.length_replicate]
  have F2 : Fits .i64 ((z i + 71 : Nat) : Int) := fS (by omega)
  refine SimC.iter (g := gO p) (S := fun k => (oK6 ++ [24]).zip (oX6 (i : Int) (k : Int))) (B := fun _ => oS a b w o z L (XO L) 8) (N := z i + 71) (e := .exit 16) (fun k hk => ?_) ?_ (by simp) 0 (Nat.zero_le _)
  · have F3 : Fits .i64 ((k : Int) + 1) := fS (n := k + 1) (by omega)
    by_cases h1 : k < z i + 1
    · have h := c6_lo p a b w o z L (XO L) k i hi
      have g1 : (L i).getD (0 + k) 0 = 10 + (i : Int) := by rw [Nat.zero_add, hL, rep_get h1]
      have g2 : (XO L i).getD k 0 = 10 + (i : Int) := by rw [XO, getD_app (by omega), hL, rep_get h1]
      rw [g1, g2, hX] at h
      refine SimC.run (gO_ok p) (by decide) h ?_ (upto_nd _).1 (fun j hj => absurd hj (by omega)) (by decide) (by simp [lg_len]) hG
      simp only [allC_cons, allC_nil, and_true]
      exact ⟨F2, decide_eq_true (by omega), F1, decide_eq_false (by omega), by omega, ⟨by omega, by omega⟩, decide_eq_true (by omega), F1, by simp, by omega, ⟨by omega, by omega⟩, by simp, F3⟩
    · have h := c6_hi p a b w o z L (XO L) k i hi
      have g2 : (XO L i).getD k 0 = 100 + (i : Int) := by rw [XO, getD_app2 (by omega), rep_get (by omega)]
      rw [g2, hX] at h
      refine SimC.run (gO_ok p) (by decide) h ?_ (upto_nd _).1 (fun j hj => absurd hj (by omega)) (by decide) (by simp [lg_len]) hG
      simp only [allC_cons, allC_nil, and_true]
      exact ⟨F2, decide_eq_true (by omega), F1, decide_eq_true (by omega), decide_eq_false (by omega), F1, by simp, by omega, ⟨by omega, by omega⟩, F3⟩
  · have h := c6_end p a b w o z L (XO L) (z i + 71) i hi
    rw [hX] at h
    refine SimC.run (gO_ok p) (by decide) h ?_ (upto_nd _).1 (fun j hj => absurd hj (by omega)) (by decide) (by simp [lg_len]) hG
    simp only [allC_cons, allC_nil, and_true]
    exact ⟨F2, decide_eq_false (by omega)⟩
theorem od_looks (hL : ∀ i, i < 8 → L i = MO z i) (hz : ∀ i, i < 8 → z i < 32) (c : Act) (v : World)
    (x : StG (gO p) W0 OW 230 ([7, 9, 11, 15, 16, 20].zip [.ptr 0 0, .ptr 1 0, .ptr 2 0, .own 3, .own 4, .ptr 13 0]) (oS a b w o z L (XO L) 8) c v) (Q : Exit → Act → World → Prop)
    (hQ : ∀ c' v', StG (gO p) W0 OW 230 ([7, 9, 15, 16].zip [.ptr 0 0, .ptr 1 0, .own 3, .own 4]) (oS a b w o z L (XO L) 8) c' v' → Q .normal c' v') : q18.wp (gO p).P Q c v := by
  refine x.cut (k := 1) (gO_ok p) (by decide) (q18_in p a b w o z L (XO L)) (fun p hp => by cases hp) (upto_nd _).1 (by decide) (by simp [lg_len]) fun c1 v1 x1 => ?_
  rw [q18_d]
  refine wp_block ?_
  refine StG.iter (W := W0) (OW := OW) (nT := 230) (S := fun j => oK6.zip (oV6 (j : Int))) (B := fun _ => oS a b w o z L (XO L) 8) (N := 8) (fun i hi c v x Q' hQ' => ?_) (fun c v x => ?_) 0 (by omega) c1 v1 x1
  · refine x.cut (k := 1) (gO_ok p) (by decide) (o6_in p a b w o z L (XO L) i hi) (fun p hp => by cases hp) (upto_nd _).1 (by decide) (by simp [lg_len]) fun c2 v2 x2 => ?_
    rw [o6_drop]
    refine wp_seq (wp_block ?_)
    refine x2.cut (k := 1) (gO_ok p) (by decide) (b6_in p a b w o z L (XO L) i hi) (fun p hp => by cases hp) (upto_nd _).1 (by decide) (by simp [lg_len]) fun c3 v3 x3 => ?_
    rw [b6_drop]
    refine wpL_wp (StG.of (fun w0 O hG => SimC.block (c6_loop (L := L) hi (hL i hi) (hz i hi) hG) (.inl ⟨rfl, rfl⟩)) x3 fun c4 v4 x4 => ?_)
    show r6C.wp (gO p).P Q' c4 v4
    exact x4.run (gO_ok p) (by decide) (r6_next p a b w o z L (XO L) i hi) (fun p hp => by cases hp) (upto_nd _).1 (by decide) (by simp [lg_len]) fun c5 v5 x5 => hQ' c5 v5 x5
  · exact x.run (gO_ok p) (by decide) (o6_end p a b w o z L (XO L)) (fun p hp => by cases hp) (upto_nd _).1 (by decide) (by simp [lg_len]) fun c5 v5 x5 => hQ c5 v5 x5
end
end Go.Proofs.Tryd

namespace Go.Proofs.Tryd
open Go Go.Vx
/-! ### DigestOwn: the account -/
theorem n75_idem (a : Nat → Int) : n75 (n75 a) = n75 a := by
  show atL (listF 75 (n75 a) 0) = atL (listF 75 a 0)
  exact congrArg atL (listF_eq0.2 fun j hj => n75_at hj)
/-- what is asked of -/
structure Sm (A : Nat → Int) : Prop where
  idem : n75 A = A
  held : 0 ≤ A 74 ∧ A 74 ≤ 64
  size : 1 ≤ A 0 ∧ A 0 ≤ 32
theorem Sm.len {A : Nat → Int} (h : Sm A) : (dgL A).length = zI A + 1 := by
  have := h.size
  rw [dgL_len (by omega)]; simp only [zI]; omega
theorem Sm.lt {A : Nat → Int} (h : Sm A) : zI A < 32 := by
  have := h.size
  simp only [zI]; omega
def zO (A B : Nat → Int) (j : Nat) : Nat := selI 4 j (zI A) (zI B)
noncomputable def LO (A B : Nat → Int) (j : Nat) : List Int := selI 4 j (dgL A) (dgL B)
theorem zO_lt {A B : Nat → Int} (hA : Sm A) (hB : Sm B) (j : Nat) : zO A B j < 32 := by
  unfold zO
  by_cases h : j < 4
  · rw [selI_lt h]; exact hA.lt
  · rw [selI_ge h]; exact hB.lt
theorem LO_len {A B : Nat → Int} (hA : Sm A) (hB : Sm B) (j : Nat) : (LO A B j).length = zO A B j + 1 := by
  unfold LO zO
  by_cases h : j < 4
  · rw [selI_lt h, selI_lt h]; exact hA.len
  · rw [selI_ge h, selI_ge h]; exact hB.len
section
variable {p : Addr} {A B : Nat → Int} {W0 : World} {OW : Go.Vx.Own}
theorem od_asks {n s : Int} (hA : Sm A) (hB : Sm B) (hs : s = n) (h32 : (dgL B).length = 32) (c : Act) (v : World)
    (x : StG (gO p) W0 OW 230 ([0, 7, 9, 11, 14, 15, 16].zip [.int .i64 n, .ptr 0 0, .ptr 1 0, .ptr 2 0, .int .i64 s, .own 3, .own 4]) (oB A B (dgL A) (dgL B) (zO A B) (LO A B)) c v) (Q : Exit → Act → World → Prop)
    (hQ : ∀ c' v', StG (gO p) W0 OW 230 ([7, 9, 11, 15, 16].zip [.ptr 0 0, .ptr 1 0, .ptr 2 0, .own 3, .own 4]) (oB A B (dgL A) (dgL B) (zO A B) (LO A B)) c' v' → Q .normal c' v') : q14.wp (gO p).P Q c v := by
  refine x.cut (k := 1) (gO_ok p) (by decide) (q14_in p A B _ _ _ _ n s) (fun p hp => by cases hp) i13_nd (by decide) (by simp) fun c1 v1 x1 => ?_
  rw [q14_d]
  refine wp_block ?_
  refine StG.iter (W := W0) (OW := OW) (nT := 230) (S := fun j => oK3.zip (oV3 n s (j : Int))) (B := fun _ => oB A B (dgL A) (dgL B) (zO A B) (LO A B)) (N := 4) (fun i hi c v x Q' hQ' => ?_) (fun c v x => ?_) 0 (by omega) c1 v1 x1
  · refine x.run (gO_ok p) (by decide) (o3_go p n s A B _ _ _ _ i hi) ?_ i13_nd (by decide) (by simp) fun c5 v5 x5 => hQ' c5 v5 x5
    have la := hA.len; have lb := hB.len
    have ta := hA.lt; have tb := hB.lt
    have e1 : LO A B i = dgL A := selI_lt hi _ _
    have e2 : LO A B (4 + i) = dgL B := selI_ge (by omega) _ _
    have e3 : zO A B i = zI A := selI_lt hi _ _
    have e4 : zO A B (4 + i) = zI B := selI_ge (by omega) _ _
    simp only [allC_cons, allC_nil, and_true, e1, e2, e3, e4, la, lb]
    have hq : zI B + 1 = 32 := by omega
    exact ⟨fS (by omega), rfl, by omega, by omega, by omega, trivial, rfl, by omega, by omega, by omega, trivial, by simp [hs], by rw [hq]; rfl⟩
  · exact x.run (gO_ok p) (by decide) (o3_end p n s A B _ _ _ _) (fun p hp => by cases hp) i13_nd (by decide) (by simp) fun c5 v5 x5 => hQ c5 v5 x5
end
theorem od_B (a b : Nat → Int) (ha : Sm (n75 a)) (hb : Sm (n75 b)) (p : Addr) (n : Int) : runC (gO p) 900 230 [] (takeSeq 6 (dropSeq 8 odC)) ([0, 7, 9].zip [.int .i64 n, .ptr 0 0, .ptr 1 0]) [dgV nilR a, dgV nilR b] [0, 7, 9, 11, 14, 15, 16] [0, 1, 2, 12, 14, 3, 4, 5, 6, 7, 8, 9, 10] =
    some (.normal, [.int .i64 n, .ptr 0 0, .ptr 1 0, .ptr 2 0, .int .i64 ((zI (n75 a) + 1 : Nat) : Int), .own 3, .own 4], (oB (n75 a) (n75 b) (dgL (n75 a)) (dgL (n75 b)) (zO (n75 a) (n75 b)) (LO (n75 a) (n75 b))).map some,
      sI (n75 a) ++ (sI (n75 a) ++ (sI (n75 a) ++ (sI (n75 a) ++ (sI (n75 b) ++ (sI (n75 b) ++ (sI (n75 b) ++ (sI (n75 b) ++ [Fits .i64 ((zI (n75 a) + 1 : Nat) : Int), (dgL (n75 a)).length * 1 ≤ 2 ^ 47, 0 + 0 + (zI (n75 a) + 1) ≤ (dgL (n75 a)).length, (dgL (n75 b)).length * 1 ≤ 2 ^ 47, 0 + 0 + (zI (n75 b) + 1) ≤ (dgL (n75 b)).length])))))))) := by
  have h := od_p2 p n a b
  have i1 : ∀ a, nI 1 a = n75 a := fun _ => rfl
  have i2 : ∀ a, nI 2 a = n75 a := fun a => n75_idem a
  have i3 : ∀ a, nI 3 a = n75 a := fun a => by show n75 (nI 2 a) = _; rw [i2, n75_idem]
  have i4 : ∀ a, nI 4 a = n75 a := fun a => by show n75 (nI 3 a) = _; rw [i3, n75_idem]
  have ea : ([] : List Int) ++ ((dgL (n75 a)).drop (0 + 0)).take (zI (n75 a) + 1) = dgL (n75 a) := by
    rw [List.nil_append, List.drop_zero, List.take_of_length_le (by rw [ha.len]; exact Nat.le_refl _)]
  have eb : ([] : List Int) ++ ((dgL (n75 b)).drop (0 + 0)).take (zI (n75 b) + 1) = dgL (n75 b) := by
    rw [List.nil_append, List.drop_zero, List.take_of_length_le (by rw [hb.len]; exact Nat.le_refl _)]
  rw [i1, i2, i3, i4, i1, i2, i3, i4, ea, eb] at h
  exact h
theorem nw_Sm {n : Int} {k d : List Int} (h1 : 1 ≤ n) (h2 : n ≤ 32) (hk : k.length ≤ 32) (hd : d.length ≤ 131072) : Sm (n75 (odH n k d)) ∧ (n75 (odH n k d)) 0 = n := by
  have h := HT_75 (HS_write (d := d) (HT_75 (HT_new h1 h2 hk)) hk (by show 0 + d.length ≤ _; omega))
  have o := HT_ok h h1 h2
  have e : n75 (odH n k d) 0 = n := h.size
  exact ⟨⟨n75_idem _, o.1, by omega⟩, e⟩
theorem g_Sm : Sm (n75 odG) ∧ (n75 odG) 0 = 32 := by
  have e0 : n75 odG 0 = 32 := by
    rw [n75_at (by decide)]
    show ovA (n75 (nwA 32 [])) [111, 116, 104, 101, 114] 0 = 32
    rw [ovA_lt _ _ (by decide)]; exact new32.size
  have e1 : n75 (nwA 32 []) 74 = 0 := new32.held
  have e2 : n75 odG 74 = 5 := by
    rw [n75_at (by decide)]
    show ovA (n75 (nwA 32 [])) [111, 116, 104, 101, 114] 74 = 5
    rw [ovA_held]
    simp only [kN, e1]; rfl
  exact ⟨⟨n75_idem _, by omega, by omega⟩, e0⟩
theorem od_main (p : Addr) (n : Int) (k d : List Int) (h1 : 1 ≤ n) (h2 : n ≤ 32) (hk : k.length ≤ 32) (hd : d.length ≤ 131072) : FnOk (gO p) 6 [.int .i64 n, .roi .u8 k, .roi .u8 d] [] { val := .sbool true } := by
  refine FnOk.ofG (fn := Tryd.f6) (c := odC) (t := 6) (S := [(0, .int .i64 n), (1, .roi .u8 k), (2, .roi .u8 d)]) (gO_ok p) rfl rfl (by decide) (show 3 ≤ Tryd.f6.ntmps by decide) (by kernel_rfl) (by kernel_rfl) sbool_all fun W0 OW hG act w x => ?_
  have o0 := HT_ok (HT_75 (HT_new h1 h2 hk)) h1 h2
  refine x.cut (k := 8) (gO_ok p) (by decide) (od_p1 p n k d) ?_ (by decide) (by decide) (by simp) fun c1 v1 x1 => ?_
  · simp only [allC_cons, allC_nil, and_true]
    exact ⟨fS (by omega), decide_eq_false (by omega), fits_of (by omega) (by omega), decide_eq_false (by omega), h1, h2, hk, by decide, by decide, Nat.zero_le _, o0.1, by omega, new32.held⟩
  obtain ⟨hA, eA⟩ := nw_Sm h1 h2 hk hd
  obtain ⟨hB, eB⟩ := g_Sm
  refine x1.cut (k := 6) (gO_ok p) (by decide) (od_B _ _ hA hB p n) ?_ (by decide) (by decide) (by simp) fun c2 v2 x2 => ?_
  · have la := hA.len; have lb := hB.len
    have ta := hA.lt; have tb := hB.lt
    simp only [sI, List.cons_append, List.nil_append, allC_cons, allC_nil, and_true]
    refine ⟨hA.held, hA.size, hA.held, hA.size, hA.held, hA.size, hA.held, hA.size, hB.held, hB.size, hB.held, hB.size, hB.held, hB.size, hB.held, hB.size, fS (by omega), by omega, by omega, by omega, by omega⟩
  generalize n75 (odH n k d) = A at *
  generalize n75 odG = B at *
  rw [od_d14]
  refine wp_seq (od_asks hA hB (by simp only [zI]; omega) (by rw [hB.len]; simp only [zI, eB]; rfl) c2 v2 x2 _ fun c3 v3 x3 => ?_)
  refine wp_seq (od_writes (fun i _ => LO_len hA hB i) (fun i _ => zO_lt hA hB i) c3 v3 x3 _ fun c4 v4 x4 => ?_)
  have hL : ∀ i, i < 8 → nL (MO (zO A B)) (LO A B) 8 i = MO (zO A B) i := fun i hi => nL_lt hi
  generalize nL (MO (zO A B)) (LO A B) 8 = L at *
  have hl : ∀ i, i < 8 → (L i).length = zO A B i + 1 := fun i hi => by rw [hL i hi, List.length_replicate]
  refine x4.cut (k := 1) (gO_ok p) (by decide) (q16_in p A B (dgL A) (dgL B) (zO A B) L (XO L)) (fun p hp => by cases hp) (upto_nd _).1 (by decide) (by simp) fun c5 v5 x5 => ?_
  rw [od_d17]
  refine wp_seq (od_appends hl (fun i _ => zO_lt hA hB i) c5 v5 x5 _ fun c6 v6 x6 => ?_)
  refine wp_seq (od_looks hL (fun i _ => zO_lt hA hB i) c6 v6 x6 _ fun c7 v7 x7 => ?_)
  refine x7.run (gO_ok p) (by decide) (B' := [dgV nilR (n75 A)]) (od_fin p A B (dgL A) (dgL B) (zO A B) L (XO L)) ?_ (by decide) (by decide) (by simp [lg_len]) fun c8 v8 x8 => ⟨rfl, _, _, x8, by kernel_rfl⟩
  have la := hA.len; have lb := hB.len
  have ta := hA.lt; have tb := hB.lt
  simp only [allC_cons, allC_nil, and_true, hA.idem, hB.idem, la, lb]
  exact ⟨trivial, by omega, by omega, by omega, trivial, hB.held, hB.size, trivial, by omega, by omega, by omega, trivial, hA.held, hA.size⟩
theorem own_ok (p : Addr) (n : Int) (k : List Int) (fk : ∀ i ∈ k, Fits .u8 i) (zk : k.length * Tryd.prog.bytesOf 5 ≤ 140737488351232) (d : List Int) (fd : ∀ i ∈ d, Fits .u8 i) (zd : d.length * Tryd.prog.bytesOf 5 ≤ 140737488351232) : FnOk (gO p) 6 [.int .i64 n, .roi .u8 k, .roi .u8 d] [] { val := .bool true } := by
  rw [show Tryd.prog.bytesOf 5 = 1 by kernel_rfl] at zk zd
  have Fk : Fits .i64 (k.length : Int) := fits_of (by omega) (by omega)
  have Fd : Fits .i64 (d.length : Int) := fits_of (by omega) (by omega)
  have hE : CtxU (gE p) := gT_ok p _
  by_cases c1 : 131072 < d.length
  · exact FnOk.of (g := gE p) rfl rfl (FnOk.pure hE (od_long1 p n k d) (by simp only [allC_cons, allC_nil, and_true]; exact ⟨decide_eq_true (by omega), Fd⟩))
  by_cases c2 : 131072 < k.length
  · exact FnOk.of (g := gE p) rfl rfl (FnOk.pure hE (od_long2 p n k d) (by simp only [allC_cons, allC_nil, and_true]; exact ⟨Fk, decide_eq_false (by omega), Fd, decide_eq_true (by omega)⟩))
  by_cases c3 : 1 ≤ n ∧ n ≤ 32 ∧ k.length ≤ 32
  · exact FnOk.ofSb (b := true) (od_main p n k d c3.1 c3.2.1 c3.2.2 (by omega)) rfl
  · refine FnOk.of (g := gE p) rfl rfl (FnOk.ofSb (b := true) (FnOk.pure hE (od_err p n k d) ?_) rfl)
    simp only [allC_cons, allC_nil, and_true]
    exact ⟨Fk, decide_eq_false (by omega), Fd, decide_eq_false (by omega), by omega, Fk, by decide, by decide, Nat.zero_le _⟩
end Go.Proofs.Tryd
