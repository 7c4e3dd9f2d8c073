/- Accounts of this seat's functions: lemmas, no statement of their own. No conditions. -/
import Derived.Test.YtjkenobomlbdcaaTG
namespace Go.Proofs.Ytjkenobomlbdcaa
open Go Go.Vx
def lgN (w : List (List Int)) : List (List Int) → List (List Int)
  | [] => w
  | e :: l => lgN (w ++ [e]) l
theorem lgN_eq : ∀ (l w : List (List Int)), lgN w l = w ++ l
  | [], w => by simp [lgN]
  | e :: l, w => by rw [lgN, lgN_eq l]; simp
abbrev lgL (w : List (List Int)) (j : Nat) : Prop := (lgN w (one20.take j)).length < 1099511627776
abbrev lgC (w : List (List Int)) : List Prop := [lgL w 0, lgL w 1, lgL w 2, lgL w 3, lgL w 4, lgL w 5, lgL w 6, lgL w 7, lgL w 8, lgL w 9, lgL w 10, lgL w 12, lgL w 11, lgL w 15, lgL w 14, lgL w 13, lgL w 16, lgL w 19, lgL w 18, lgL w 17]
theorem lgC_ok {w : List (List Int)} (h : w.length + 20 < 1099511627776) : AllC (lgC w) := by
  have H : ∀ j, lgL w j := fun j => by
    unfold lgL
    rw [lgN_eq, List.length_append, List.length_take]
    have : one20.length = 20 := rfl
    omega
  simp only [lgC, allC_cons, allC_nil, and_true]
  exact ⟨H 0, H 1, H 2, H 3, H 4, H 5, H 6, H 7, H 8, H 9, H 10, H 12, H 11, H 15, H 14, H 13, H 16, H 19, H 18, H 17⟩
theorem sl_go (i : Nat) (t : Int) (z k x : Nat → Int) (L : Ld) (w : List (List Int)) : runC gK 900 68 [.br true] shBody (slS t i) (slB z k (S5 x L) w) shKeep [0, 1, 2, 3] =
    some (.normal, [.ptr 0 0, .ptr 1 0, .ptr 2 0, .ptr 3 0, .int .u64 (kBit k i), .int .i64 ((i : Int) + 1)], (slB z k (S5 x (ldStep x (ldSw (uadd .u64 t (kBit k i)) L))) (lgN w one20)).map some, shC i ++ lgC w ++ [Fits .i64 ((i : Int) + 1)]) :=
  run_parts4 (by kernel_rfl) (by kernel_rfl) (by kernel_rfl) (by kernel_rfl)
theorem sl_end (i : Nat) (t : Int) (z k x : Nat → Int) (L : Ld) (w : List (List Int)) : runC gK 600 68 [.br false] shBody (slS t i) (slB z k (S5 x L) w) shKeep [0, 1, 2, 3] =
    some (.exit 0, [.ptr 0 0, .ptr 1 0, .ptr 2 0, .ptr 3 0, .int .u64 t, .int .i64 (i : Int)], (slB z k (S5 x L) w).map some, [decide ((i : Int) < 255) = false]) :=
  run_parts4 (by kernel_rfl) (by kernel_rfl) (by kernel_rfl) (by kernel_rfl)
end Go.Proofs.Ytjkenobomlbdcaa
