/- Accounts of this seat's functions: lemmas, no statement of their own. No conditions. -/
import Derived.Test.YthciddlfnajchaaDoorTSa
namespace Go.Proofs.Tryd
open Go Go.Vx
theorem tw_000 (p : Addr) (u v : Int) (k : List Int) (q : Nat → Bool) (d : Nat → List Int) (m i : Nat) (a b : Nat → Int) (x y : List Int) : runC (gA p) 600 206 [.br true, .br false, .br true, .br false, .br false] twBody (twS u v k q d m i) (twB a b x y) twKeep [0, 1, 4, 3] =
    some (.normal, twO u v k q d m ((i : Int) + 1), (twB (wrA (n75 a) (d i)) b (x ++ d i) y).map some, [Fits .i64 (m : Int), decide ((i : Int) < (m : Int)) = true, (0 : Int) ≤ (i : Int) ∧ (i : Int) < (m : Int), Fits .i64 (131072 - (x.length : Int) - (y.length : Int)), Fits .i64 (y.length : Int), Fits .i64 (131072 - (x.length : Int)), Fits .i64 (x.length : Int), Fits .i64 ((d i).length : Int), decide (131072 - (x.length : Int) - (y.length : Int) < ((d i).length : Int)) = false, decide ((i : Int).tmod 2 = 0) = true, 0 ≤ n75 a 74 ∧ n75 a 74 ≤ 64, (d i).length ≤ 140737488355328, (x ++ d i).length * 1 ≤ 2 ^ 47, decide ((i : Int) = 1) = false, 1 ≤ u, u ≤ 32, k.length ≤ 32, Bytes k, Bytes (x ++ d i), ((x ++ d i)).length ≤ 70368744177664, 1 ≤ v, v ≤ 32, ([] : List Int).length ≤ 32, Bytes [], Bytes y, (y).length ≤ 70368744177664, q i = false, (0 : Int) ≤ (i : Int) ∧ (i : Int) < (m : Int), Fits .i64 ((i : Int) + 1)]) := r3_parts4 (by kernel_rfl) (by kernel_rfl) (by kernel_rfl) (by kernel_rfl)
theorem tw_001 (p : Addr) (u v : Int) (k : List Int) (q : Nat → Bool) (d : Nat → List Int) (m i : Nat) (a b : Nat → Int) (x y : List Int) : runC (gA p) 600 206 [.br true, .br false, .br true, .br false, .br true, .br false, .br false, .br false] twBody (twS u v k q d m i) (twB a b x y) twKeep [0, 1, 4, 3] =
    some (.normal, twO u v k q d m ((i : Int) + 1), (twB (wrA (n75 a) (d i)) b (x ++ d i) y).map some, [Fits .i64 (m : Int), decide ((i : Int) < (m : Int)) = true, (0 : Int) ≤ (i : Int) ∧ (i : Int) < (m : Int), Fits .i64 (131072 - (x.length : Int) - (y.length : Int)), Fits .i64 (y.length : Int), Fits .i64 (131072 - (x.length : Int)), Fits .i64 (x.length : Int), Fits .i64 ((d i).length : Int), decide (131072 - (x.length : Int) - (y.length : Int) < ((d i).length : Int)) = false, decide ((i : Int).tmod 2 = 0) = true, 0 ≤ n75 a 74 ∧ n75 a 74 ≤ 64, (d i).length ≤ 140737488355328, (x ++ d i).length * 1 ≤ 2 ^ 47, decide ((i : Int) = 1) = false, 1 ≤ u, u ≤ 32, k.length ≤ 32, Bytes k, Bytes (x ++ d i), ((x ++ d i)).length ≤ 70368744177664, 1 ≤ v, v ≤ 32, ([] : List Int).length ≤ 32, Bytes [], Bytes y, (y).length ≤ 70368744177664, 0 + (n75 b 0).toNat ≤ (dgL (n75 b)).length, 0 + (dSum v [] (allL [] y)).length ≤ (dSum v [] (allL [] y)).length, (n75 b 0).toNat ≤ 140737488355328, subI (dgL (n75 b)) 0 (n75 b 0).toNat = subI (dSum v [] (allL [] y)) 0 (dSum v [] (allL [] y)).length, 0 ≤ n75 b 74 ∧ n75 b 74 ≤ 64, 0 ≤ n75 b 0 ∧ n75 b 0 ≤ 32, (!true) = false, 0 + (n75 (wrA (n75 a) (d i)) 0).toNat ≤ (dgL (n75 (wrA (n75 a) (d i)))).length, 0 + (dSum u k (allL k (x ++ d i))).length ≤ (dSum u k (allL k (x ++ d i))).length, (n75 (wrA (n75 a) (d i)) 0).toNat ≤ 140737488355328, subI (dgL (n75 (wrA (n75 a) (d i)))) 0 (n75 (wrA (n75 a) (d i)) 0).toNat = subI (dSum u k (allL k (x ++ d i))) 0 (dSum u k (allL k (x ++ d i))).length, 0 ≤ n75 (wrA (n75 a) (d i)) 74 ∧ n75 (wrA (n75 a) (d i)) 74 ≤ 64, 0 ≤ n75 (wrA (n75 a) (d i)) 0 ∧ n75 (wrA (n75 a) (d i)) 0 ≤ 32, q i = true, (0 : Int) ≤ (i : Int) ∧ (i : Int) < (m : Int), (!true) = false, Fits .i64 ((i : Int) + 1)]) := r3_parts4 (by kernel_rfl) (by kernel_rfl) (by kernel_rfl) (by kernel_rfl)
theorem tw_100 (p : Addr) (u v : Int) (k : List Int) (q : Nat → Bool) (d : Nat → List Int) (m i : Nat) (a b : Nat → Int) (x y : List Int) : runC (gA p) 600 206 [.br true, .br false, .br false, .br false, .br false] twBody (twS u v k q d m i) (twB a b x y) twKeep [0, 1, 2, 4] =
    some (.normal, twO u v k q d m ((i : Int) + 1), (twB a (wrA (n75 b) (d i)) x (y ++ d i)).map some, [Fits .i64 (m : Int), decide ((i : Int) < (m : Int)) = true, (0 : Int) ≤ (i : Int) ∧ (i : Int) < (m : Int), Fits .i64 (131072 - (x.length : Int) - (y.length : Int)), Fits .i64 (y.length : Int), Fits .i64 (131072 - (x.length : Int)), Fits .i64 (x.length : Int), Fits .i64 ((d i).length : Int), decide (131072 - (x.length : Int) - (y.length : Int) < ((d i).length : Int)) = false, decide ((i : Int).tmod 2 = 0) = false, 0 ≤ n75 b 74 ∧ n75 b 74 ≤ 64, (d i).length ≤ 140737488355328, (y ++ d i).length * 1 ≤ 2 ^ 47, decide ((i : Int) = 1) = false, 1 ≤ u, u ≤ 32, k.length ≤ 32, Bytes k, Bytes x, (x).length ≤ 70368744177664, 1 ≤ v, v ≤ 32, ([] : List Int).length ≤ 32, Bytes [], Bytes (y ++ d i), ((y ++ d i)).length ≤ 70368744177664, q i = false, (0 : Int) ≤ (i : Int) ∧ (i : Int) < (m : Int), Fits .i64 ((i : Int) + 1)]) := r3_parts4 (by kernel_rfl) (by kernel_rfl) (by kernel_rfl) (by kernel_rfl)
theorem tw_101 (p : Addr) (u v : Int) (k : List Int) (q : Nat → Bool) (d : Nat → List Int) (m i : Nat) (a b : Nat → Int) (x y : List Int) : runC (gA p) 600 206 [.br true, .br false, .br false, .br false, .br true, .br false, .br false, .br false] twBody (twS u v k q d m i) (twB a b x y) twKeep [0, 1, 2, 4] =
    some (.normal, twO u v k q d m ((i : Int) + 1), (twB a (wrA (n75 b) (d i)) x (y ++ d i)).map some, [Fits .i64 (m : Int), decide ((i : Int) < (m : Int)) = true, (0 : Int) ≤ (i : Int) ∧ (i : Int) < (m : Int), Fits .i64 (131072 - (x.length : Int) - (y.length : Int)), Fits .i64 (y.length : Int), Fits .i64 (131072 - (x.length : Int)), Fits .i64 (x.length : Int), Fits .i64 ((d i).length : Int), decide (131072 - (x.length : Int) - (y.length : Int) < ((d i).length : Int)) = false, decide ((i : Int).tmod 2 = 0) = false, 0 ≤ n75 b 74 ∧ n75 b 74 ≤ 64, (d i).length ≤ 140737488355328, (y ++ d i).length * 1 ≤ 2 ^ 47, decide ((i : Int) = 1) = false, 1 ≤ u, u ≤ 32, k.length ≤ 32, Bytes k, Bytes x, (x).length ≤ 70368744177664, 1 ≤ v, v ≤ 32, ([] : List Int).length ≤ 32, Bytes [], Bytes (y ++ d i), ((y ++ d i)).length ≤ 70368744177664, 0 + (n75 (wrA (n75 b) (d i)) 0).toNat ≤ (dgL (n75 (wrA (n75 b) (d i)))).length, 0 + (dSum v [] (allL [] (y ++ d i))).length ≤ (dSum v [] (allL [] (y ++ d i))).length, (n75 (wrA (n75 b) (d i)) 0).toNat ≤ 140737488355328, subI (dgL (n75 (wrA (n75 b) (d i)))) 0 (n75 (wrA (n75 b) (d i)) 0).toNat = subI (dSum v [] (allL [] (y ++ d i))) 0 (dSum v [] (allL [] (y ++ d i))).length, 0 ≤ n75 (wrA (n75 b) (d i)) 74 ∧ n75 (wrA (n75 b) (d i)) 74 ≤ 64, 0 ≤ n75 (wrA (n75 b) (d i)) 0 ∧ n75 (wrA (n75 b) (d i)) 0 ≤ 32, (!true) = false, 0 + (n75 a 0).toNat ≤ (dgL (n75 a)).length, 0 + (dSum u k (allL k x)).length ≤ (dSum u k (allL k x)).length, (n75 a 0).toNat ≤ 140737488355328, subI (dgL (n75 a)) 0 (n75 a 0).toNat = subI (dSum u k (allL k x)) 0 (dSum u k (allL k x)).length, 0 ≤ n75 a 74 ∧ n75 a 74 ≤ 64, 0 ≤ n75 a 0 ∧ n75 a 0 ≤ 32, q i = true, (0 : Int) ≤ (i : Int) ∧ (i : Int) < (m : Int), (!true) = false, Fits .i64 ((i : Int) + 1)]) := r3_parts4 (by kernel_rfl) (by kernel_rfl) (by kernel_rfl) (by kernel_rfl)
theorem tw_110 (p : Addr) (u v : Int) (k : List Int) (q : Nat → Bool) (d : Nat → List Int) (m i : Nat) (a b : Nat → Int) (x y : List Int) : runC (gA p) 600 206 [.br true, .br false, .br false, .br true, .br false] twBody (twS u v k q d m i) (twB a b x y) twKeep [0, 1, 2, 4] =
    some (.normal, twO u v k q d m ((i : Int) + 1), (twB a (wrA (n75 b) (d i)) x (y ++ d i)).map some, [Fits .i64 (m : Int), decide ((i : Int) < (m : Int)) = true, (0 : Int) ≤ (i : Int) ∧ (i : Int) < (m : Int), Fits .i64 (131072 - (x.length : Int) - (y.length : Int)), Fits .i64 (y.length : Int), Fits .i64 (131072 - (x.length : Int)), Fits .i64 (x.length : Int), Fits .i64 ((d i).length : Int), decide (131072 - (x.length : Int) - (y.length : Int) < ((d i).length : Int)) = false, decide ((i : Int).tmod 2 = 0) = false, 0 ≤ n75 b 74 ∧ n75 b 74 ≤ 64, (d i).length ≤ 140737488355328, (y ++ d i).length * 1 ≤ 2 ^ 47, decide ((i : Int) = 1) = true, 1 ≤ v, v ≤ 32, k.length ≤ 32, 0 ≤ (n75 (nwA v k)) 74 ∧ (n75 (nwA v k)) 74 ≤ 64, 0 ≤ (n75 (stepA (n75 (nwA v k)) [7])) 74 ∧ (n75 (stepA (n75 (nwA v k)) [7])) 74 ≤ 64, 0 ≤ (n75 (stepA (n75 (nwA v k)) [7])) 0 ∧ (n75 (stepA (n75 (nwA v k)) [7])) 0 ≤ 32, 1 ≤ u, u ≤ 32, k.length ≤ 32, Bytes k, Bytes x, (x).length ≤ 70368744177664, 1 ≤ v, v ≤ 32, ([] : List Int).length ≤ 32, Bytes [], Bytes (y ++ d i), ((y ++ d i)).length ≤ 70368744177664, q i = false, (0 : Int) ≤ (i : Int) ∧ (i : Int) < (m : Int), Fits .i64 ((i : Int) + 1)]) := r3_parts4 (by kernel_rfl) (by kernel_rfl) (by kernel_rfl) (by kernel_rfl)
theorem tw_111 (p : Addr) (u v : Int) (k : List Int) (q : Nat → Bool) (d : Nat → List Int) (m i : Nat) (a b : Nat → Int) (x y : List Int) : runC (gA p) 600 206 [.br true, .br false, .br false, .br true, .br true, .br false, .br false, .br false] twBody (twS u v k q d m i) (twB a b x y) twKeep [0, 1, 2, 4] =
    some (.normal, twO u v k q d m ((i : Int) + 1), (twB a (wrA (n75 b) (d i)) x (y ++ d i)).map some, [Fits .i64 (m : Int), decide ((i : Int) < (m : Int)) = true, (0 : Int) ≤ (i : Int) ∧ (i : Int) < (m : Int), Fits .i64 (131072 - (x.length : Int) - (y.length : Int)), Fits .i64 (y.length : Int), Fits .i64 (131072 - (x.length : Int)), Fits .i64 (x.length : Int), Fits .i64 ((d i).length : Int), decide (131072 - (x.length : Int) - (y.length : Int) < ((d i).length : Int)) = false, decide ((i : Int).tmod 2 = 0) = false, 0 ≤ n75 b 74 ∧ n75 b 74 ≤ 64, (d i).length ≤ 140737488355328, (y ++ d i).length * 1 ≤ 2 ^ 47, decide ((i : Int) = 1) = true, 1 ≤ v, v ≤ 32, k.length ≤ 32, 0 ≤ (n75 (nwA v k)) 74 ∧ (n75 (nwA v k)) 74 ≤ 64, 0 ≤ (n75 (stepA (n75 (nwA v k)) [7])) 74 ∧ (n75 (stepA (n75 (nwA v k)) [7])) 74 ≤ 64, 0 ≤ (n75 (stepA (n75 (nwA v k)) [7])) 0 ∧ (n75 (stepA (n75 (nwA v k)) [7])) 0 ≤ 32, 1 ≤ u, u ≤ 32, k.length ≤ 32, Bytes k, Bytes x, (x).length ≤ 70368744177664, 1 ≤ v, v ≤ 32, ([] : List Int).length ≤ 32, Bytes [], Bytes (y ++ d i), ((y ++ d i)).length ≤ 70368744177664, 0 + (n75 (wrA (n75 b) (d i)) 0).toNat ≤ (dgL (n75 (wrA (n75 b) (d i)))).length, 0 + (dSum v [] (allL [] (y ++ d i))).length ≤ (dSum v [] (allL [] (y ++ d i))).length, (n75 (wrA (n75 b) (d i)) 0).toNat ≤ 140737488355328, subI (dgL (n75 (wrA (n75 b) (d i)))) 0 (n75 (wrA (n75 b) (d i)) 0).toNat = subI (dSum v [] (allL [] (y ++ d i))) 0 (dSum v [] (allL [] (y ++ d i))).length, 0 ≤ n75 (wrA (n75 b) (d i)) 74 ∧ n75 (wrA (n75 b) (d i)) 74 ≤ 64, 0 ≤ n75 (wrA (n75 b) (d i)) 0 ∧ n75 (wrA (n75 b) (d i)) 0 ≤ 32, (!true) = false, 0 + (n75 a 0).toNat ≤ (dgL (n75 a)).length, 0 + (dSum u k (allL k x)).length ≤ (dSum u k (allL k x)).length, (n75 a 0).toNat ≤ 140737488355328, subI (dgL (n75 a)) 0 (n75 a 0).toNat = subI (dSum u k (allL k x)) 0 (dSum u k (allL k x)).length, 0 ≤ n75 a 74 ∧ n75 a 74 ≤ 64, 0 ≤ n75 a 0 ∧ n75 a 0 ≤ 32, q i = true, (0 : Int) ≤ (i : Int) ∧ (i : Int) < (m : Int), (!true) = false, Fits .i64 ((i : Int) + 1)]) := r3_parts4 (by kernel_rfl) (by kernel_rfl) (by kernel_rfl) (by kernel_rfl)
theorem tw_long (p : Addr) (u v : Int) (k : List Int) (q : Nat → Bool) (d : Nat → List Int) (m i : Nat) (a b : Nat → Int) (x y : List Int) : runC (gA p) 600 206 [.br true, .br true] twBody (twS u v k q d m i) (twB a b x y) [8] [0, 1, 2, 3] =
    some (.ret, [.bool true], (twB a b x y).map some, [Fits .i64 (m : Int), decide ((i : Int) < (m : Int)) = true, (0 : Int) ≤ (i : Int) ∧ (i : Int) < (m : Int), Fits .i64 (131072 - (x.length : Int) - (y.length : Int)), Fits .i64 (y.length : Int), Fits .i64 (131072 - (x.length : Int)), Fits .i64 (x.length : Int), Fits .i64 ((d i).length : Int), decide (131072 - (x.length : Int) - (y.length : Int) < ((d i).length : Int)) = true]) := r3_parts4 (by kernel_rfl) (by kernel_rfl) (by kernel_rfl) (by kernel_rfl)
theorem tw_end (p : Addr) (u v : Int) (k : List Int) (q : Nat → Bool) (d : Nat → List Int) (m i : Nat) (a b : Nat → Int) (x y : List Int) : runC (gA p) 600 206 [.br false] twBody (twS u v k q d m i) (twB a b x y) twKeep [0, 1, 2, 3] =
    some (.exit 0, twO u v k q d m (i : Int), (twB a b x y).map some, [Fits .i64 (m : Int), decide ((i : Int) < (m : Int)) = false]) := r3_parts4 (by kernel_rfl) (by kernel_rfl) (by kernel_rfl) (by kernel_rfl)
end Go.Proofs.Tryd

namespace Go.Proofs.Tryd
open Go Go.Vx
/-! ### what a Hash holds -/
/-- behind the message T, from the state h0 on -/
structure HT (h0 : Nat → Int) (n : Int) (T : List Int) (a : Nat → Int) : Prop where
  size : a 0 = n
  st : ∀ j, j < 8 → a (1 + j) = slH h0 T (Nx T) j
  cnt : a 9 = ((64 * Nx T : Nat) : Int)
  held : a 74 = ((T.length - 64 * Nx T : Nat) : Int)
  blk : ∀ j, j < T.length - 64 * Nx T → a (10 + j) = T.getD (64 * Nx T + j) 0
theorem Nx_le (T : List Int) : 64 * Nx T ≤ T.length ∧ T.length - 64 * Nx T ≤ 64 ∧ (0 < T.length → 0 < T.length - 64 * Nx T) := by
  simp only [Nx]; omega
theorem getD_app {T l : List Int} {i : Nat} (h : i < T.length) : (T ++ l).getD i 0 = T.getD i 0 := by
  rw [List.getD_eq_getElem?_getD, List.getElem?_append_left h, ← List.getD_eq_getElem?_getD]
theorem getD_app2 {T l : List Int} {i : Nat} (h : T.length ≤ i) : (T ++ l).getD i 0 = l.getD (i - T.length) 0 := by
  rw [List.getD_eq_getElem?_getD, List.getElem?_append_right h, ← List.getD_eq_getElem?_getD]
theorem blkF_app {T l : List Int} {j n : Nat} (h : j + n ≤ T.length) (t : Nat) : blkF (T ++ l) j n t = blkF T j n t := by
  unfold blkF
  by_cases c : t < n
  · rw [if_pos c, if_pos c, getD_app (by omega)]
  · rw [if_neg c, if_neg c]
theorem n8_at {h : Nat → Int} {i : Nat} (hi : i < 8) : n8 h i = h i := atLF hi
theorem slH_app {h0 : Nat → Int} {T l : List Int} : ∀ i, 64 * i ≤ T.length → ∀ j, j < 8 → slH h0 (T ++ l) i j = slH h0 T i j
  | 0, _, _, _ => rfl
  | i + 1, h, j, hj => by
    have ih := slH_app (h0 := h0) (T := T) (l := l) i (by omega)
    show prS (n8 (slH h0 (T ++ l) i)) (blkF (T ++ l) (64 * i) 64) ((64 * (i + 1) : Nat) : Int) 0 j = prS (n8 (slH h0 T i)) (blkF T (64 * i) 64) ((64 * (i + 1) : Nat) : Int) 0 j
    exact prS_congr (fun t ht => by rw [n8_at ht, n8_at ht]; exact ih t ht) (fun t _ => blkF_app (by omega) t) _ _ j hj
theorem uadd64 {x : Nat} {y : Nat} (h : x + y < 18446744073709551616) : uadd .u64 (x : Int) (y : Int) = ((x + y : Nat) : Int) := by
  unfold uadd
  rw [show modulus .u64 = 18446744073709551616 from rfl, Int.toNat_natCast, Int.toNat_natCast, Nat.mod_eq_of_lt h]; rfl
theorem ovA_lt (a : Nat → Int) (l : List Int) {j : Nat} (h : j < 10) : ovA a l j = a j := by
  unfold ovA
  rw [show Nat.ble 10 j = false by rw [← Bool.not_eq_true]; intro c; have := Nat.le_of_ble_eq_true c; omega]
  simp only [Bool.false_and, cond_false]
  rw [show Nat.beq j 74 = false by rw [← Bool.not_eq_true]; intro c; have := Nat.eq_of_beq_eq_true c; omega]
  rfl
theorem ovA_blk (a : Nat → Int) (l : List Int) {j : Nat} (h : j < 64) : ovA a l (10 + j) = if (a 74).toNat ≤ j ∧ j < (a 74).toNat + (l.take (64 - (a 74).toNat)).length then (l.take (64 - (a 74).toNat)).getD (j - (a 74).toNat) 0 else a (10 + j) := by
  unfold ovA
  rw [show Nat.ble 10 (10 + j) = true from Nat.ble_eq_true_of_le (by omega), show Nat.blt (10 + j) 74 = true from Nat.ble_eq_true_of_le (by omega)]
  simp only [Bool.and_true, cond_true]
  rw [show 10 + j - 10 = j by omega]
/-- a piece that fits, behind less than a block -/
theorem HT_ov {h0 : Nat → Int} {n : Int} {T l : List Int} {a : Nat → Int} (hN : ∃ N, a 0 = n ∧ (∀ j, j < 8 → a (1 + j) = slH h0 T N j) ∧ a 9 = ((64 * N : Nat) : Int) ∧ a 74 = ((T.length - 64 * N : Nat) : Int) ∧ (∀ j, j < T.length - 64 * N → a (10 + j) = T.getD (64 * N + j) 0) ∧ 64 * N ≤ T.length ∧ T.length < 64 * N + 64) (hl : l ≠ []) :
    HT h0 n (T ++ l.take (kN a l).toNat) (ovA a l) ∧ l1 a l = l.drop (kN a l).toNat := by
  obtain ⟨N, h1, h2, h3, h4, h5, h6, h7⟩ := hN
  have hl0 : 0 < l.length := List.length_pos_iff.2 hl
  obtain ⟨e, he⟩ : ∃ e, T.length - 64 * N = e := ⟨_, rfl⟩
  have ha : (a 74).toNat = e := by rw [h4, he]; omega
  have hk : (kN a l).toNat = min l.length (64 - e) := by simp only [kN, ha]; omega
  have hlt : (l.take (64 - e)).length = min l.length (64 - e) := by rw [List.length_take]; omega
  have hT : (T ++ l.take (kN a l).toNat).length = T.length + min l.length (64 - e) := by rw [List.length_append, List.length_take, hk]; omega
  have hNx : Nx (T ++ l.take (kN a l).toNat) = N := by
    simp only [Nx]; rw [hT]; omega
  refine ⟨⟨by rw [ovA_lt a l (by omega), h1], fun j hj => ?_, ?_, ?_, fun j hj => ?_⟩, ?_⟩
  · rw [ovA_lt a l (by omega), hNx, h2 j hj, slH_app N h6 j hj]
  · rw [ovA_lt a l (by omega), hNx, h3]
  · rw [ovA_held, hNx, hT, h4, he]
    simp only [kN, ha]; omega
  · rw [hNx, hT] at hj
    rw [hNx, ovA_blk a l (by omega), ha, hlt]
    by_cases c : j < e
    · rw [if_neg (by omega), h5 j (by omega), getD_app (by omega)]
    · rw [if_pos ⟨by omega, by omega⟩, getD_app2 (by omega), hk, show 64 * N + j - T.length = j - e by omega]
      congr 1
      rcases Nat.le_total l.length (64 - e) with q | q
      · rw [Nat.min_eq_left q, List.take_of_length_le q, List.take_of_length_le (Nat.le_refl _)]
      · rw [Nat.min_eq_right q]
  · show (l.drop (kN a l).toNat).take (l.length - (kN a l).toNat) = _
    rw [List.take_of_length_le (by rw [List.length_drop]; omega)]
theorem n75c {a : Nat → Int} {j : Nat} (hj : j < 75) (h9 : j ≠ 9) : n75 (cntA a) j = a j := by
  rw [n75_at hj]
  unfold cntA
  rw [show Nat.beq j 9 = false by rw [← Bool.not_eq_true]; intro c; exact h9 (Nat.eq_of_beq_eq_true c)]; rfl
theorem flA_hi {a : Nat → Int} {j : Nat} (h0 : 9 ≤ j) (h1 : j < 74) : flA a j = n75 (cntA a) j := by
  unfold flA heldA setS
  rw [show Nat.beq j 74 = false by rw [← Bool.not_eq_true]; intro c; have := Nat.eq_of_beq_eq_true c; omega, show Nat.blt j 9 = false by rw [← Bool.not_eq_true]; intro c; have := Nat.le_of_ble_eq_true c; omega]
  simp only [Bool.and_false, cond_false]
theorem flA_st {a : Nat → Int} {j : Nat} (hj : j < 8) : flA a (1 + j) = prS (stA (n75 (cntA a))) (bkA (n75 (cntA a))) (uadd .u64 (a 9) 64) 0 j := by
  unfold flA heldA setS
  rw [show Nat.beq (1 + j) 74 = false by rw [← Bool.not_eq_true]; intro c; have := Nat.eq_of_beq_eq_true c; omega, show Nat.ble 1 (1 + j) = true from Nat.ble_eq_true_of_le (by omega), show Nat.blt (1 + j) 9 = true from Nat.ble_eq_true_of_le (by omega)]
  simp only [Bool.and_true, cond_true, cond_false]
  rw [show 1 + j - 1 = j by omega]
theorem HT_step {h0 : Nat → Int} {n : Int} {T l : List Int} {a : Nat → Int} (h : HT h0 n T a) (hl : l ≠ []) (hb : T.length < 1000000000000000) : ∃ k, 0 < k ∧ k ≤ l.length ∧ HT h0 n (T ++ l.take k) (stepA a l) ∧ stepL a l = l.drop k := by
  have hl0 : 0 < l.length := List.length_pos_iff.2 hl
  obtain ⟨q1, q2, q3⟩ := Nx_le T
  unfold stepA stepL
  by_cases c : a 74 = 64
  · rw [if_pos c]
    have hlen : T.length = 64 * Nx T + 64 := by have := h.held; omega
    have r := HT_ov (h0 := h0) (n := n) (T := T) (l := l) (a := flA a) ⟨Nx T + 1, by rw [flA_size, h.size], fun j hj => ?_, ?_, ?_, fun j hj => absurd hj (by omega), by omega, by omega⟩ hl
    · refine ⟨(kN (flA a) l).toNat, ?_, ?_, r.1, r.2⟩ <;> simp only [kN, flA_held] <;> omega
    · rw [flA_st hj]
      show _ = prS (n8 (slH h0 T (Nx T))) (blkF T (64 * Nx T) 64) ((64 * (Nx T + 1) : Nat) : Int) 0 j
      have e9 : uadd .u64 (a 9) 64 = ((64 * (Nx T + 1) : Nat) : Int) := by
        rw [h.cnt, show (64 : Int) = ((64 : Nat) : Int) from rfl, uadd64 (by omega)]; congr 1
      rw [e9]
      refine prS_congr (fun t ht => ?_) (fun t ht => ?_) _ _ j hj
      · rw [n8_at ht]
        show n75 (cntA a) (1 + t) = _
        rw [n75c (by omega) (by omega), h.st t ht]
      · show n75 (cntA a) (10 + t) = _
        rw [n75c (by omega) (by omega), h.blk t (by omega)]
        unfold blkF; rw [if_pos ht]
    · rw [flA_hi (by omega) (by omega), n75_at (by omega)]
      show uadd .u64 (a 9) 64 = _
      rw [h.cnt, show (64 : Int) = ((64 : Nat) : Int) from rfl, uadd64 (by omega)]; congr 1
    · rw [flA_held]; omega
  · rw [if_neg c]
    have hh := h.held
    have r := HT_ov (h0 := h0) (n := n) (T := T) (l := l) (a := a) ⟨Nx T, h.size, h.st, h.cnt, h.held, h.blk, q1, by omega⟩ hl
    have ha : (a 74).toNat = T.length - 64 * Nx T := by rw [hh]; omega
    refine ⟨(kN a l).toNat, ?_, ?_, r.1, r.2⟩ <;> simp only [kN, ha] <;> omega
theorem HT_wrF {h0 : Nat → Int} {n : Int} : ∀ (f : Nat) (T l : List Int) (a : Nat → Int), HT h0 n T a → l.length ≤ f → T.length + l.length < 1000000000000000 → HT h0 n (T ++ l) (wrF f a l)
  | 0, T, l, a, h, hf, _ => by
    obtain rfl : l = [] := List.length_eq_zero_iff.1 (by omega)
    rw [List.append_nil]; exact h
  | f + 1, T, l, a, h, hf, hb => by
    simp only [wrF]
    by_cases c : l = []
    · rw [if_pos c, c, List.append_nil]; exact h
    · rw [if_neg c]
      obtain ⟨k, k1, k2, h2, e⟩ := HT_step h c (by omega)
      rw [e]
      have r := HT_wrF f (T ++ l.take k) (l.drop k) (stepA a l) h2 (by rw [List.length_drop]; omega) (by rw [List.length_append, List.length_take, List.length_drop]; omega)
      rw [List.append_assoc, List.take_append_drop] at r
      exact r
theorem HT_write {h0 : Nat → Int} {n : Int} {T l : List Int} {a : Nat → Int} (h : HT h0 n T a) (hb : T.length + l.length < 1000000000000000) : HT h0 n (T ++ l) (wrA a l) := HT_wrF _ _ _ _ h (Nat.le_refl _) hb
theorem HT_75 {h0 : Nat → Int} {n : Int} {T : List Int} {a : Nat → Int} (h : HT h0 n T a) : HT h0 n T (n75 a) := by
  have q := Nx_le T
  exact ⟨by rw [n75_at (by omega)]; exact h.size, fun j hj => by rw [n75_at (by omega)]; exact h.st j hj, by rw [n75_at (by omega)]; exact h.cnt, by rw [n75_at (by omega)]; exact h.held, fun j hj => by rw [n75_at (by omega)]; exact h.blk j hj⟩
theorem HT_ok {h0 : Nat → Int} {n : Int} {T : List Int} {a : Nat → Int} (h : HT h0 n T a) (h1 : 1 ≤ n) (h2 : n ≤ 32) : OkA a := by
  have q := Nx_le T
  exact ⟨by rw [h.held]; omega, by rw [h.size]; omega⟩
/-! ### the digest -/
theorem listF_take (f : Nat → Int) : ∀ (m n i : Nat), m ≤ n → (listF n f i).take m = listF m f i
  | 0, n, i, _ => by simp [listF]
  | m + 1, 0, i, h => absurd h (by omega)
  | m + 1, n + 1, i, h => by
    show (f i :: listF n f (i + 1)).take (m + 1) = f i :: listF m f (i + 1)
    rw [List.take_succ_cons, listF_take f m n (i + 1) (by omega)]
noncomputable abbrev digT (h0 : Nat → Int) (n : Int) (T : List Int) : List Int := listF n.toNat (dgB (n8 (prS (n8 (slH h0 T (Nx T))) (blkF T (64 * Nx T) (T.length - 64 * Nx T)) (T.length : Int) 4294967295))) 0
theorem HT_dg {h0 : Nat → Int} {n : Int} {T : List Int} {a : Nat → Int} (h : HT h0 n T a) (h1 : 0 ≤ n) (h2 : n ≤ 32) (hb : T.length < 1000000000000000) : dgL a = digT h0 n T := by
  obtain ⟨q1, q2, q3⟩ := Nx_le T
  unfold dgL
  rw [h.size, listF_take _ _ _ _ (by omega)]
  refine listF_eq0.2 fun j hj => ?_
  unfold dgB
  rw [n8_at (by omega)]
  congr 2
  have ha : (a 74).toNat = T.length - 64 * Nx T := by rw [h.held]; omega
  have ec : uadd .u64 (a 9) (scut .u64 (a 74)) = (T.length : Int) := by
    have es : scut .u64 (a 74) = ((T.length - 64 * Nx T : Nat) : Int) := by
      unfold scut
      rw [h.held, show modulus .u64 = 18446744073709551616 from rfl]
      omega
    rw [es, h.cnt, uadd64 (by omega)]; congr 1; omega
  unfold smS
  rw [ec]
  refine prS_congr (fun t ht => by rw [n8_at ht]; exact h.st t ht) (fun t ht => ?_) _ _ _ (by omega)
  have e1 : atL (listF 64 (clB a) 0) t = clB a t := atLF ht
  rw [e1]
  unfold clB blkF
  rw [ha, List.length_replicate]
  by_cases c : t < T.length - 64 * Nx T
  · rw [if_neg (by omega), if_pos c, h.blk t c]
  · rw [if_pos ⟨by omega, by omega⟩, if_neg c, List.getD_eq_getElem?_getD, List.getElem?_replicate]
    split <;> rfl
/-! ### a new Hash -/
theorem HT_new {n : Int} {k : List Int} (h1 : 1 ≤ n) (h2 : n ≤ 32) (h3 : k.length ≤ 32) : HT (atL (dH0 n k)) n (allL k []) (nwA n k) := by
  have hT : (allL k []).length = if 0 < k.length then 64 else 0 := by
    unfold allL
    by_cases c : 0 < k.length
    · rw [if_pos c, if_pos c, List.append_nil, padL, pad_len]; omega
    · rw [if_neg c, if_neg c]; rfl
  have hN : Nx (allL k []) = 0 := by
    simp only [Nx]; rw [hT]; split <;> rfl
  have e0 : hd0 n k = uxor 1779033703 (16842752 + 256 * (k.length : Int) + n) := by
    unfold hd0
    congr 1
    obtain ⟨n, rfl⟩ := Int.eq_ofNat_of_zero_le (show 0 ≤ n by omega)
    have s1 : ∀ x : Nat, x < 4294967296 → scut .u32 (x : Int) = (x : Int) := fun x hx => by unfold scut; rw [m32]; omega
    have s2 : umul .u32 256 (k.length : Int) = ((256 * k.length : Nat) : Int) := by
      unfold umul
      rw [m32, Int.toNat_natCast, show ((256 : Int).toNat) = 256 from rfl, Nat.mod_eq_of_lt (by omega)]; rfl
    have s3 : ∀ x y : Nat, x + y < 4294967296 → uadd .u32 (x : Int) (y : Int) = ((x + y : Nat) : Int) := fun x y h => by
      unfold uadd
      rw [m32, Int.toNat_natCast, Int.toNat_natCast, Nat.mod_eq_of_lt h]; rfl
    rw [s1 _ (by omega), s1 _ (by omega), s2, show (16842752 : Int) = ((16842752 : Nat) : Int) from rfl, s3 _ _ (by omega), s3 _ _ (by omega)]
    omega
  refine ⟨rfl, fun j hj => ?_, ?_, ?_, fun j hj => ?_⟩
  · rw [hN]
    show nwA n k (1 + j) = atL (dH0 n k) j
    match j, hj with
    | 0, _ => exact e0
    | 1, _ => rfl
    | 2, _ => rfl
    | 3, _ => rfl
    | 4, _ => rfl
    | 5, _ => rfl
    | 6, _ => rfl
    | 7, _ => rfl
  · rw [hN]; rfl
  · rw [hN, hT]
    show (if 0 < k.length then 64 else 0 : Int) = _
    split <;> rfl
  · rw [hN, Nat.mul_zero, Nat.sub_zero] at hj
    rw [hN, Nat.mul_zero, Nat.zero_add]
    have hj64 : j < 64 := by rw [hT] at hj; split at hj <;> omega
    have ck : 0 < k.length := by
      apply Nat.pos_of_ne_zero; intro c
      rw [hT, if_neg (by omega)] at hj; omega
    have e1 : nwA n k (10 + j) = blk0 k j := by
      show (n :: hd0 n k :: (ivL.drop 1 ++ 0 :: (listF 64 (blk0 k) 0 ++ [if 0 < k.length then 64 else 0]))).getD (10 + j) 0 = _
      have : (n :: hd0 n k :: (ivL.drop 1 ++ 0 :: (listF 64 (blk0 k) 0 ++ [if 0 < k.length then (64 : Int) else 0]))).getD (10 + j) 0 = (listF 64 (blk0 k) 0 ++ [if 0 < k.length then (64 : Int) else 0]).getD j 0 := by
        rw [show 10 + j = j + 10 by omega]; rfl
      rw [this, getD_app (by rw [listF_length]; exact hj64)]
      exact atLF hj64
    rw [e1]
    unfold allL blk0
    rw [if_pos ck, List.append_nil, List.take_of_length_le (by omega)]
    by_cases c : j < k.length
    · rw [if_pos ⟨by omega, by omega⟩, getD_app c]
    · rw [if_neg (by omega), getD_app2 (by omega), List.getD_eq_getElem?_getD, List.getElem?_replicate]
      split <;> rfl
theorem allL_app (k x d : List Int) : allL k (x ++ d) = allL k x ++ d := by
  unfold allL; split
  · rw [← List.append_assoc]
  · rfl
theorem allL_len (k x : List Int) (h : k.length ≤ 32) : (allL k x).length ≤ 64 + x.length := by
  unfold allL; split
  · rw [List.length_append, padL, pad_len]; omega
  · omega
/-- a Hash of size n and key k behind the message x -/
abbrev HS (n : Int) (k x : List Int) (a : Nat → Int) : Prop := HT (atL (dH0 n k)) n (allL k x) a
theorem HS_write {n : Int} {k x d : List Int} {a : Nat → Int} (h : HS n k x a) (hk : k.length ≤ 32) (hb : x.length + d.length ≤ 1000000000000) : HS n k (x ++ d) (wrA a d) := by
  have := allL_len k x hk
  have r := HT_write (l := d) h (by omega)
  rw [← allL_app] at r; exact r
theorem HS_dg {n : Int} {k x : List Int} {a : Nat → Int} (h : HS n k x a) (hk : k.length ≤ 32) (h1 : 0 ≤ n) (h2 : n ≤ 32) (hb : x.length ≤ 1000000000000) : dgL a = dSum n k (allL k x) := by
  have := allL_len k x hk
  exact HT_dg h h1 h2 (by omega)
end Go.Proofs.Tryd

namespace Go.Proofs.Tryd
open Go Go.Vx
/-! ### EventsSum, EventsWrite -/
noncomputable abbrev ge : Ctx := g1.add [(40, F40), (41, F41), (42, F42)]
theorem ge_ok : CtxU ge := g1_ok.add mixed noGo (by
  intro x hx
  simp only [List.mem_cons, List.not_mem_nil, or_false] at hx
  rcases hx with rfl | rfl | rfl
  · exact acc40
  · exact acc41
  · exact acc42)
abbrev bI (b : Bool) : Int := if b = true then 1 else 0
abbrev evK : List IntKind := [.i64, .i64]
theorem bI_t {p : Prop} [Decidable p] (h : p) : bI (decide p) = 1 := by rw [decide_eq_true h]; rfl
theorem bI_f {p : Prop} [Decidable p] (h : ¬ p) : bI (decide p) = 0 := by rw [decide_eq_false h]; rfl
theorem es_run (h : Int) : runF ge 300 [] 25 [.int .i64 h] [] [1] = some (.own 0, [some (.rows evK [[2, h], [3, 31]])], [(2 : Nat) * 16 ≤ 2 ^ 47]) :=
  run_parts (by kernel_rfl) (by kernel_rfl) (by kernel_rfl)
def F25 : SumF := fun args B => match args, B with
  | [.int .i64 h], [] => some { val := .own 0, new := [.rows evK [[2, h], [3, 31]]] }
  | _, _ => none
theorem acc25 : Acc ge 25 F25 := by
  intro args B out h hC
  unfold F25 at h
  split at h
  · rename_i n
    simp only [Option.some.injEq] at h; subst h
    exact FnOk.run (out := { val := .own 0, new := [.rows evK [[2, n], [3, 31]]] }) (new := [1]) ge_ok (es_run n) (by simp only [allC_cons, allC_nil, and_true]; decide) (by simp [upto]) rfl (by simp) (by simp) (fun j hj => by
      match j, hj with
      | 0, _ => rfl)
  · simp at h
abbrev ewKeep : List Nat := [0, 1, 6]
noncomputable abbrev ewBody : Code := bodyAt Tryd.prog 26 2
abbrev ewS (h : Int) (n : Int) : List (Nat × SV) := ewKeep.zip [.int .i64 h, .int .i64 n, .own 0]
theorem ew_00 (h n : Int) (l : List (List Int)) : runC ge 300 47 [.br true, .br false, .br false] ewBody (ewS h n) [.rows evK l] ewKeep [4] =
    some (.normal, [.int .i64 (h + (64 - h)), .int .i64 (n - (64 - h)), .own 0], [some (.rows evK ((l ++ [[1, 1], [1, bI (decide (h = 64))]]) ++ [[2, h], [2, (64 - h)]]))], [decide (0 < n) = true, (l ++ [[1, 1], [1, bI (decide (h = 64))]]).length * 16 ≤ 2 ^ 47, decide (h = 64) = false, Fits .i64 (64 - h), decide (n < 64 - h) = false, ((l ++ [[1, 1], [1, bI (decide (h = 64))]]) ++ [[2, h], [2, (64 - h)]]).length * 16 ≤ 2 ^ 47, Fits .i64 (h + (64 - h)), Fits .i64 (n - (64 - h))]) :=
  r3_parts4 (by kernel_rfl) (by kernel_rfl) (by kernel_rfl) (by kernel_rfl)
theorem ew_01 (h n : Int) (l : List (List Int)) : runC ge 300 47 [.br true, .br false, .br true] ewBody (ewS h n) [.rows evK l] ewKeep [4] =
    some (.normal, [.int .i64 (h + n), .int .i64 (n - n), .own 0], [some (.rows evK ((l ++ [[1, 1], [1, bI (decide (h = 64))]]) ++ [[2, h], [2, n]]))], [decide (0 < n) = true, (l ++ [[1, 1], [1, bI (decide (h = 64))]]).length * 16 ≤ 2 ^ 47, decide (h = 64) = false, Fits .i64 (64 - h), decide (n < 64 - h) = true, ((l ++ [[1, 1], [1, bI (decide (h = 64))]]) ++ [[2, h], [2, n]]).length * 16 ≤ 2 ^ 47, Fits .i64 (h + n), Fits .i64 (n - n)]) :=
  r3_parts4 (by kernel_rfl) (by kernel_rfl) (by kernel_rfl) (by kernel_rfl)
theorem ew_10 (h n : Int) (l : List (List Int)) : runC ge 300 47 [.br true, .br true, .br false] ewBody (ewS h n) [.rows evK l] ewKeep [6] =
    some (.normal, [.lit .i64 64, .int .i64 (n - 64), .own 0], [some (.rows evK ((l ++ [[1, 1], [1, bI (decide (h = 64))]] ++ [[3, 31]]) ++ [[2, 0], [2, 64]]))], [decide (0 < n) = true, (l ++ [[1, 1], [1, bI (decide (h = 64))]]).length * 16 ≤ 2 ^ 47, decide (h = 64) = true, (l ++ [[1, 1], [1, bI (decide (h = 64))]] ++ [[3, 31]]).length * 16 ≤ 2 ^ 47, decide (n < 64) = false, ((l ++ [[1, 1], [1, bI (decide (h = 64))]] ++ [[3, 31]]) ++ [[2, 0], [2, 64]]).length * 16 ≤ 2 ^ 47, Fits .i64 (n - 64)]) :=
  r3_parts4 (by kernel_rfl) (by kernel_rfl) (by kernel_rfl) (by kernel_rfl)
theorem ew_11 (h n : Int) (l : List (List Int)) : runC ge 300 47 [.br true, .br true, .br true] ewBody (ewS h n) [.rows evK l] ewKeep [6] =
    some (.normal, [.int .i64 (0 + n), .int .i64 (n - n), .own 0], [some (.rows evK ((l ++ [[1, 1], [1, bI (decide (h = 64))]] ++ [[3, 31]]) ++ [[2, 0], [2, n]]))], [decide (0 < n) = true, (l ++ [[1, 1], [1, bI (decide (h = 64))]]).length * 16 ≤ 2 ^ 47, decide (h = 64) = true, (l ++ [[1, 1], [1, bI (decide (h = 64))]] ++ [[3, 31]]).length * 16 ≤ 2 ^ 47, decide (n < 64) = true, ((l ++ [[1, 1], [1, bI (decide (h = 64))]] ++ [[3, 31]]) ++ [[2, 0], [2, n]]).length * 16 ≤ 2 ^ 47, Fits .i64 (0 + n), Fits .i64 (n - n)]) :=
  r3_parts4 (by kernel_rfl) (by kernel_rfl) (by kernel_rfl) (by kernel_rfl)
theorem ew_end (h n : Int) (l : List (List Int)) : runC ge 300 47 [.br false] ewBody (ewS h n) [.rows evK l] ewKeep [0] =
    some (.exit 0, [.int .i64 h, .int .i64 n, .own 0], [some (.rows evK l)], [decide (0 < n) = false]) :=
  r3_parts4 (by kernel_rfl) (by kernel_rfl) (by kernel_rfl) (by kernel_rfl)
/-! ### EventsWrite: the loop -/
abbrev b0 (h : Int) : Int := if h = 64 then 0 else h
abbrev kR (h n : Int) : Int := if n < 64 - b0 h then n else 64 - b0 h
abbrev hN (h n : Int) : Int := b0 h + kR h n
def evR (h n : Int) : List (List Int) := [[1, 1], [1, bI (decide (h = 64))]] ++ ((if h = 64 then [[3, 31]] else []) ++ [[2, b0 h], [2, kR h n]])
/-- what is logged in the loop, and what is held behind it -/
def evW : Nat → Int → Int → List (List Int)
  | 0, _, _ => []
  | f + 1, h, n => if 0 < n then evR h n ++ evW f (hN h n) (n - kR h n) else []
def ewH : Nat → Int → Int → Int
  | 0, h, _ => h
  | f + 1, h, n => if 0 < n then ewH f (hN h n) (n - kR h n) else h
theorem evR_len (h n : Int) : (evR h n).length ≤ 5 := by unfold evR; split <;> simp
theorem evW_len : ∀ (f : Nat) (h n : Int), (evW f h n).length ≤ 5 * f
  | 0, _, _ => by simp [evW]
  | f + 1, h, n => by
    simp only [evW]; split
    · have := evW_len f (hN h n) (n - kR h n)
      have := evR_len h n
      rw [List.length_append]; omega
    · simp
theorem kR_bd {h n : Int} (h0 : 0 ≤ h ∧ h ≤ 64) (hn : 0 < n) : 0 < kR h n ∧ kR h n ≤ n ∧ 0 ≤ hN h n ∧ hN h n ≤ 64 := by
  simp only [hN, kR, b0]
  split <;> split <;> omega
theorem ew_n : ∀ (f : Nat) (h : Int), evW f h 0 = [] ∧ ewH f h 0 = h
  | 0, _ => ⟨rfl, rfl⟩
  | f + 1, h => ⟨if_neg (by decide), if_neg (by decide)⟩
theorem q00 (k : Nat) : ∀ j : Nat, j < 0 → ([k] : List Nat)[j]? = some j := fun j hj => absurd hj (by omega)
theorem DenImp.unlit {k : IntKind} {n : Int} : DenImp (.lit k n) (.int k n) := fun w0 O ρ v d => by
  obtain ⟨d, h⟩ := denV_cell d (by simp) rfl
  exact den_cell rfl h (by simpa [DenC] using d)
theorem ew_step {w0 : World} {O : Go.Vx.Own} (hgl : GlobOk ge w0 O) (h n : Int) (h0 : 0 ≤ h ∧ h ≤ 64) (hn : 0 < n) (hn2 : n ≤ 131072) (l : List (List Int)) (hl : l.length ≤ 1000000) : SimC ge.P w0 O 47 ewBody (ewS h n) [.rows evK l] .normal (ewS (hN h n) (n - kR h n)) [.rows evK (l ++ evR h n)] 0 := by
  have z1 : decide (0 < n) = true := decide_eq_true hn
  by_cases c : h = 64
  · have b : b0 h = 0 := if_pos c
    have z2 : decide (h = 64) = true := decide_eq_true c
    by_cases d : n < 64
    · have k : kR h n = n := by simp only [kR, b]; exact if_pos (by omega)
      have e : l ++ evR h n = l ++ [[1, 1], [1, bI (decide (h = 64))]] ++ [[3, 31]] ++ [[2, 0], [2, n]] := by
        simp only [evR, if_pos c, b, k, List.append_assoc]
      have hr := ew_11 h n l
      rw [← e] at hr
      rw [hN, b, k]
      refine SimC.run (B' := [.rows evK (l ++ evR h n)]) ge_ok (by decide) hr ?_ (by decide) (q00 _) (by decide) (by simp) hgl
      have := evR_len h n
      simp only [allC_cons, allC_nil, and_true, List.length_append, List.length_cons, List.length_nil]
      exact ⟨z1, by omega, z2, by omega, decide_eq_true d, by omega, fits_of (by omega) (by omega), fits_of (by omega) (by omega)⟩
    · have k : kR h n = 64 := by simp only [kR, b]; exact if_neg (by omega)
      have e : l ++ evR h n = l ++ [[1, 1], [1, bI (decide (h = 64))]] ++ [[3, 31]] ++ [[2, 0], [2, 64]] := by
        simp only [evR, if_pos c, b, k, List.append_assoc]
      have hr := ew_10 h n l
      rw [← e] at hr
      rw [hN, b, k]
      refine SimC.weakenI (S1 := ewKeep.zip [.lit .i64 64, .int .i64 (n - 64), .own 0]) (SimC.run (B' := [.rows evK (l ++ evR h n)]) ge_ok (by decide) hr ?_ (by decide) (q00 _) (by decide) (by simp) hgl) fun y hy => ?_
      · have := evR_len h n
        simp only [allC_cons, allC_nil, and_true, List.length_append, List.length_cons, List.length_nil]
        exact ⟨z1, by omega, z2, by omega, decide_eq_false d, by omega, fits_of (by omega) (by omega)⟩
      · simp only [List.zip_cons_cons, List.zip_nil_right, List.mem_cons, List.not_mem_nil, or_false] at hy
        rcases hy with rfl | rfl | rfl
        · exact ⟨(by decide : 0 < 65535), DenImp.unlit⟩
        · exact ⟨(by decide : 1 < 65535), DenImp.refl _⟩
        · exact ⟨(by decide : 6 < 65535), DenImp.refl _⟩
  · have b : b0 h = h := if_neg c
    have z2 : decide (h = 64) = false := decide_eq_false c
    by_cases d : n < 64 - h
    · have k : kR h n = n := by simp only [kR, b]; exact if_pos (by omega)
      have e : l ++ evR h n = l ++ [[1, 1], [1, bI (decide (h = 64))]] ++ [[2, h], [2, n]] := by
        simp only [evR, if_neg c, b, k, List.append_assoc, List.nil_append]
      have hr := ew_01 h n l
      rw [← e] at hr
      rw [hN, b, k]
      refine SimC.run (B' := [.rows evK (l ++ evR h n)]) ge_ok (by decide) hr ?_ (by decide) (q00 _) (by decide) (by simp) hgl
      have := evR_len h n
      simp only [allC_cons, allC_nil, and_true, List.length_append, List.length_cons, List.length_nil]
      exact ⟨z1, by omega, z2, fits_of (by omega) (by omega), decide_eq_true d, by omega, fits_of (by omega) (by omega), fits_of (by omega) (by omega)⟩
    · have k : kR h n = 64 - h := by simp only [kR, b]; exact if_neg (by omega)
      have e : l ++ evR h n = l ++ [[1, 1], [1, bI (decide (h = 64))]] ++ [[2, h], [2, 64 - h]] := by
        simp only [evR, if_neg c, b, k, List.append_assoc, List.nil_append]
      have hr := ew_00 h n l
      rw [← e] at hr
      rw [hN, b, k]
      refine SimC.run (B' := [.rows evK (l ++ evR h n)]) ge_ok (by decide) hr ?_ (by decide) (q00 _) (by decide) (by simp) hgl
      have := evR_len h n
      simp only [allC_cons, allC_nil, and_true, List.length_append, List.length_cons, List.length_nil]
      exact ⟨z1, by omega, z2, fits_of (by omega) (by omega), decide_eq_false d, by omega, fits_of (by omega) (by omega), fits_of (by omega) (by omega)⟩
theorem ew_sim {w0 : World} {O : Go.Vx.Own} (hgl : GlobOk ge w0 O) : ∀ (f : Nat) (h n : Int) (l : List (List Int)), n.toNat ≤ f → 0 ≤ n → n ≤ 131072 → 0 ≤ h ∧ h ≤ 64 → l.length + 5 * n.toNat ≤ 1000000 →
    SimC ge.P w0 O 47 (.loop ewBody) (ewS h n) [.rows evK l] (.exit 0) [(0, .int .i64 (ewH f h n)), (6, .own 0)] [.rows evK (l ++ evW f h n)] 0
  | f, h, n, l, hf, hn, hm, h0, hl => by
    by_cases c : n = 0
    · subst c
      rw [(ew_n f h).1, (ew_n f h).2, List.append_nil]
      exact SimC.done (SimC.weaken (SimC.run (B' := [.rows evK l]) ge_ok (by decide) (ew_end h 0 l) (by simp only [allC_cons, allC_nil, and_true]; decide) (by decide) (q00 _) (by decide) (by simp) hgl) (sub_mkT (by simp; exact ⟨rfl, rfl⟩))) (by simp)
    · obtain ⟨f, rfl⟩ : ∃ k, f = k + 1 := ⟨f - 1, by omega⟩
      have k := kR_bd h0 (show 0 < n by omega)
      have hr := ew_step hgl h n h0 (by omega) hm l (by omega)
      have r := ew_sim hgl f (hN h n) (n - kR h n) (l ++ evR h n) (by omega) (by omega) (by omega) ⟨k.2.2.1, k.2.2.2⟩ (by have := evR_len h n; rw [List.length_append]; omega)
      have e1 : evW (f + 1) h n = evR h n ++ evW f (hN h n) (n - kR h n) := by simp only [evW]; exact if_pos (by omega)
      have e2 : ewH (f + 1) h n = ewH f (hN h n) (n - kR h n) := by simp only [ewH]; exact if_pos (by omega)
      rw [e1, e2, ← List.append_assoc]
      exact SimC.next (Nat.le_refl _) hr r
def ewG : LoopF := fun vals B => match vals, B with
  | [.int .i64 h, .int .i64 n, .raw (.slice none 0 0)], [] => some ([(0, .int .i64 (ewH n.toNat h n)), (6, .own 0)], [.rows evK (evW n.toNat h n)], [0 ≤ h ∧ h ≤ 64, 0 ≤ n ∧ n ≤ 131072])
  | _, _ => none
theorem ew_loop : LoopGood ge 47 (.loop ewBody) ewKeep 0 (.exit 0) (mkLoopN ewG) := by
  refine LoopGood.mkN (by decide) fun vals B S' B' C hG hC hlen w0 O hgl => ?_
  clear hlen
  unfold ewG at hG
  split at hG
  · rename_i h n
    simp only [Option.some.injEq, Prod.mk.injEq] at hG
    obtain ⟨rfl, rfl, rfl⟩ := hG
    simp only [allC_cons, allC_nil, and_true] at hC
    refine SimC.adoptS (.rows evK []) 6 rfl rfl (by simp) (by simp) ?_
    exact ew_sim hgl n.toNat h n [] (Nat.le_refl _) hC.2.1 hC.2.2 hC.1 (by simp; omega)
  · simp at hG
theorem ew_run (h n : Int) : runF ge 300 [.loop 2 ewKeep 0 (.exit 0) (mkLoopN ewG)] 26 [.int .i64 h, .int .i64 n] [] [2] = some (.tuple [.own 0, .int .i64 (ewH n.toNat h n)], [some (.rows evK (evW n.toNat h n ++ [[1, 0]]))], [LoopGood ge 47 (.loop ewBody) ewKeep 0 (.exit 0) (mkLoopN ewG), 0 ≤ h ∧ h ≤ 64, 0 ≤ n ∧ n ≤ 131072, (evW n.toNat h n ++ [[1, 0]]).length * 16 ≤ 2 ^ 47]) :=
  run_parts (by kernel_rfl) (by kernel_rfl) (by kernel_rfl)
abbrev evX (h n : Int) : List (List Int) := evW n.toNat h n ++ [[1, 0]]
theorem evX_len (h n : Int) : (evX h n).length ≤ 5 * n.toNat + 1 := by
  have := evW_len n.toNat h n
  rw [List.length_append]; simp; omega
def F26 : SumF := fun args B => match args, B with
  | [.int .i64 h, .int .i64 n], [] => some { val := .tuple [.own 0, .int .i64 (ewH n.toNat h n)], new := [.rows evK (evX h n)], C := [0 ≤ h ∧ h ≤ 64, 0 ≤ n ∧ n ≤ 131072] }
  | _, _ => none
theorem acc26 : Acc ge 26 F26 := by
  intro args B out hh hC
  unfold F26 at hh
  split at hh
  · rename_i h n
    rename_i h5
    simp only [Option.some.injEq] at hh; subst hh
    simp only [allC_cons, allC_nil, and_true] at hC
    have hL := ew_loop
    have hl : (evW n.toNat h n ++ [[1, 0]]).length ≤ 5 * n.toNat + 1 := evX_len h n
    refine FnOk.val (v := .tuple [.own 0, .int .i64 (ewH n.toNat h n)]) (C := []) (rd := []) ?_ (fun _ _ _ _ h => h)
    exact FnOk.run (out := { val := .tuple [.own 0, .int .i64 (ewH n.toNat h n)], new := [.rows evK (evX h n)] }) (new := [2]) ge_ok (ew_run h n) (by simp only [allC_cons, allC_nil, and_true]; exact ⟨hL, hC.1, hC.2, by omega⟩) (by simp [upto]) rfl (by simp) (by simp) (fun j hj => by
      match j, hj with
      | 0, _ => rfl)
  · simp at hh
end Go.Proofs.Tryd
