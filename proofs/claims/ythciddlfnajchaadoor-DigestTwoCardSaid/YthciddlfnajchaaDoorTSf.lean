/- Accounts of this seat's functions: lemmas, no statement of their own. No conditions. -/
import Derived.Test.YthciddlfnajchaaDoorTSb
namespace Go.Proofs.Tryd
open Go Go.Vx
/-! ### what a Hash holds -/
/-- behind the message T, from the state h0 on -/
structure HT (h0 : Nat → Int) (n : Int) (T : List Int) (a : Nat → Int) : Prop where
  size : a 0 = n
  st : ∀ j, j < 8 → a (1 + j) = slH h0 T (Nx T) j
  cnt : a 9 = ((64 * Nx T : Nat) : Int)
  held : a 74 = ((T.length - 64 * Nx T : Nat) : Int)
  blk : ∀ j, j < T.length - 64 * Nx T → a (10 + j) = T.getD (64 * Nx T + j) 0
theorem Nx_le (T : List Int) : 64 * Nx T ≤ T.length ∧ T.length - 64 * Nx T ≤ 64 ∧ (0 < T.length → 0 < T.length - 64 * Nx T) := by
  simp only [Nx]; omega
theorem getD_app {T l : List Int} {i : Nat} (h : i < T.length) : (T ++ l).getD i 0 = T.getD i 0 := by
  rw [List.getD_eq_getElem?_getD, List.getElem?_append_left h, ← List.getD_eq_getElem?_getD]
theorem getD_app2 {T l : List Int} {i : Nat} (h : T.length ≤ i) : (T ++ l).getD i 0 = l.getD (i - T.length) 0 := by
  rw [List.getD_eq_getElem?_getD, List.getElem?_append_right h, ← List.getD_eq_getElem?_getD]
theorem blkF_app {T l : List Int} {j n : Nat} (h : j + n ≤ T.length) (t : Nat) : blkF (T ++ l) j n t = blkF T j n t := by
  unfold blkF
  by_cases c : t < n
  · rw [if_pos c, if_pos c, getD_app (by omega)]
  · rw [if_neg c, if_neg c]
theorem n8_at {h : Nat → Int} {i : Nat} (hi : i < 8) : n8 h i = h i := atLF hi
theorem slH_app {h0 : Nat → Int} {T l : List Int} : ∀ i, 64 * i ≤ T.length → ∀ j, j < 8 → slH h0 (T ++ l) i j = slH h0 T i j
  | 0, _, _, _ => rfl
  | i + 1, h, j, hj => by
    have ih := slH_app (h0 := h0) (T := T) (l := l) i (by omega)
    show prS (n8 (slH h0 (T ++ l) i)) (blkF (T ++ l) (64 * i) 64) ((64 * (i + 1) : Nat) : Int) 0 j = prS (n8 (slH h0 T i)) (blkF T (64 * i) 64) ((64 * (i + 1) : Nat) : Int) 0 j
    exact prS_congr (fun t ht => by rw [n8_at ht, n8_at ht]; exact ih t ht) (fun t _ => blkF_app (by omega) t) _ _ j hj
theorem uadd64 {x : Nat} {y : Nat} (h : x + y < 18446744073709551616) : uadd .u64 (x : Int) (y : Int) = ((x + y : Nat) : Int) := by
  unfold uadd
  rw [show modulus .u64 = 18446744073709551616 from rfl, Int.toNat_natCast, Int.toNat_natCast, Nat.mod_eq_of_lt h]; rfl
theorem ovA_lt (a : Nat → Int) (l : List Int) {j : Nat} (h : j < 10) : ovA a l j = a j := by
  unfold ovA
  rw [show Nat.ble 10 j = false by rw [← Bool.not_eq_true]; intro c; have := Nat.le_of_ble_eq_true c; omega]
  simp only [Bool.false_and, cond_false]
  rw [show Nat.beq j 74 = false by rw [← Bool.not_eq_true]; intro c; have := Nat.eq_of_beq_eq_true c; omega]
  rfl
theorem ovA_blk (a : Nat → Int) (l : List Int) {j : Nat} (h : j < 64) : ovA a l (10 + j) = if (a 74).toNat ≤ j ∧ j < (a 74).toNat + (l.take (64 - (a 74).toNat)).length then (l.take (64 - (a 74).toNat)).getD (j - (a 74).toNat) 0 else a (10 + j) := by
  unfold ovA
  rw [show Nat.ble 10 (10 + j) = true from Nat.ble_eq_true_of_le (by omega), show Nat.blt (10 + j) 74 = true from Nat.ble_eq_true_of_le (by omega)]
  simp only [Bool.and_true, cond_true]
  rw [show 10 + j - 10 = j by omega]
/-- a piece that fits, behind less than a block -/
theorem HT_ov {h0 : Nat → Int} {n : Int} {T l : List Int} {a : Nat → Int} (hN : ∃ N, a 0 = n ∧ (∀ j, j < 8 → a (1 + j) = slH h0 T N j) ∧ a 9 = ((64 * N : Nat) : Int) ∧ a 74 = ((T.length - 64 * N : Nat) : Int) ∧ (∀ j, j < T.length - 64 * N → a (10 + j) = T.getD (64 * N + j) 0) ∧ 64 * N ≤ T.length ∧ T.length < 64 * N + 64) (hl : l ≠ []) :
    HT h0 n (T ++ l.take (kN a l).toNat) (ovA a l) ∧ l1 a l = l.drop (kN a l).toNat := by
  obtain ⟨N, h1, h2, h3, h4, h5, h6, h7⟩ := hN
  have hl0 : 0 < l.length := List.length_pos_iff.2 hl
  obtain ⟨e, he⟩ : ∃ e, T.length - 64 * N = e := ⟨_, rfl⟩
  have ha : (a 74).toNat = e := by rw [h4, he]; omega
  have hk : (kN a l).toNat = min l.length (64 - e) := by simp only [kN, ha]; omega
  have hlt : (l.take (64 - e)).length = min l.length (64 - e) := by rw [List.length_take]; omega
  have hT : (T ++ l.take (kN a l).toNat).length = T.length + min l.length (64 - e) := by rw [List.length_append, List.length_take, hk]; omega
  have hNx : Nx (T ++ l.take (kN a l).toNat) = N := by
    simp only [Nx]; rw [hT]; omega
  refine ⟨⟨by rw [ovA_lt a l (by omega), h1], fun j hj => ?_, ?_, ?_, fun j hj => ?_⟩, ?_⟩
  · rw [ovA_lt a l (by omega), hNx, h2 j hj, slH_app N h6 j hj]
  · rw [ovA_lt a l (by omega), hNx, h3]
  · rw [ovA_held, hNx, hT, h4, he]
    simp only [kN, ha]; omega
  · rw [hNx, hT] at hj
    rw [hNx, ovA_blk a l (by omega), ha, hlt]
    by_cases c : j < e
    · rw [if_neg (by omega), h5 j (by omega), getD_app (by omega)]
    · rw [if_pos ⟨by omega, by omega⟩, getD_app2 (by omega), hk, show 64 * N + j - T.length = j - e by omega]
      congr 1
      rcases Nat.le_total l.length (64 - e) with q | q
      · rw [Nat.min_eq_left q, List.take_of_length_le q, List.take_of_length_le (Nat.le_refl _)]
      · rw [Nat.min_eq_right q]
  · show (l.drop (kN a l).toNat).take (l.length - (kN a l).toNat) = _
    rw [List.take_of_length_le (by rw [List.length_drop]; omega)]
theorem n75c {a : Nat → Int} {j : Nat} (hj : j < 75) (h9 : j ≠ 9) : n75 (cntA a) j = a j := by
  rw [n75_at hj]
  unfold cntA
  rw [show Nat.beq j 9 = false by rw [← Bool.not_eq_true]; intro c; exact h9 (Nat.eq_of_beq_eq_true c)]; rfl
theorem flA_hi {a : Nat → Int} {j : Nat} (h0 : 9 ≤ j) (h1 : j < 74) : flA a j = n75 (cntA a) j := by
  unfold flA heldA setS
  rw [show Nat.beq j 74 = false by rw [← Bool.not_eq_true]; intro c; have := Nat.eq_of_beq_eq_true c; omega, show Nat.blt j 9 = false by rw [← Bool.not_eq_true]; intro c; have := Nat.le_of_ble_eq_true c; omega]
  simp only [Bool.and_false, cond_false]
theorem flA_st {a : Nat → Int} {j : Nat} (hj : j < 8) : flA a (1 + j) = prS (stA (n75 (cntA a))) (bkA (n75 (cntA a))) (uadd .u64 (a 9) 64) 0 j := by
  unfold flA heldA setS
  rw [show Nat.beq (1 + j) 74 = false by rw [← Bool.not_eq_true]; intro c; have := Nat.eq_of_beq_eq_true c; omega, show Nat.ble 1 (1 + j) = true from Nat.ble_eq_true_of_le (by omega), show Nat.blt (1 + j) 9 = true from Nat.ble_eq_true_of_le (by omega)]
  simp only [Bool.and_true, cond_true, cond_false]
  rw [show 1 + j - 1 = j by omega]
theorem HT_step {h0 : Nat → Int} {n : Int} {T l : List Int} {a : Nat → Int} (h : HT h0 n T a) (hl : l ≠ []) (hb : T.length < 1000000000000000) : ∃ k, 0 < k ∧ k ≤ l.length ∧ HT h0 n (T ++ l.take k) (stepA a l) ∧ stepL a l = l.drop k := by
  have hl0 : 0 < l.length := List.length_pos_iff.2 hl
  obtain ⟨q1, q2, q3⟩ := Nx_le T
  unfold stepA stepL
  by_cases c : a 74 = 64
  · rw [if_pos c]
    have hlen : T.length = 64 * Nx T + 64 := by have := h.held; omega
    have r := HT_ov (h0 := h0) (n := n) (T := T) (l := l) (a := flA a) ⟨Nx T + 1, by rw [flA_size, h.size], fun j hj => ?_, ?_, ?_, fun j hj => absurd hj (by omega), by omega, by omega⟩ hl
    · refine ⟨(kN (flA a) l).toNat, ?_, ?_, r.1, r.2⟩ <;> simp only [kN, flA_held] <;> omega
    · rw [flA_st hj]
      show _ = prS (n8 (slH h0 T (Nx T))) (blkF T (64 * Nx T) 64) ((64 * (Nx T + 1) : Nat) : Int) 0 j
      have e9 : uadd .u64 (a 9) 64 = ((64 * (Nx T + 1) : Nat) : Int) := by
        rw [h.cnt, show (64 : Int) = ((64 : Nat) : Int) from rfl, uadd64 (by omega)]; congr 1
      rw [e9]
      refine prS_congr (fun t ht => ?_) (fun t ht => ?_) _ _ j hj
      · rw [n8_at ht]
        show n75 (cntA a) (1 + t) = _
        rw [n75c (by omega) (by omega), h.st t ht]
      · show n75 (cntA a) (10 + t) = _
        rw [n75c (by omega) (by omega), h.blk t (by omega)]
        unfold blkF; rw [if_pos ht]
    · rw [flA_hi (by omega) (by omega), n75_at (by omega)]
      show uadd .u64 (a 9) 64 = _
      rw [h.cnt, show (64 : Int) = ((64 : Nat) : Int) from rfl, uadd64 (by omega)]; congr 1
    · rw [flA_held]; omega
  · rw [if_neg c]
    have hh := h.held
    have r := HT_ov (h0 := h0) (n := n) (T := T) (l := l) (a := a) ⟨Nx T, h.size, h.st, h.cnt, h.held, h.blk, q1, by omega⟩ hl
    have ha : (a 74).toNat = T.length - 64 * Nx T := by rw [hh]; omega
    refine ⟨(kN a l).toNat, ?_, ?_, r.1, r.2⟩ <;> simp only [kN, ha] <;> omega
theorem HT_wrF {h0 : Nat → Int} {n : Int} : ∀ (f : Nat) (T l : List Int) (a : Nat → Int), HT h0 n T a → l.length ≤ f → T.length + l.length < 1000000000000000 → HT h0 n (T ++ l) (wrF f a l)
  | 0, T, l, a, h, hf, _ => by
    obtain rfl : l = [] := List.length_eq_zero_iff.1 (by omega)
    rw [List.append_nil]; exact h
  | f + 1, T, l, a, h, hf, hb => by
    simp only [wrF]
    by_cases c : l = []
    · rw [if_pos c, c, List.append_nil]; exact h
    · rw [if_neg c]
      obtain ⟨k, k1, k2, h2, e⟩ := HT_step h c (by omega)
      rw [e]
      have r := HT_wrF f (T ++ l.take k) (l.drop k) (stepA a l) h2 (by rw [List.length_drop]; omega) (by rw [List.length_append, List.length_take, List.length_drop]; omega)
      rw [List.append_assoc, List.take_append_drop] at r
      exact r
theorem HT_write {h0 : Nat → Int} {n : Int} {T l : List Int} {a : Nat → Int} (h : HT h0 n T a) (hb : T.length + l.length < 1000000000000000) : HT h0 n (T ++ l) (wrA a l) := HT_wrF _ _ _ _ h (Nat.le_refl _) hb
theorem HT_75 {h0 : Nat → Int} {n : Int} {T : List Int} {a : Nat → Int} (h : HT h0 n T a) : HT h0 n T (n75 a) := by
  have q := Nx_le T
  exact ⟨by rw [n75_at (by omega)]; exact h.size, fun j hj => by rw [n75_at (by omega)]; exact h.st j hj, by rw [n75_at (by omega)]; exact h.cnt, by rw [n75_at (by omega)]; exact h.held, fun j hj => by rw [n75_at (by omega)]; exact h.blk j hj⟩
theorem HT_ok {h0 : Nat → Int} {n : Int} {T : List Int} {a : Nat → Int} (h : HT h0 n T a) (h1 : 1 ≤ n) (h2 : n ≤ 32) : OkA a := by
  have q := Nx_le T
  exact ⟨by rw [h.held]; omega, by rw [h.size]; omega⟩
/-! ### the digest -/
theorem listF_take (f : Nat → Int) : ∀ (m n i : Nat), m ≤ n → (listF n f i).take m = listF m f i
  | 0, n, i, _ => by simp [listF]
  | m + 1, 0, i, h => absurd h (by omega)
  | m + 1, n + 1, i, h => by
    show (f i :: listF n f (i + 1)).take (m + 1) = f i :: listF m f (i + 1)
    rw [List.take_succ_cons, listF_take f m n (i + 1) (by omega)]
noncomputable abbrev digT (h0 : Nat → Int) (n : Int) (T : List Int) : List Int := listF n.toNat (dgB (n8 (prS (n8 (slH h0 T (Nx T))) (blkF T (64 * Nx T) (T.length - 64 * Nx T)) (T.length : Int) 4294967295))) 0
theorem HT_dg {h0 : Nat → Int} {n : Int} {T : List Int} {a : Nat → Int} (h : HT h0 n T a) (h1 : 0 ≤ n) (h2 : n ≤ 32) (hb : T.length < 1000000000000000) : dgL a = digT h0 n T := by
  obtain ⟨q1, q2, q3⟩ := Nx_le T
  unfold dgL
  rw [h.size, listF_take _ _ _ _ (by omega)]
  refine listF_eq0.2 fun j hj => ?_
  unfold dgB
  rw [n8_at (by omega)]
  congr 2
  have ha : (a 74).toNat = T.length - 64 * Nx T := by rw [h.held]; omega
  have ec : uadd .u64 (a 9) (scut .u64 (a 74)) = (T.length : Int) := by
    have es : scut .u64 (a 74) = ((T.length - 64 * Nx T : Nat) : Int) := by
      unfold scut
      rw [h.held, show modulus .u64 = 18446744073709551616 from rfl]
      omega
    rw [es, h.cnt, uadd64 (by omega)]; congr 1; omega
  unfold smS
  rw [ec]
  refine prS_congr (fun t ht => by rw [n8_at ht]; exact h.st t ht) (fun t ht => ?_) _ _ _ (by omega)
  have e1 : atL (listF 64 (clB a) 0) t = clB a t := atLF ht
  rw [e1]
  unfold clB blkF
  rw [ha, List.length_replicate]
  by_cases c : t < T.length - 64 * Nx T
  · rw [if_neg (by omega), if_pos c, h.blk t c]
  · rw [if_pos ⟨by omega, by omega⟩, if_neg c, List.getD_eq_getElem?_getD, List.getElem?_replicate]
    split <;> rfl
/-! ### a new Hash -/
theorem HT_new {n : Int} {k : List Int} (h1 : 1 ≤ n) (h2 : n ≤ 32) (h3 : k.length ≤ 32) : HT (atL (dH0 n k)) n (allL k []) (nwA n k) := by
  have hT : (allL k []).length = if 0 < k.length then 64 else 0 := by
    unfold allL
    by_cases c : 0 < k.length
    · rw [if_pos c, if_pos c, List.append_nil, padL, pad_len]; omega
    · rw [if_neg c, if_neg c]; rfl
  have hN : Nx (allL k []) = 0 := by
    simp only [Nx]; rw [hT]; split <;> rfl
  have e0 : hd0 n k = uxor 1779033703 (16842752 + 256 * (k.length : Int) + n) := by
    unfold hd0
    congr 1
    obtain ⟨n, rfl⟩ := Int.eq_ofNat_of_zero_le (show 0 ≤ n by omega)
    have s1 : ∀ x : Nat, x < 4294967296 → scut .u32 (x : Int) = (x : Int) := fun x hx => by unfold scut; rw [m32]; omega
    have s2 : umul .u32 256 (k.length : Int) = ((256 * k.length : Nat) : Int) := by
      unfold umul
      rw [m32, Int.toNat_natCast, show ((256 : Int).toNat) = 256 from rfl, Nat.mod_eq_of_lt (by omega)]; rfl
    have s3 : ∀ x y : Nat, x + y < 4294967296 → uadd .u32 (x : Int) (y : Int) = ((x + y : Nat) : Int) := fun x y h => by
      unfold uadd
      rw [m32, Int.toNat_natCast, Int.toNat_natCast, Nat.mod_eq_of_lt h]; rfl
    rw [s1 _ (by omega), s1 _ (by omega), s2, show (16842752 : Int) = ((16842752 : Nat) : Int) from rfl, s3 _ _ (by omega), s3 _ _ (by omega)]
    omega
  refine ⟨rfl, fun j hj => ?_, ?_, ?_, fun j hj => ?_⟩
  · rw [hN]
    show nwA n k (1 + j) = atL (dH0 n k) j
    match j, hj with
    | 0, _ => exact e0
    | 1, _ => rfl
    | 2, _ => rfl
    | 3, _ => rfl
    | 4, _ => rfl
    | 5, _ => rfl
    | 6, _ => rfl
    | 7, _ => rfl
  · rw [hN]; rfl
  · rw [hN, hT]
    show (if 0 < k.length then 64 else 0 : Int) = _
    split <;> rfl
  · rw [hN, Nat.mul_zero, Nat.sub_zero] at hj
    rw [hN, Nat.mul_zero, Nat.zero_add]
    have hj64 : j < 64 := by rw [hT] at hj; split at hj <;> omega
    have ck : 0 < k.length := by
      apply Nat.pos_of_ne_zero; intro c
      rw [hT, if_neg (by omega)] at hj; omega
    have e1 : nwA n k (10 + j) = blk0 k j := by
      show (n :: hd0 n k :: (ivL.drop 1 ++ 0 :: (listF 64 (blk0 k) 0 ++ [if 0 < k.length then 64 else 0]))).getD (10 + j) 0 = _
      have : (n :: hd0 n k :: (ivL.drop 1 ++ 0 :: (listF 64 (blk0 k) 0 ++ [if 0 < k.length then (64 : Int) else 0]))).getD (10 + j) 0 = (listF 64 (blk0 k) 0 ++ [if 0 < k.length then (64 : Int) else 0]).getD j 0 := by
        rw [show 10 + j = j + 10 by omega]; rfl
      rw [this, getD_app (by rw [listF_length]; exact hj64)]
      exact atLF hj64
    rw [e1]
    unfold allL blk0
    rw [if_pos ck, List.append_nil, List.take_of_length_le (by omega)]
    by_cases c : j < k.length
    · rw [if_pos ⟨by omega, by omega⟩, getD_app c]
    · rw [if_neg (by omega), getD_app2 (by omega), List.getD_eq_getElem?_getD, List.getElem?_replicate]
      split <;> rfl
theorem allL_app (k x d : List Int) : allL k (x ++ d) = allL k x ++ d := by
  unfold allL; split
  · rw [← List.append_assoc]
  · rfl
theorem allL_len (k x : List Int) (h : k.length ≤ 32) : (allL k x).length ≤ 64 + x.length := by
  unfold allL; split
  · rw [List.length_append, padL, pad_len]; omega
  · omega
/-- a Hash of size n and key k behind the message x -/
abbrev HS (n : Int) (k x : List Int) (a : Nat → Int) : Prop := HT (atL (dH0 n k)) n (allL k x) a
theorem HS_write {n : Int} {k x d : List Int} {a : Nat → Int} (h : HS n k x a) (hk : k.length ≤ 32) (hb : x.length + d.length ≤ 1000000000000) : HS n k (x ++ d) (wrA a d) := by
  have := allL_len k x hk
  have r := HT_write (l := d) h (by omega)
  rw [← allL_app] at r; exact r
theorem HS_dg {n : Int} {k x : List Int} {a : Nat → Int} (h : HS n k x a) (hk : k.length ≤ 32) (h1 : 0 ≤ n) (h2 : n ≤ 32) (hb : x.length ≤ 1000000000000) : dgL a = dSum n k (allL k x) := by
  have := allL_len k x hk
  exact HT_dg h h1 h2 (by omega)
end Go.Proofs.Tryd

namespace Go.Proofs.Tryd
open Go Go.Vx
/-! ### DigestTwo: the loop -/
def xQ (q : Nat) (d : Nat → List Int) : Nat → List Int
  | 0 => []
  | i + 1 => if i % 2 = q then xQ q d i ++ d i else xQ q d i
noncomputable def aQ (q : Nat) (a : Nat → Int) (d : Nat → List Int) : Nat → (Nat → Int)
  | 0 => a
  | i + 1 => if i % 2 = q then wrA (n75 (aQ q a d i)) (d i) else aQ q a d i
def sp2 (d : Nat → List Int) (m : Nat) : Nat := firstI (fun i => decide (131072 < (xQ 0 d i).length + (xQ 1 d i).length + (d i).length)) m
theorem sp2_le (d : Nat → List Int) (m : Nat) : sp2 d m ≤ m := (firstI_spec _ m).1
theorem sp2_lt {d : Nat → List Int} {m i : Nat} (h : i < sp2 d m) : (xQ 0 d i).length + (xQ 1 d i).length + (d i).length ≤ 131072 := by
  have := (firstI_spec _ m).2.1 i h
  have := of_decide_eq_false this
  omega
theorem sp2_at {d : Nat → List Int} {m : Nat} (h : sp2 d m < m) : 131072 < (xQ 0 d (sp2 d m)).length + (xQ 1 d (sp2 d m)).length + (d (sp2 d m)).length := of_decide_eq_true ((firstI_spec _ m).2.2 h)
theorem xQ_len {d : Nat → List Int} {m : Nat} : ∀ i, i ≤ sp2 d m → (xQ 0 d i).length + (xQ 1 d i).length ≤ 131072
  | 0, _ => by simp [xQ]
  | i + 1, h => by
    have := sp2_lt (show i < sp2 d m by omega)
    by_cases c : i % 2 = 0
    · simp only [xQ, if_pos c, if_neg (show ¬ i % 2 = 1 by omega), List.length_append]; omega
    · simp only [xQ, if_neg c, if_pos (show i % 2 = 1 by omega), List.length_append]; omega
theorem HS_Q {n : Int} {k : List Int} {d : Nat → List Int} {m : Nat} {a : Nat → Int} (q : Nat) (h0 : HS n k [] a) (hk : k.length ≤ 32) (hq : q < 2) : ∀ i, i ≤ sp2 d m → HS n k (xQ q d i) (aQ q a d i)
  | 0, _ => h0
  | i + 1, h => by
    have ih := HS_Q (d := d) (m := m) q h0 hk hq i (by omega)
    have hs := sp2_lt (d := d) (m := m) (i := i) (by omega)
    simp only [xQ, aQ]
    split
    · refine HS_write (HT_75 ih) hk ?_
      rcases (show q = 0 ∨ q = 1 by omega) with rfl | rfl <;> omega
    · exact ih
theorem xQ_bytes {d : Nat → List Int} {m : Nat} (hd : YB d m) (q : Nat) : ∀ i, i ≤ m → Bytes (xQ q d i)
  | 0, _ => bytes_rep 0
  | i + 1, h => by
    simp only [xQ]; split
    · exact bytes_app (xQ_bytes hd q i (by omega)) (hd i (by omega))
    · exact xQ_bytes hd q i (by omega)
theorem st2_ok {m i : Nat} {x y e : List Int} {b : Bool} (Fm : Fits .i64 (m : Int)) (hi : i < m) (hx : x.length + y.length ≤ 131072) (he : Fits .i64 (e.length : Int)) (hb : decide (131072 < x.length + y.length + e.length) = b) :
    Fits .i64 (m : Int) ∧ decide ((i : Int) < (m : Int)) = true ∧ ((0 : Int) ≤ (i : Int) ∧ (i : Int) < (m : Int)) ∧ Fits .i64 (131072 - (x.length : Int) - (y.length : Int)) ∧ Fits .i64 (y.length : Int) ∧ Fits .i64 (131072 - (x.length : Int)) ∧ Fits .i64 (x.length : Int) ∧ Fits .i64 (e.length : Int) ∧ decide (131072 - (x.length : Int) - (y.length : Int) < (e.length : Int)) = b := by
  refine ⟨Fm, decide_eq_true (by omega), ⟨by omega, by omega⟩, fits_of (by omega) (by omega), fits_of (by omega) (by omega), fits_of (by omega) (by omega), fits_of (by omega) (by omega), he, ?_⟩
  rw [← hb]
  exact decide_eq_decide.2 (by omega)
theorem subI_all (l : List Int) : subI l 0 l.length = l := by
  unfold subI; rw [List.drop_zero, List.take_of_length_le (Nat.le_refl _)]
theorem sam_ok {n : Int} {k x : List Int} {a : Nat → Int} (h : HS n k x a) (hk : k.length ≤ 32) (h1 : 1 ≤ n) (h2 : n ≤ 32) (hb : x.length ≤ 1000000000000) :
    0 + (n75 a 0).toNat ≤ (dgL (n75 a)).length ∧ 0 + (dSum n k (allL k x)).length ≤ (dSum n k (allL k x)).length ∧ (n75 a 0).toNat ≤ 140737488355328 ∧ subI (dgL (n75 a)) 0 (n75 a 0).toNat = subI (dSum n k (allL k x)) 0 (dSum n k (allL k x)).length ∧ (0 ≤ n75 a 74 ∧ n75 a 74 ≤ 64) ∧ (0 ≤ n75 a 0 ∧ n75 a 0 ≤ 32) := by
  have M := HT_75 h
  have o := HT_ok M h1 h2
  have e := HS_dg M hk (by omega) h2 hb
  have hl := dgL_len o.2
  refine ⟨by omega, by omega, by have := o.2; omega, ?_, o.1, o.2⟩
  rw [subI_all, ← e, ← hl, subI_all]
noncomputable abbrev twZ (d : Nat → List Int) (a b : Nat → Int) (i : Nat) : List Body := twB (aQ 0 a d i) (aQ 1 b d i) (xQ 0 d i) (xQ 1 d i)
theorem id2 (k l : Nat) : ∀ j : Nat, j < 2 → ([0, 1, k, l] : List Nat)[j]? = some j := fun j hj => by
  match j, hj with
  | 0, _ => rfl
  | 1, _ => rfl
theorem tmod2 (i : Nat) : (i : Int).tmod 2 = ((i % 2 : Nat) : Int) := rfl
theorem tw_round (p : Addr) {w0 : World} {O : Go.Vx.Own} (hgl : GlobOk (gA p) w0 O) (u v : Int) (k : List Int) (q : Nat → Bool) (d : Nat → List Int) (m : Nat) (a b : Nat → Int) (u1 : 1 ≤ u) (u2 : u ≤ 32) (v1 : 1 ≤ v) (v2 : v ≤ 32) (hk : k.length ≤ 32) (hkb : Bytes k) (h0 : HS u k [] a) (h1 : HS v [] [] b) (hd : YB d m) (Fm : Fits .i64 (m : Int)) (hm : m ≤ 400) (i : Nat) (hi : i < sp2 d m) :
    SimC (gA p).P w0 O 206 twBody (twS u v k q d m i) (twZ d a b i) .normal (twS u v k q d m (i + 1)) (twZ d a b (i + 1)) 2 := by
  have hle := sp2_le d m
  have hs := sp2_lt hi
  have hx := xQ_len (d := d) (m := m) i (by omega)
  have hx1 := xQ_len (d := d) (m := m) (i + 1) (by omega)
  have F1 : Fits .i64 ((i : Int) + 1) := fits_of (by omega) (by omega)
  have hb0 : Bytes [] := bytes_rep 0
  have A := HS_Q (d := d) (m := m) 0 h0 hk (by decide) i (by omega)
  have B := HS_Q (d := d) (m := m) 1 h1 (Nat.zero_le _) (by decide) i (by omega)
  have A1 := HS_Q (d := d) (m := m) 0 h0 hk (by decide) (i + 1) (by omega)
  have B1 := HS_Q (d := d) (m := m) 1 h1 (Nat.zero_le _) (by decide) (i + 1) (by omega)
  have bx := xQ_bytes hd 0 (i + 1) (by omega)
  have by' := xQ_bytes hd 1 (i + 1) (by omega)
  have oA := HT_ok (HT_75 A) u1 u2
  have oB := HT_ok (HT_75 B) v1 v2
  have hi0 : (0 : Int) ≤ (i : Int) ∧ (i : Int) < (m : Int) := ⟨by omega, by omega⟩
  obtain ⟨s1, s2, s3, s4, s5, s6, s7, s8, s9⟩ := st2_ok (m := m) (i := i) (x := xQ 0 d i) (y := xQ 1 d i) (e := d i) (b := false) Fm (by omega) hx (fits_of (by omega) (by omega)) (decide_eq_false (by omega))
  have hN := HT_ok (HT_75 (HT_new (k := k) v1 v2 hk)) v1 v2
  have hN2 : OkA (n75 (stepA (n75 (nwA v k)) [7])) := OkA.n ⟨step_held hN.1, by
    have e : stepA (n75 (nwA v k)) [7] 0 = n75 (nwA v k) 0 := by
      unfold stepA; rw [ovA_size]; split
      · exact flA_size _
      · rfl
    rw [e]; exact hN.2⟩
  by_cases c : i % 2 = 0
  · have c1 : ¬ i % 2 = 1 := by omega
    have eB : twZ d a b (i + 1) = twB (wrA (n75 (aQ 0 a d i)) (d i)) (aQ 1 b d i) (xQ 0 d i ++ d i) (xQ 1 d i) := by
      simp only [twZ, aQ, xQ, if_pos c, if_neg c1]
    simp only [xQ, aQ, if_pos c, if_neg c1] at A1 B1 hx1 bx by'
    rw [eB]
    have z1 := sam_ok A1 hk u1 u2 (by omega)
    have z2 := sam_ok B1 (Nat.zero_le _) v1 v2 (by omega)
    have t1 : decide ((i : Int).tmod 2 = 0) = true := by rw [tmod2, c]; rfl
    have t2 : decide ((i : Int) = 1) = false := decide_eq_false (by omega)
    have hl : (xQ 0 d i ++ d i).length = (xQ 0 d i).length + (d i).length := List.length_append
    cases hp : q i with
    | false =>
      refine SimC.run (B' := twB (wrA (n75 (aQ 0 a d i)) (d i)) (aQ 1 b d i) (xQ 0 d i ++ d i) (xQ 1 d i)) (gT_ok p _) (by decide) (tw_000 p u v k q d m i (aQ 0 a d i) (aQ 1 b d i) (xQ 0 d i) (xQ 1 d i)) ?_ (by decide) (id2 4 3) (by decide) (by simp) hgl
      simp only [allC_cons, allC_nil, and_true, Bool.not_true, true_and]
      exact ⟨s1, s2, s3, s4, s5, s6, s7, s8, s9, t1, oA.1, by omega, by omega, t2, u1, u2, hk, hkb, bx, by omega, v1, v2, Nat.zero_le _, hb0, by', by omega, hp, hi0, F1⟩
    | true =>
      refine SimC.run (B' := twB (wrA (n75 (aQ 0 a d i)) (d i)) (aQ 1 b d i) (xQ 0 d i ++ d i) (xQ 1 d i)) (gT_ok p _) (by decide) (tw_001 p u v k q d m i (aQ 0 a d i) (aQ 1 b d i) (xQ 0 d i) (xQ 1 d i)) ?_ (by decide) (id2 4 3) (by decide) (by simp) hgl
      simp only [allC_cons, allC_nil, and_true, Bool.not_true, true_and]
      exact ⟨s1, s2, s3, s4, s5, s6, s7, s8, s9, t1, oA.1, by omega, by omega, t2, u1, u2, hk, hkb, bx, by omega, v1, v2, Nat.zero_le _, hb0, by', by omega, z2.1, z2.2.1, z2.2.2.1, z2.2.2.2.1, z2.2.2.2.2.1, z2.2.2.2.2.2, z1.1, z1.2.1, z1.2.2.1, z1.2.2.2.1, z1.2.2.2.2.1, z1.2.2.2.2.2, hp, hi0, F1⟩
  · have c1 : i % 2 = 1 := by omega
    have eB : twZ d a b (i + 1) = twB (aQ 0 a d i) (wrA (n75 (aQ 1 b d i)) (d i)) (xQ 0 d i) (xQ 1 d i ++ d i) := by
      simp only [twZ, aQ, xQ, if_neg c, if_pos c1]
    simp only [xQ, aQ, if_neg c, if_pos c1] at A1 B1 hx1 bx by'
    rw [eB]
    have z1 := sam_ok A1 hk u1 u2 (by omega)
    have z2 := sam_ok B1 (Nat.zero_le _) v1 v2 (by omega)
    have t1 : decide ((i : Int).tmod 2 = 0) = false := by rw [tmod2, c1]; rfl
    have hl : (xQ 1 d i ++ d i).length = (xQ 1 d i).length + (d i).length := List.length_append
    by_cases ci : i = 1
    · have t2 : decide ((i : Int) = 1) = true := decide_eq_true (by omega)
      cases hp : q i with
      | false =>
        refine SimC.run (B' := twB (aQ 0 a d i) (wrA (n75 (aQ 1 b d i)) (d i)) (xQ 0 d i) (xQ 1 d i ++ d i)) (gT_ok p _) (by decide) (tw_110 p u v k q d m i (aQ 0 a d i) (aQ 1 b d i) (xQ 0 d i) (xQ 1 d i)) ?_ (by decide) (id2 2 4) (by decide) (by simp) hgl
        simp only [allC_cons, allC_nil, and_true, Bool.not_true, true_and]
        exact ⟨s1, s2, s3, s4, s5, s6, s7, s8, s9, t1, oB.1, by omega, by omega, t2, v1, v2, hk, hN.1, hN2.1, hN2.2, u1, u2, hk, hkb, bx, by omega, v1, v2, Nat.zero_le _, hb0, by', by omega, hp, hi0, F1⟩
      | true =>
        refine SimC.run (B' := twB (aQ 0 a d i) (wrA (n75 (aQ 1 b d i)) (d i)) (xQ 0 d i) (xQ 1 d i ++ d i)) (gT_ok p _) (by decide) (tw_111 p u v k q d m i (aQ 0 a d i) (aQ 1 b d i) (xQ 0 d i) (xQ 1 d i)) ?_ (by decide) (id2 2 4) (by decide) (by simp) hgl
        simp only [allC_cons, allC_nil, and_true, Bool.not_true, true_and]
        exact ⟨s1, s2, s3, s4, s5, s6, s7, s8, s9, t1, oB.1, by omega, by omega, t2, v1, v2, hk, hN.1, hN2.1, hN2.2, u1, u2, hk, hkb, bx, by omega, v1, v2, Nat.zero_le _, hb0, by', by omega, z2.1, z2.2.1, z2.2.2.1, z2.2.2.2.1, z2.2.2.2.2.1, z2.2.2.2.2.2, z1.1, z1.2.1, z1.2.2.1, z1.2.2.2.1, z1.2.2.2.2.1, z1.2.2.2.2.2, hp, hi0, F1⟩
    · have t2 : decide ((i : Int) = 1) = false := decide_eq_false (by omega)
      cases hp : q i with
      | false =>
        refine SimC.run (B' := twB (aQ 0 a d i) (wrA (n75 (aQ 1 b d i)) (d i)) (xQ 0 d i) (xQ 1 d i ++ d i)) (gT_ok p _) (by decide) (tw_100 p u v k q d m i (aQ 0 a d i) (aQ 1 b d i) (xQ 0 d i) (xQ 1 d i)) ?_ (by decide) (id2 2 4) (by decide) (by simp) hgl
        simp only [allC_cons, allC_nil, and_true, Bool.not_true, true_and]
        exact ⟨s1, s2, s3, s4, s5, s6, s7, s8, s9, t1, oB.1, by omega, by omega, t2, u1, u2, hk, hkb, bx, by omega, v1, v2, Nat.zero_le _, hb0, by', by omega, hp, hi0, F1⟩
      | true =>
        refine SimC.run (B' := twB (aQ 0 a d i) (wrA (n75 (aQ 1 b d i)) (d i)) (xQ 0 d i) (xQ 1 d i ++ d i)) (gT_ok p _) (by decide) (tw_101 p u v k q d m i (aQ 0 a d i) (aQ 1 b d i) (xQ 0 d i) (xQ 1 d i)) ?_ (by decide) (id2 2 4) (by decide) (by simp) hgl
        simp only [allC_cons, allC_nil, and_true, Bool.not_true, true_and]
        exact ⟨s1, s2, s3, s4, s5, s6, s7, s8, s9, t1, oB.1, by omega, by omega, t2, u1, u2, hk, hkb, bx, by omega, v1, v2, Nat.zero_le _, hb0, by', by omega, z2.1, z2.2.1, z2.2.2.1, z2.2.2.2.1, z2.2.2.2.2.1, z2.2.2.2.2.2, z1.1, z1.2.1, z1.2.2.1, z1.2.2.2.1, z1.2.2.2.2.1, z1.2.2.2.2.2, hp, hi0, F1⟩
end Go.Proofs.Tryd

namespace Go.Proofs.Tryd
open Go Go.Vx
/-! ### DigestTwo: the loops -/
noncomputable def twG0 : LoopF := fun vals B => match vals, B with
  | [.int .i64 u, .int .i64 v, .roi K k, .ro 2 m f, .ptr 0 0, .ptr 1 0, .raw (.slice none 0 0), .raw (.slice none 0 0), .int .i64 0], [.cells ax, .cells bs] => match dgAs ax, headK (ax.take 1), dgAs bs, headK (bs.take 1), sameK K .u8 with
    | some la, .nil, some lb, .nil, true => some ([(0, .int .i64 u), (1, .int .i64 v), (2, .roi .u8 k), (9, .ptr 0 0), (11, .ptr 1 0), (17, .own 2), (18, .own 3)], twZ (dOf f) (atL la) (atL lb) m, [f = rowY (pOf f) (dOf f), Fits .i64 (m : Int), ∀ i, i < m → factsC (f i), m ≤ 400, 1 ≤ u, u ≤ 32, 1 ≤ v, v ≤ 32, k.length ≤ 32, Bytes k, HS u k [] (atL la), HS v [] [] (atL lb), sp2 (dOf f) m = m])
    | _, _, _, _, _ => none
  | _, _ => none
noncomputable def twG1 : LoopF := fun vals B => match vals, B with
  | [.int .i64 u, .int .i64 v, .roi K k, .ro 2 m f, .ptr 0 0, .ptr 1 0, .raw (.slice none 0 0), .raw (.slice none 0 0), .int .i64 0], [.cells ax, .cells bs] => match dgAs ax, headK (ax.take 1), dgAs bs, headK (bs.take 1), sameK K .u8 with
    | some la, .nil, some lb, .nil, true => some ([(8, .bool true)], twZ (dOf f) (atL la) (atL lb) (sp2 (dOf f) m), [f = rowY (pOf f) (dOf f), Fits .i64 (m : Int), ∀ i, i < m → factsC (f i), m ≤ 400, 1 ≤ u, u ≤ 32, 1 ≤ v, v ≤ 32, k.length ≤ 32, Bytes k, HS u k [] (atL la), HS v [] [] (atL lb), sp2 (dOf f) m < m, Fits .i64 ((dOf f (sp2 (dOf f) m)).length : Int)])
    | _, _, _, _, _ => none
  | _, _ => none
theorem tw_loop0 (p : Addr) : LoopGood (gA p) 206 (.loop twBody) twKeep 2 (.exit 0) (mkLoopN twG0) := by
  refine LoopGood.mkN (by decide) fun vals B S' B' C hG hC hlen w0 O hgl => ?_
  clear hlen
  unfold twG0 at hG
  split at hG
  · rename_i u v K k m f ax bs
    split at hG
    · rename_i la lb ha hra hb hrb hK
      obtain rfl := kidx_inj hK
      have hra := head_nil hra
      have hrb := head_nil hrb
      simp only [Option.some.injEq, Prod.mk.injEq] at hG
      obtain ⟨rfl, rfl, rfl⟩ := hG
      simp only [allC_cons, allC_nil, and_true] at hC
      obtain ⟨hf, Fm, hff, hm, u1, u2, v1, v2, hk, hkb, h0, h1, hN⟩ := hC
      have hd := rowY_bytes hf hff
      generalize pOf f = q at *
      generalize hdd : dOf f = d at *
      rw [hf]
      clear hf hff hdd
      refine SimC.preI (B1 := [dgV nilR (atL la), dgV nilR (atL lb)]) ?_ ⟨cells_dg ha hra rfl, cells_dg hb hrb rfl, trivial⟩
      refine SimC.adoptS (.ints .u8 []) 17 rfl rfl (by simp) (by simp) ?_
      show SimC _ _ _ _ _ (twKeep.zip [.int .i64 u, .int .i64 v, .roi .u8 k, .ro 2 m (rowY q d), .ptr 0 0, .ptr 1 0, .own 2, .raw (.slice none 0 0), .int .i64 0]) _ _ _ _ _
      refine SimC.adoptS (.ints .u8 []) 18 rfl rfl (by simp) (by simp) ?_
      show SimC _ _ _ _ _ (twS u v k q d m 0) (twZ d (atL la) (atL lb) 0) _ _ _ _
      refine SimC.iter (g := gA p) (e := .exit 0) (S := fun i => twS u v k q d m i) (B := fun i => twZ d (atL la) (atL lb) i) (N := m) (fun i hi => tw_round p hgl u v k q d m _ _ u1 u2 v1 v2 hk hkb h0 h1 hd Fm hm i (by omega)) ?_ (by simp) 0 (by omega)
      exact SimC.weaken (SimC.run (B' := twZ d (atL la) (atL lb) m) (gT_ok p _) (by decide) (tw_end p u v k q d m m _ _ _ _) (by simp only [allC_cons, allC_nil, and_true]; exact ⟨Fm, decide_eq_false (by omega)⟩) (by decide) (id2 2 3) (by decide) (by simp) hgl) (sub_mkT (by simp; exact ⟨rfl, rfl, rfl, rfl, rfl, rfl, rfl⟩))
    · simp at hG
  · simp at hG
theorem tw_loop1 (p : Addr) : LoopGood (gA p) 206 (.loop twBody) twKeep 2 (.ret) (mkLoopN twG1) := by
  refine LoopGood.mkN (by decide) fun vals B S' B' C hG hC hlen w0 O hgl => ?_
  clear hlen
  unfold twG1 at hG
  split at hG
  · rename_i u v K k m f ax bs
    split at hG
    · rename_i la lb ha hra hb hrb hK
      obtain rfl := kidx_inj hK
      have hra := head_nil hra
      have hrb := head_nil hrb
      simp only [Option.some.injEq, Prod.mk.injEq] at hG
      obtain ⟨rfl, rfl, rfl⟩ := hG
      simp only [allC_cons, allC_nil, and_true] at hC
      obtain ⟨hf, Fm, hff, hm, u1, u2, v1, v2, hk, hkb, h0, h1, hN, Fl⟩ := hC
      have hd := rowY_bytes hf hff
      generalize pOf f = q at *
      generalize hdd : dOf f = d at *
      rw [hf]
      clear hf hff hdd
      refine SimC.preI (B1 := [dgV nilR (atL la), dgV nilR (atL lb)]) ?_ ⟨cells_dg ha hra rfl, cells_dg hb hrb rfl, trivial⟩
      refine SimC.adoptS (.ints .u8 []) 17 rfl rfl (by simp) (by simp) ?_
      show SimC _ _ _ _ _ (twKeep.zip [.int .i64 u, .int .i64 v, .roi .u8 k, .ro 2 m (rowY q d), .ptr 0 0, .ptr 1 0, .own 2, .raw (.slice none 0 0), .int .i64 0]) _ _ _ _ _
      refine SimC.adoptS (.ints .u8 []) 18 rfl rfl (by simp) (by simp) ?_
      show SimC _ _ _ _ _ (twS u v k q d m 0) (twZ d (atL la) (atL lb) 0) _ _ _ _
      refine SimC.iter (g := gA p) (e := .ret) (S := fun i => twS u v k q d m i) (B := fun i => twZ d (atL la) (atL lb) i) (N := sp2 d m) (fun i hi => tw_round p hgl u v k q d m _ _ u1 u2 v1 v2 hk hkb h0 h1 hd Fm hm i hi) ?_ (by simp) 0 (by omega)
      refine SimC.weaken (SimC.run (B' := twZ d (atL la) (atL lb) (sp2 d m)) (gT_ok p _) (by decide) (tw_long p u v k q d m (sp2 d m) _ _ _ _) ?_ (by decide) (id2 2 3) (by decide) (by simp) hgl) (sub_mkT (by simp; exact rfl))
      simp only [allC_cons, allC_nil, and_true]
      exact st2_ok Fm hN (xQ_len _ (Nat.le_refl _)) Fl (decide_eq_true (sp2_at hN))
    · simp at hG
  · simp at hG
end Go.Proofs.Tryd

namespace Go.Proofs.Tryd
open Go Go.Vx
/-! ### DigestTwo: the account -/
noncomputable abbrev gB (p : Addr) (b1 b2 : Bool) : Ctx := gT p (fun z => bif z then b1 else b2)
theorem two_run0 (p : Addr) (u v : Int) (k : List Int) (q : Nat → Bool) (d : Nat → List Int) (m : Nat) : runF (gA p) 900 [.br false, .br false, .br false, .br false, .br false, .br false, .loop 14 twKeep 2 (.exit 0) (mkLoopN twG0), .br true, .br true] 3 [.int .i64 u, .int .i64 v, .roi .u8 k, .ro 2 m (rowY q d)] [] [] = some (.sbool true, [], [Fits .i64 (k.length : Int), decide ((400 : Int) < (m : Int)) = false, Fits .i64 (m : Int), decide ((131072 : Int) < (k.length : Int)) = false, 1 ≤ u, u ≤ 32, (k).length ≤ 32, 1 ≤ v, v ≤ 32, (([] : List Int)).length ≤ 32, 1 ≤ u, u ≤ 32, (k).length ≤ 32, Bytes k, Bytes ([] : List Int), (([] : List Int)).length ≤ 70368744177664, 1 ≤ v, v ≤ 32, (([] : List Int)).length ≤ 32, Bytes ([] : List Int), Bytes ([] : List Int), (([] : List Int)).length ≤ 70368744177664, false = false, false = false, false = false, false = false, LoopGood (gA p) 206 (.loop twBody) twKeep 2 (.exit 0) (mkLoopN twG0), rowY q d = rowY (pOf (rowY q d)) (dOf (rowY q d)), Fits .i64 (m : Int), ∀ i, i < m → factsC (rowY q d i), m ≤ 400, 1 ≤ u, u ≤ 32, 1 ≤ v, v ≤ 32, k.length ≤ 32, Bytes k, HS u k [] (n75 (nwA u k)), HS v [] [] (n75 (nwA v [])), sp2 d m = m, 1 ≤ u, u ≤ 32, (k).length ≤ 32, Bytes k, Bytes (xQ 0 d m), ((xQ 0 d m)).length ≤ 70368744177664, 1 ≤ v, v ≤ 32, (([] : List Int)).length ≤ 32, Bytes ([] : List Int), Bytes (xQ 1 d m), ((xQ 1 d m)).length ≤ 70368744177664, true = true, 0 + (n75 (aQ 1 (n75 (nwA v [])) d m) 0).toNat ≤ (dgL (n75 (aQ 1 (n75 (nwA v [])) d m))).length, 0 + (dSum v [] (allL [] (xQ 1 d m))).length ≤ (dSum v [] (allL [] (xQ 1 d m))).length, (n75 (aQ 1 (n75 (nwA v [])) d m) 0).toNat ≤ 140737488355328, subI (dgL (n75 (aQ 1 (n75 (nwA v [])) d m))) 0 (n75 (aQ 1 (n75 (nwA v [])) d m) 0).toNat = subI (dSum v [] (allL [] (xQ 1 d m))) 0 (dSum v [] (allL [] (xQ 1 d m))).length, 0 ≤ n75 (aQ 1 (n75 (nwA v [])) d m) 74 ∧ n75 (aQ 1 (n75 (nwA v [])) d m) 74 ≤ 64, 0 ≤ n75 (aQ 1 (n75 (nwA v [])) d m) 0 ∧ n75 (aQ 1 (n75 (nwA v [])) d m) 0 ≤ 32, true = true, 0 + (n75 (aQ 0 (n75 (nwA u k)) d m) 0).toNat ≤ (dgL (n75 (aQ 0 (n75 (nwA u k)) d m))).length, 0 + (dSum u k (allL k (xQ 0 d m))).length ≤ (dSum u k (allL k (xQ 0 d m))).length, (n75 (aQ 0 (n75 (nwA u k)) d m) 0).toNat ≤ 140737488355328, subI (dgL (n75 (aQ 0 (n75 (nwA u k)) d m))) 0 (n75 (aQ 0 (n75 (nwA u k)) d m) 0).toNat = subI (dSum u k (allL k (xQ 0 d m))) 0 (dSum u k (allL k (xQ 0 d m))).length, 0 ≤ n75 (aQ 0 (n75 (nwA u k)) d m) 74 ∧ n75 (aQ 0 (n75 (nwA u k)) d m) 74 ≤ 64, 0 ≤ n75 (aQ 0 (n75 (nwA u k)) d m) 0 ∧ n75 (aQ 0 (n75 (nwA u k)) d m) 0 ≤ 32]) := run_parts (by kernel_rfl) (by kernel_rfl) (by kernel_rfl)
theorem two_run1 (p : Addr) (u v : Int) (k : List Int) (q : Nat → Bool) (d : Nat → List Int) (m : Nat) : runF (gA p) 900 [.br false, .br false, .br false, .br false, .br false, .br false, .loop 14 twKeep 2 .ret (mkLoopN twG1)] 3 [.int .i64 u, .int .i64 v, .roi .u8 k, .ro 2 m (rowY q d)] [] [] = some (.bool true, [], [Fits .i64 (k.length : Int), decide ((400 : Int) < (m : Int)) = false, Fits .i64 (m : Int), decide ((131072 : Int) < (k.length : Int)) = false, 1 ≤ u, u ≤ 32, (k).length ≤ 32, 1 ≤ v, v ≤ 32, (([] : List Int)).length ≤ 32, 1 ≤ u, u ≤ 32, (k).length ≤ 32, Bytes k, Bytes ([] : List Int), (([] : List Int)).length ≤ 70368744177664, 1 ≤ v, v ≤ 32, (([] : List Int)).length ≤ 32, Bytes ([] : List Int), Bytes ([] : List Int), (([] : List Int)).length ≤ 70368744177664, false = false, false = false, false = false, false = false, LoopGood (gA p) 206 (.loop twBody) twKeep 2 (.ret) (mkLoopN twG1), rowY q d = rowY (pOf (rowY q d)) (dOf (rowY q d)), Fits .i64 (m : Int), ∀ i, i < m → factsC (rowY q d i), m ≤ 400, 1 ≤ u, u ≤ 32, 1 ≤ v, v ≤ 32, k.length ≤ 32, Bytes k, HS u k [] (n75 (nwA u k)), HS v [] [] (n75 (nwA v [])), sp2 d m < m, Fits .i64 ((d (sp2 d m)).length : Int)]) := run_parts (by kernel_rfl) (by kernel_rfl) (by kernel_rfl)
theorem two_run2 (p : Addr) (u v : Int) (k : List Int) (q : Nat → Bool) (d : Nat → List Int) (m : Nat) : runF (gA p) 900 [.br true] 3 [.int .i64 u, .int .i64 v, .roi .u8 k, .ro 2 m (rowY q d)] [] [] = some (.bool true, [], [decide ((400 : Int) < (m : Int)) = true, Fits .i64 (m : Int)]) := run_parts (by kernel_rfl) (by kernel_rfl) (by kernel_rfl)
theorem two_run3 (p : Addr) (u v : Int) (k : List Int) (q : Nat → Bool) (d : Nat → List Int) (m : Nat) : runF (gA p) 900 [.br false, .br true] 3 [.int .i64 u, .int .i64 v, .roi .u8 k, .ro 2 m (rowY q d)] [] [] = some (.bool true, [], [Fits .i64 (k.length : Int), decide ((400 : Int) < (m : Int)) = false, Fits .i64 (m : Int), decide ((131072 : Int) < (k.length : Int)) = true]) := run_parts (by kernel_rfl) (by kernel_rfl) (by kernel_rfl)
theorem two_e10 (p : Addr) (u v : Int) (k : List Int) (q : Nat → Bool) (d : Nat → List Int) (m : Nat) : runF (gB p true false) 900 [.br false, .br false, .br false, .br false, .br false, .br true, .br true, .br true, .br true, .br true] 3 [.int .i64 u, .int .i64 v, .roi .u8 k, .ro 2 m (rowY q d)] [] [] = some (.sbool true, [], [Fits .i64 (k.length : Int), decide ((400 : Int) < (m : Int)) = false, Fits .i64 (m : Int), decide ((131072 : Int) < (k.length : Int)) = false, 1 ≤ u, u ≤ 32, (k).length ≤ 32, v < 1 ∨ 32 < v ∨ 32 < (([] : List Int)).length, Fits .i64 ((([] : List Int)).length : Int), 1 ≤ u, u ≤ 32, (k).length ≤ 32, Bytes k, Bytes ([] : List Int), (([] : List Int)).length ≤ 70368744177664, v < 1 ∨ 32 < v ∨ 32 < (([] : List Int)).length, Fits .i64 ((([] : List Int)).length : Int), p = p, false = false, false = false, true = true, false = false, true = true, true = true]) := run_parts (by kernel_rfl) (by kernel_rfl) (by kernel_rfl)
theorem two_e01 (p : Addr) (u v : Int) (k : List Int) (q : Nat → Bool) (d : Nat → List Int) (m : Nat) : runF (gB p false true) 900 [.br false, .br false, .br false, .br false, .br true, .br true, .br true, .br true, .br true] 3 [.int .i64 u, .int .i64 v, .roi .u8 k, .ro 2 m (rowY q d)] [] [] = some (.sbool true, [], [Fits .i64 (k.length : Int), decide ((400 : Int) < (m : Int)) = false, Fits .i64 (m : Int), decide ((131072 : Int) < (k.length : Int)) = false, u < 1 ∨ 32 < u ∨ 32 < (k).length, Fits .i64 ((k).length : Int), 1 ≤ v, v ≤ 32, (([] : List Int)).length ≤ 32, u < 1 ∨ 32 < u ∨ 32 < (k).length, Fits .i64 ((k).length : Int), 1 ≤ v, v ≤ 32, (([] : List Int)).length ≤ 32, Bytes ([] : List Int), Bytes ([] : List Int), (([] : List Int)).length ≤ 70368744177664, false = false, p = p, false = false, true = true, true = true, true = true]) := run_parts (by kernel_rfl) (by kernel_rfl) (by kernel_rfl)
theorem two_e00 (p : Addr) (u v : Int) (k : List Int) (q : Nat → Bool) (d : Nat → List Int) (m : Nat) : runF (gB p false false) 900 [.br false, .br false, .br false, .br false, .br true, .br true, .br true, .br true, .br true] 3 [.int .i64 u, .int .i64 v, .roi .u8 k, .ro 2 m (rowY q d)] [] [] = some (.sbool true, [], [Fits .i64 (k.length : Int), decide ((400 : Int) < (m : Int)) = false, Fits .i64 (m : Int), decide ((131072 : Int) < (k.length : Int)) = false, u < 1 ∨ 32 < u ∨ 32 < (k).length, Fits .i64 ((k).length : Int), v < 1 ∨ 32 < v ∨ 32 < (([] : List Int)).length, Fits .i64 ((([] : List Int)).length : Int), u < 1 ∨ 32 < u ∨ 32 < (k).length, Fits .i64 ((k).length : Int), v < 1 ∨ 32 < v ∨ 32 < (([] : List Int)).length, Fits .i64 ((([] : List Int)).length : Int), p = p, false = false, p = p, false = false, true = true, true = true, true = true]) := run_parts (by kernel_rfl) (by kernel_rfl) (by kernel_rfl)
theorem ii {p : Addr} {ok ok' : Bool → Bool} {args : List SV} {out : OpOut} (h : FnOk (gT p ok) 3 args [] out) : FnOk (gT p ok') 3 args [] out := FnOk.of (g := gT p ok) rfl rfl h
theorem two_ok (p : Addr) (u v : Int) (k : List Int) (hkf : ∀ x ∈ k, Fits .u8 x) (hz : k.length * Tryd.prog.bytesOf 5 ≤ 140737488351232) (m : Nat) (a : Nat → Nat → Int) (d : Nat → Nat → List Int) (Fm : Fits .i64 (m : Int)) (hl : ∀ i j, Fits .i64 ((d i j).length : Int)) (hf : ∀ i, i < m → factsC (.agg (svY [.b, .s .u8] (a i) (d i) 0))) :
    FnOk (gA p) 3 [.int .i64 u, .int .i64 v, .roi .u8 k, .ro 2 m fun i => .agg (svY [.b, .s .u8] (a i) (d i) 0)] [] { val := .bool true } := by
  show FnOk (gA p) 3 [.int .i64 u, .int .i64 v, .roi .u8 k, .ro 2 m (rowY (fun i => decide (a i 0 = 1)) (fun i => d i 1))] [] { val := .bool true }
  have hf' : ∀ i, i < m → factsC (rowY (fun i => decide (a i 0 = 1)) (fun i => d i 1) i) := hf
  have hl' : ∀ i, Fits .i64 (((fun i => d i 1) i).length : Int) := fun i => hl i 1
  generalize (fun i => decide (a i 0 = 1)) = q at *
  generalize (fun i => d i 1) = e at *
  have hkb : Bytes k := bytes_of hkf
  have Fk : Fits .i64 (k.length : Int) := by
    rw [show Tryd.prog.bytesOf 5 = 1 by kernel_rfl] at hz
    exact fits_of (by omega) (by omega)
  have hb0 : Bytes [] := bytes_rep 0
  have hL0 := tw_loop0 p
  have hL1 := tw_loop1 p
  have n0 : ([] : List Int).length = 0 := rfl
  have Fn : Fits .i64 ((([] : List Int).length : Nat) : Int) := fits_of (by decide) (by decide)
  by_cases h4 : 400 < m
  · exact FnOk.pure (gT_ok p _) (two_run2 p u v k q e m) (by simp only [allC_cons, allC_nil, and_true]; exact ⟨decide_eq_true (by omega), Fm⟩)
  have h0 : decide ((400 : Int) < (m : Int)) = false := decide_eq_false (by omega)
  by_cases h5 : 131072 < k.length
  · exact FnOk.pure (gT_ok p _) (two_run3 p u v k q e m) (by simp only [allC_cons, allC_nil, and_true]; exact ⟨Fk, h0, Fm, decide_eq_true (by omega)⟩)
  have h1 : decide ((131072 : Int) < (k.length : Int)) = false := decide_eq_false (by omega)
  by_cases hu : 1 ≤ u ∧ u ≤ 32 ∧ k.length ≤ 32
  · obtain ⟨u1, u2, hk⟩ := hu
    by_cases hv : 1 ≤ v ∧ v ≤ 32
    · obtain ⟨v1, v2⟩ := hv
      have A0 : HS u k [] (n75 (nwA u k)) := HT_75 (HT_new u1 u2 hk)
      have B0 : HS v [] [] (n75 (nwA v [])) := HT_75 (HT_new v1 v2 (Nat.zero_le _))
      have hle := sp2_le e m
      by_cases hs : sp2 e m = m
      · refine FnOk.ofSb (b := true) (FnOk.pure (gT_ok p _) (two_run0 p u v k q e m) ?_) rfl
        have A := HS_Q (d := e) (m := m) 0 A0 hk (by decide) m (by omega)
        have B := HS_Q (d := e) (m := m) 1 B0 (Nat.zero_le _) (by decide) m (by omega)
        have hx := xQ_len (d := e) (m := m) m (by omega)
        have hd := rowY_bytes (f := rowY q e) rfl hf'
        have bx := xQ_bytes hd 0 m (Nat.le_refl _)
        have by' := xQ_bytes hd 1 m (Nat.le_refl _)
        have z1 := sam_ok A hk u1 u2 (by omega)
        have z2 := sam_ok B (Nat.zero_le _) v1 v2 (by omega)
        simp only [allC_cons, allC_nil, and_true, true_and]
        exact ⟨Fk, h0, Fm, h1, u1, u2, hk, v1, v2, Nat.zero_le _, u1, u2, hk, hkb, hb0, Nat.zero_le _, v1, v2, Nat.zero_le _, hb0, hb0, Nat.zero_le _, hL0, rfl, Fm, hf', by omega, u1, u2, v1, v2, hk, hkb, A0, B0, hs,
          u1, u2, hk, hkb, bx, by omega, v1, v2, Nat.zero_le _, hb0, by', by omega, z2.1, z2.2.1, z2.2.2.1, z2.2.2.2.1, z2.2.2.2.2.1, z2.2.2.2.2.2, z1.1, z1.2.1, z1.2.2.1, z1.2.2.2.1, z1.2.2.2.2.1, z1.2.2.2.2.2⟩
      · refine FnOk.pure (gT_ok p _) (two_run1 p u v k q e m) ?_
        simp only [allC_cons, allC_nil, and_true, true_and]
        exact ⟨Fk, h0, Fm, h1, u1, u2, hk, v1, v2, Nat.zero_le _, u1, u2, hk, hkb, hb0, Nat.zero_le _, v1, v2, Nat.zero_le _, hb0, hb0, Nat.zero_le _, hL1, rfl, Fm, hf', by omega, u1, u2, v1, v2, hk, hkb, A0, B0, by omega, hl' _⟩
    · have ev : v < 1 ∨ 32 < v ∨ 32 < ([] : List Int).length := by rcases Int.lt_or_le v 1 with h | h <;> first | exact .inl h | exact .inr (.inl (by omega))
      refine ii (ok := fun z => bif z then true else false) (FnOk.ofSb (b := true) (FnOk.pure (gT_ok p _) (two_e10 p u v k q e m) ?_) rfl)
      simp only [allC_cons, allC_nil, and_true, true_and]
      exact ⟨Fk, h0, Fm, h1, u1, u2, hk, ev, Fn, u1, u2, hk, hkb, hb0, Nat.zero_le _, ev, Fn⟩
  · have eu : u < 1 ∨ 32 < u ∨ 32 < k.length := by omega
    by_cases hv : 1 ≤ v ∧ v ≤ 32
    · obtain ⟨v1, v2⟩ := hv
      refine ii (ok := fun z => bif z then false else true) (FnOk.ofSb (b := true) (FnOk.pure (gT_ok p _) (two_e01 p u v k q e m) ?_) rfl)
      simp only [allC_cons, allC_nil, and_true, true_and]
      exact ⟨Fk, h0, Fm, h1, eu, Fk, v1, v2, Nat.zero_le _, eu, Fk, v1, v2, Nat.zero_le _, hb0, hb0, Nat.zero_le _⟩
    · have ev : v < 1 ∨ 32 < v ∨ 32 < ([] : List Int).length := by rcases Int.lt_or_le v 1 with h | h <;> first | exact .inl h | exact .inr (.inl (by omega))
      refine ii (ok := fun z => bif z then false else false) (FnOk.ofSb (b := true) (FnOk.pure (gT_ok p _) (two_e00 p u v k q e m) ?_) rfl)
      simp only [allC_cons, allC_nil, and_true, true_and]
      exact ⟨Fk, h0, Fm, h1, eu, Fk, ev, Fn, eu, Fk, ev, Fn⟩
end Go.Proofs.Tryd
