/- Accounts of this seat's functions: lemmas, no statement of their own. No conditions. -/
import Derived.Test.YthciddlfnajchaaDoorTSb
import Derived.Test.YthciddlfnajchaaDoorV5
namespace Go.Proofs.Tryd
open Go Go.Vx
/-! ### what a Hash holds -/
/-- behind the message T, from the state h0 on -/
structure HT (h0 : Nat → Int) (n : Int) (T : List Int) (a : Nat → Int) : Prop where
  size : a 0 = n
  st : ∀ j, j < 8 → a (1 + j) = slH h0 T (Nx T) j
  cnt : a 9 = ((64 * Nx T : Nat) : Int)
  held : a 74 = ((T.length - 64 * Nx T : Nat) : Int)
  blk : ∀ j, j < T.length - 64 * Nx T → a (10 + j) = T.getD (64 * Nx T + j) 0
theorem Nx_le (T : List Int) : 64 * Nx T ≤ T.length ∧ T.length - 64 * Nx T ≤ 64 ∧ (0 < T.length → 0 < T.length - 64 * Nx T) := by
  simp only [Nx]; omega
theorem getD_app {T l : List Int} {i : Nat} (h : i < T.length) : (T ++ l).getD i 0 = T.getD i 0 := by
  rw [List.getD_eq_getElem?_getD, List.getElem?_append_left h, ← List.getD_eq_getElem?_getD]
theorem getD_app2 {T l : List Int} {i : Nat} (h : T.length ≤ i) : (T ++ l).getD i 0 = l.getD (i - T.length) 0 := by
  rw [List.getD_eq_getElem?_getD, List.getElem?_append_right h, ← List.getD_eq_getElem?_getD]
theorem blkF_app {T l : List Int} {j n : Nat} (h : j + n ≤ T.length) (t : Nat) : blkF (T ++ l) j n t = blkF T j n t := by
  unfold blkF
  by_cases c : t < n
  · rw [if_pos c, if_pos c, getD_app (by omega)]
  · rw [if_neg c, if_neg c]
theorem n8_at {h : Nat → Int} {i : Nat} (hi : i < 8) : n8 h i = h i := atLF hi
theorem slH_app {h0 : Nat → Int} {T l : List Int} : ∀ i, 64 * i ≤ T.length → ∀ j, j < 8 → slH h0 (T ++ l) i j = slH h0 T i j
  | 0, _, _, _ => rfl
  | i + 1, h, j, hj => by
    have ih := slH_app (h0 := h0) (T := T) (l := l) i (by omega)
    show prS (n8 (slH h0 (T ++ l) i)) (blkF (T ++ l) (64 * i) 64) ((64 * (i + 1) : Nat) : Int) 0 j = prS (n8 (slH h0 T i)) (blkF T (64 * i) 64) ((64 * (i + 1) : Nat) : Int) 0 j
    exact prS_congr (fun t ht => by rw [n8_at ht, n8_at ht]; exact ih t ht) (fun t _ => blkF_app (by omega) t) _ _ j hj
theorem uadd64 {x : Nat} {y : Nat} (h : x + y < 18446744073709551616) : uadd .u64 (x : Int) (y : Int) = ((x + y : Nat) : Int) := by
  unfold uadd
  rw [show modulus .u64 = 18446744073709551616 from rfl, Int.toNat_natCast, Int.toNat_natCast, Nat.mod_eq_of_lt h]; rfl
theorem ovA_lt (a : Nat → Int) (l : List Int) {j : Nat} (h : j < 10) : ovA a l j = a j := by
  unfold ovA
  rw [show Nat.ble 10 j = false by rw [← Bool.not_eq_true]; intro c; have := Nat.le_of_ble_eq_true c; omega]
  simp only [Bool.false_and, cond_false]
  rw [show Nat.beq j 74 = false by rw [← Bool.not_eq_true]; intro c; have := Nat.eq_of_beq_eq_true c; omega]
  rfl
theorem ovA_blk (a : Nat → Int) (l : List Int) {j : Nat} (h : j < 64) : ovA a l (10 + j) = if (a 74).toNat ≤ j ∧ j < (a 74).toNat + (l.take (64 - (a 74).toNat)).length then (l.take (64 - (a 74).toNat)).getD (j - (a 74).toNat) 0 else a (10 + j) := by
  unfold ovA
  rw [show Nat.ble 10 (10 + j) = true from Nat.ble_eq_true_of_le (by omega), show Nat.blt (10 + j) 74 = true from Nat.ble_eq_true_of_le (by omega)]
  simp only [Bool.and_true, cond_true]
  rw [show 10 + j - 10 = j by omega]
/-- a piece that fits, behind less than a block -/
theorem HT_ov {h0 : Nat → Int} {n : Int} {T l : List Int} {a : Nat → Int} (hN : ∃ N, a 0 = n ∧ (∀ j, j < 8 → a (1 + j) = slH h0 T N j) ∧ a 9 = ((64 * N : Nat) : Int) ∧ a 74 = ((T.length - 64 * N : Nat) : Int) ∧ (∀ j, j < T.length - 64 * N → a (10 + j) = T.getD (64 * N + j) 0) ∧ 64 * N ≤ T.length ∧ T.length < 64 * N + 64) (hl : l ≠ []) :
    HT h0 n (T ++ l.take (kN a l).toNat) (ovA a l) ∧ l1 a l = l.drop (kN a l).toNat := by
  obtain ⟨N, h1, h2, h3, h4, h5, h6, h7⟩ := hN
  have hl0 : 0 < l.length := List.length_pos_iff.2 hl
  obtain ⟨e, he⟩ : ∃ e, T.length - 64 * N = e := ⟨_, rfl⟩
  have ha : (a 74).toNat = e := by rw [h4, he]; omega
  have hk : (kN a l).toNat = min l.length (64 - e) := by simp only [kN, ha]; omega
  have hlt : (l.take (64 - e)).length = min l.length (64 - e) := by rw [List.length_take]; omega
  have hT : (T ++ l.take (kN a l).toNat).length = T.length + min l.length (64 - e) := by rw [List.length_append, List.length_take, hk]; omega
  have hNx : Nx (T ++ l.take (kN a l).toNat) = N := by
    simp only [Nx]; rw [hT]; omega
  refine ⟨⟨by rw [ovA_lt a l (by omega), h1], fun j hj => ?_, ?_, ?_, fun j hj => ?_⟩, ?_⟩
  · rw [ovA_lt a l (by omega), hNx, h2 j hj, slH_app N h6 j hj]
  · rw [ovA_lt a l (by omega), hNx, h3]
  · rw [ovA_held, hNx, hT, h4, he]
    simp only [kN, ha]; omega
  · rw [hNx, hT] at hj
    rw [hNx, ovA_blk a l (by omega), ha, hlt]
    by_cases c : j < e
    · rw [if_neg (by omega), h5 j (by omega), getD_app (by omega)]
    · rw [if_pos ⟨by omega, by omega⟩, getD_app2 (by omega), hk, show 64 * N + j - T.length = j - e by omega]
      congr 1
      rcases Nat.le_total l.length (64 - e) with q | q
      · rw [Nat.min_eq_left q, List.take_of_length_le q, List.take_of_length_le (Nat.le_refl _)]
      · rw [Nat.min_eq_right q]
  · show (l.drop (kN a l).toNat).take (l.length - (kN a l).toNat) = _
    rw [List.take_of_length_le (by rw [List.length_drop]; omega)]
theorem n75c {a : Nat → Int} {j : Nat} (hj : j < 75) (h9 : j ≠ 9) : n75 (cntA a) j = a j := by
  rw [n75_at hj]
  unfold cntA
  rw [show Nat.beq j 9 = false by rw [← Bool.not_eq_true]; intro c; exact h9 (Nat.eq_of_beq_eq_true c)]; rfl
theorem flA_hi {a : Nat → Int} {j : Nat} (h0 : 9 ≤ j) (h1 : j < 74) : flA a j = n75 (cntA a) j := by
  unfold flA heldA setS
  rw [show Nat.beq j 74 = false by rw [← Bool.not_eq_true]; intro c; have := Nat.eq_of_beq_eq_true c; omega, show Nat.blt j 9 = false by rw [← Bool.not_eq_true]; intro c; have := Nat.le_of_ble_eq_true c; omega]
  simp only [Bool.and_false, cond_false]
theorem flA_st {a : Nat → Int} {j : Nat} (hj : j < 8) : flA a (1 + j) = prS (stA (n75 (cntA a))) (bkA (n75 (cntA a))) (uadd .u64 (a 9) 64) 0 j := by
  unfold flA heldA setS
  rw [show Nat.beq (1 + j) 74 = false by rw [← Bool.not_eq_true]; intro c; have := Nat.eq_of_beq_eq_true c; omega, show Nat.ble 1 (1 + j) = true from Nat.ble_eq_true_of_le (by omega), show Nat.blt (1 + j) 9 = true from Nat.ble_eq_true_of_le (by omega)]
  simp only [Bool.and_true, cond_true, cond_false]
  rw [show 1 + j - 1 = j by omega]
theorem HT_step {h0 : Nat → Int} {n : Int} {T l : List Int} {a : Nat → Int} (h : HT h0 n T a) (hl : l ≠ []) (hb : T.length < 1000000000000000) : ∃ k, 0 < k ∧ k ≤ l.length ∧ HT h0 n (T ++ l.take k) (stepA a l) ∧ stepL a l = l.drop k := by
  have hl0 : 0 < l.length := List.length_pos_iff.2 hl
  obtain ⟨q1, q2, q3⟩ := Nx_le T
  unfold stepA stepL
  by_cases c : a 74 = 64
  · rw [if_pos c]
    have hlen : T.length = 64 * Nx T + 64 := by have := h.held; omega
    have r := HT_ov (h0 := h0) (n := n) (T := T) (l := l) (a := flA a) ⟨Nx T + 1, by rw [flA_size, h.size], fun j hj => ?_, ?_, ?_, fun j hj => absurd hj (by omega), by omega, by omega⟩ hl
    · refine ⟨(kN (flA a) l).toNat, ?_, ?_, r.1, r.2⟩ <;> simp only [kN, flA_held] <;> omega
    · rw [flA_st hj]
      show _ = prS (n8 (slH h0 T (Nx T))) (blkF T (64 * Nx T) 64) ((64 * (Nx T + 1) : Nat) : Int) 0 j
      have e9 : uadd .u64 (a 9) 64 = ((64 * (Nx T + 1) : Nat) : Int) := by
        rw [h.cnt, show (64 : Int) = ((64 : Nat) : Int) from rfl, uadd64 (by omega)]; congr 1
      rw [e9]
      refine prS_congr (fun t ht => ?_) (fun t ht => ?_) _ _ j hj
      · rw [n8_at ht]
        show n75 (cntA a) (1 + t) = _
        rw [n75c (by omega) (by omega), h.st t ht]
      · show n75 (cntA a) (10 + t) = _
        rw [n75c (by omega) (by omega), h.blk t (by omega)]
        unfold blkF; rw [if_pos ht]
    · rw [flA_hi (by omega) (by omega), n75_at (by omega)]
      show uadd .u64 (a 9) 64 = _
      rw [h.cnt, show (64 : Int) = ((64 : Nat) : Int) from rfl, uadd64 (by omega)]; congr 1
    · rw [flA_held]; omega
  · rw [if_neg c]
    have hh := h.held
    have r := HT_ov (h0 := h0) (n := n) (T := T) (l := l) (a := a) ⟨Nx T, h.size, h.st, h.cnt, h.held, h.blk, q1, by omega⟩ hl
    have ha : (a 74).toNat = T.length - 64 * Nx T := by rw [hh]; omega
    refine ⟨(kN a l).toNat, ?_, ?_, r.1, r.2⟩ <;> simp only [kN, ha] <;> omega
theorem HT_wrF {h0 : Nat → Int} {n : Int} : ∀ (f : Nat) (T l : List Int) (a : Nat → Int), HT h0 n T a → l.length ≤ f → T.length + l.length < 1000000000000000 → HT h0 n (T ++ l) (wrF f a l)
  | 0, T, l, a, h, hf, _ => by
    obtain rfl : l = [] := List.length_eq_zero_iff.1 (by omega)
    rw [List.append_nil]; exact h
  | f + 1, T, l, a, h, hf, hb => by
    simp only [wrF]
    by_cases c : l = []
    · rw [if_pos c, c, List.append_nil]; exact h
    · rw [if_neg c]
      obtain ⟨k, k1, k2, h2, e⟩ := HT_step h c (by omega)
      rw [e]
      have r := HT_wrF f (T ++ l.take k) (l.drop k) (stepA a l) h2 (by rw [List.length_drop]; omega) (by rw [List.length_append, List.length_take, List.length_drop]; omega)
      rw [List.append_assoc, List.take_append_drop] at r
      exact r
theorem HT_write {h0 : Nat → Int} {n : Int} {T l : List Int} {a : Nat → Int} (h : HT h0 n T a) (hb : T.length + l.length < 1000000000000000) : HT h0 n (T ++ l) (wrA a l) := HT_wrF _ _ _ _ h (Nat.le_refl _) hb
theorem HT_75 {h0 : Nat → Int} {n : Int} {T : List Int} {a : Nat → Int} (h : HT h0 n T a) : HT h0 n T (n75 a) := by
  have q := Nx_le T
  exact ⟨by rw [n75_at (by omega)]; exact h.size, fun j hj => by rw [n75_at (by omega)]; exact h.st j hj, by rw [n75_at (by omega)]; exact h.cnt, by rw [n75_at (by omega)]; exact h.held, fun j hj => by rw [n75_at (by omega)]; exact h.blk j hj⟩
theorem HT_ok {h0 : Nat → Int} {n : Int} {T : List Int} {a : Nat → Int} (h : HT h0 n T a) (h1 : 1 ≤ n) (h2 : n ≤ 32) : OkA a := by
  have q := Nx_le T
  exact ⟨by rw [h.held]; omega, by rw [h.size]; omega⟩
/-! ### the digest -/
theorem listF_take (f : Nat → Int) : ∀ (m n i : Nat), m ≤ n → (listF n f i).take m = listF m f i
  | 0, n, i, _ => by simp [listF]
  | m + 1, 0, i, h => absurd h (by omega)
  | m + 1, n + 1, i, h => by
    show (f i :: listF n f (i + 1)).take (m + 1) = f i :: listF m f (i + 1)
    rw [List.take_succ_cons, listF_take f m n (i + 1) (by omega)]
noncomputable abbrev digT (h0 : Nat → Int) (n : Int) (T : List Int) : List Int := listF n.toNat (dgB (n8 (prS (n8 (slH h0 T (Nx T))) (blkF T (64 * Nx T) (T.length - 64 * Nx T)) (T.length : Int) 4294967295))) 0
theorem HT_dg {h0 : Nat → Int} {n : Int} {T : List Int} {a : Nat → Int} (h : HT h0 n T a) (h1 : 0 ≤ n) (h2 : n ≤ 32) (hb : T.length < 1000000000000000) : dgL a = digT h0 n T := by
  obtain ⟨q1, q2, q3⟩ := Nx_le T
  unfold dgL
  rw [h.size, listF_take _ _ _ _ (by omega)]
  refine listF_eq0.2 fun j hj => ?_
  unfold dgB
  rw [n8_at (by omega)]
  congr 2
  have ha : (a 74).toNat = T.length - 64 * Nx T := by rw [h.held]; omega
  have ec : uadd .u64 (a 9) (scut .u64 (a 74)) = (T.length : Int) := by
    have es : scut .u64 (a 74) = ((T.length - 64 * Nx T : Nat) : Int) := by
      unfold scut
      rw [h.held, show modulus .u64 = 18446744073709551616 from rfl]
      omega
    rw [es, h.cnt, uadd64 (by omega)]; congr 1; omega
  unfold smS
  rw [ec]
  refine prS_congr (fun t ht => by rw [n8_at ht]; exact h.st t ht) (fun t ht => ?_) _ _ _ (by omega)
  have e1 : atL (listF 64 (clB a) 0) t = clB a t := atLF ht
  rw [e1]
  unfold clB blkF
  rw [ha, List.length_replicate]
  by_cases c : t < T.length - 64 * Nx T
  · rw [if_neg (by omega), if_pos c, h.blk t c]
  · rw [if_pos ⟨by omega, by omega⟩, if_neg c, List.getD_eq_getElem?_getD, List.getElem?_replicate]
    split <;> rfl
/-! ### a new Hash -/
theorem HT_new {n : Int} {k : List Int} (h1 : 1 ≤ n) (h2 : n ≤ 32) (h3 : k.length ≤ 32) : HT (atL (dH0 n k)) n (allL k []) (nwA n k) := by
  have hT : (allL k []).length = if 0 < k.length then 64 else 0 := by
    unfold allL
    by_cases c : 0 < k.length
    · rw [if_pos c, if_pos c, List.append_nil, padL, pad_len]; omega
    · rw [if_neg c, if_neg c]; rfl
  have hN : Nx (allL k []) = 0 := by
    simp only [Nx]; rw [hT]; split <;> rfl
  have e0 : hd0 n k = uxor 1779033703 (16842752 + 256 * (k.length : Int) + n) := by
    unfold hd0
    congr 1
    obtain ⟨n, rfl⟩ := Int.eq_ofNat_of_zero_le (show 0 ≤ n by omega)
    have s1 : ∀ x : Nat, x < 4294967296 → scut .u32 (x : Int) = (x : Int) := fun x hx => by unfold scut; rw [m32]; omega
    have s2 : umul .u32 256 (k.length : Int) = ((256 * k.length : Nat) : Int) := by
      unfold umul
      rw [m32, Int.toNat_natCast, show ((256 : Int).toNat) = 256 from rfl, Nat.mod_eq_of_lt (by omega)]; rfl
    have s3 : ∀ x y : Nat, x + y < 4294967296 → uadd .u32 (x : Int) (y : Int) = ((x + y : Nat) : Int) := fun x y h => by
      unfold uadd
      rw [m32, Int.toNat_natCast, Int.toNat_natCast, Nat.mod_eq_of_lt h]; rfl
    rw [s1 _ (by omega), s1 _ (by omega), s2, show (16842752 : Int) = ((16842752 : Nat) : Int) from rfl, s3 _ _ (by omega), s3 _ _ (by omega)]
    omega
  refine ⟨rfl, fun j hj => ?_, ?_, ?_, fun j hj => ?_⟩
  · rw [hN]
    show nwA n k (1 + j) = atL (dH0 n k) j
    match j, hj with
    | 0, _ => exact e0
    | 1, _ => rfl
    | 2, _ => rfl
    | 3, _ => rfl
    | 4, _ => rfl
    | 5, _ => rfl
    | 6, _ => rfl
    | 7, _ => rfl
  · rw [hN]; rfl
  · rw [hN, hT]
    show (if 0 < k.length then 64 else 0 : Int) = _
    split <;> rfl
  · rw [hN, Nat.mul_zero, Nat.sub_zero] at hj
    rw [hN, Nat.mul_zero, Nat.zero_add]
    have hj64 : j < 64 := by rw [hT] at hj; split at hj <;> omega
    have ck : 0 < k.length := by
      apply Nat.pos_of_ne_zero; intro c
      rw [hT, if_neg (by omega)] at hj; omega
    have e1 : nwA n k (10 + j) = blk0 k j := by
      show (n :: hd0 n k :: (ivL.drop 1 ++ 0 :: (listF 64 (blk0 k) 0 ++ [if 0 < k.length then 64 else 0]))).getD (10 + j) 0 = _
      have : (n :: hd0 n k :: (ivL.drop 1 ++ 0 :: (listF 64 (blk0 k) 0 ++ [if 0 < k.length then (64 : Int) else 0]))).getD (10 + j) 0 = (listF 64 (blk0 k) 0 ++ [if 0 < k.length then (64 : Int) else 0]).getD j 0 := by
        rw [show 10 + j = j + 10 by omega]; rfl
      rw [this, getD_app (by rw [listF_length]; exact hj64)]
      exact atLF hj64
    rw [e1]
    unfold allL blk0
    rw [if_pos ck, List.append_nil, List.take_of_length_le (by omega)]
    by_cases c : j < k.length
    · rw [if_pos ⟨by omega, by omega⟩, getD_app c]
    · rw [if_neg (by omega), getD_app2 (by omega), List.getD_eq_getElem?_getD, List.getElem?_replicate]
      split <;> rfl
theorem allL_app (k x d : List Int) : allL k (x ++ d) = allL k x ++ d := by
  unfold allL; split
  · rw [← List.append_assoc]
  · rfl
theorem allL_len (k x : List Int) (h : k.length ≤ 32) : (allL k x).length ≤ 64 + x.length := by
  unfold allL; split
  · rw [List.length_append, padL, pad_len]; omega
  · omega
/-- a Hash of size n and key k behind the message x -/
abbrev HS (n : Int) (k x : List Int) (a : Nat → Int) : Prop := HT (atL (dH0 n k)) n (allL k x) a
theorem HS_write {n : Int} {k x d : List Int} {a : Nat → Int} (h : HS n k x a) (hk : k.length ≤ 32) (hb : x.length + d.length ≤ 1000000000000) : HS n k (x ++ d) (wrA a d) := by
  have := allL_len k x hk
  have r := HT_write (l := d) h (by omega)
  rw [← allL_app] at r; exact r
theorem HS_dg {n : Int} {k x : List Int} {a : Nat → Int} (h : HS n k x a) (hk : k.length ≤ 32) (h1 : 0 ≤ n) (h2 : n ≤ 32) (hb : x.length ≤ 1000000000000) : dgL a = dSum n k (allL k x) := by
  have := allL_len k x hk
  exact HT_dg h h1 h2 (by omega)
end Go.Proofs.Tryd

namespace Go.Proofs.Tryd
open Go Go.Vx
/-! ### DigestTwo: the loop -/
def xQ (q : Nat) (d : Nat → List Int) : Nat → List Int
  | 0 => []
  | i + 1 => if i % 2 = q then xQ q d i ++ d i else xQ q d i
noncomputable def aQ (q : Nat) (a : Nat → Int) (d : Nat → List Int) : Nat → (Nat → Int)
  | 0 => a
  | i + 1 => if i % 2 = q then wrA (n75 (aQ q a d i)) (d i) else aQ q a d i
def sp2 (d : Nat → List Int) (m : Nat) : Nat := firstI (fun i => decide (131072 < (xQ 0 d i).length + (xQ 1 d i).length + (d i).length)) m
theorem sp2_le (d : Nat → List Int) (m : Nat) : sp2 d m ≤ m := (firstI_spec _ m).1
theorem sp2_lt {d : Nat → List Int} {m i : Nat} (h : i < sp2 d m) : (xQ 0 d i).length + (xQ 1 d i).length + (d i).length ≤ 131072 := by
  have := (firstI_spec _ m).2.1 i h
  have := of_decide_eq_false this
  omega
theorem sp2_at {d : Nat → List Int} {m : Nat} (h : sp2 d m < m) : 131072 < (xQ 0 d (sp2 d m)).length + (xQ 1 d (sp2 d m)).length + (d (sp2 d m)).length := of_decide_eq_true ((firstI_spec _ m).2.2 h)
theorem xQ_len {d : Nat → List Int} {m : Nat} : ∀ i, i ≤ sp2 d m → (xQ 0 d i).length + (xQ 1 d i).length ≤ 131072
  | 0, _ => by simp [xQ]
  | i + 1, h => by
    have := sp2_lt (show i < sp2 d m by omega)
    by_cases c : i % 2 = 0
    · simp only [xQ, if_pos c, if_neg (show ¬ i % 2 = 1 by omega), List.length_append]; omega
    · simp only [xQ, if_neg c, if_pos (show i % 2 = 1 by omega), List.length_append]; omega
theorem HS_Q {n : Int} {k : List Int} {d : Nat → List Int} {m : Nat} {a : Nat → Int} (q : Nat) (h0 : HS n k [] a) (hk : k.length ≤ 32) (hq : q < 2) : ∀ i, i ≤ sp2 d m → HS n k (xQ q d i) (aQ q a d i)
  | 0, _ => h0
  | i + 1, h => by
    have ih := HS_Q (d := d) (m := m) q h0 hk hq i (by omega)
    have hs := sp2_lt (d := d) (m := m) (i := i) (by omega)
    simp only [xQ, aQ]
    split
    · refine HS_write (HT_75 ih) hk ?_
      rcases (show q = 0 ∨ q = 1 by omega) with rfl | rfl <;> omega
    · exact ih
theorem xQ_bytes {d : Nat → List Int} {m : Nat} (hd : YB d m) (q : Nat) : ∀ i, i ≤ m → Bytes (xQ q d i)
  | 0, _ => bytes_rep 0
  | i + 1, h => by
    simp only [xQ]; split
    · exact bytes_app (xQ_bytes hd q i (by omega)) (hd i (by omega))
    · exact xQ_bytes hd q i (by omega)
theorem st2_ok {m i : Nat} {x y e : List Int} {b : Bool} (Fm : Fits .i64 (m : Int)) (hi : i < m) (hx : x.length + y.length ≤ 131072) (he : Fits .i64 (e.length : Int)) (hb : decide (131072 < x.length + y.length + e.length) = b) :
    Fits .i64 (m : Int) ∧ decide ((i : Int) < (m : Int)) = true ∧ ((0 : Int) ≤ (i : Int) ∧ (i : Int) < (m : Int)) ∧ Fits .i64 (131072 - (x.length : Int) - (y.length : Int)) ∧ Fits .i64 (y.length : Int) ∧ Fits .i64 (131072 - (x.length : Int)) ∧ Fits .i64 (x.length : Int) ∧ Fits .i64 (e.length : Int) ∧ decide (131072 - (x.length : Int) - (y.length : Int) < (e.length : Int)) = b := by
  refine ⟨Fm, decide_eq_true (by omega), ⟨by omega, by omega⟩, fits_of (by omega) (by omega), fits_of (by omega) (by omega), fits_of (by omega) (by omega), fits_of (by omega) (by omega), he, ?_⟩
  rw [← hb]
  exact decide_eq_decide.2 (by omega)
theorem subI_all (l : List Int) : subI l 0 l.length = l := by
  unfold subI; rw [List.drop_zero, List.take_of_length_le (Nat.le_refl _)]
theorem sam_ok {n : Int} {k x : List Int} {a : Nat → Int} (h : HS n k x a) (hk : k.length ≤ 32) (h1 : 1 ≤ n) (h2 : n ≤ 32) (hb : x.length ≤ 1000000000000) :
    0 + (n75 a 0).toNat ≤ (dgL (n75 a)).length ∧ 0 + (dSum n k (allL k x)).length ≤ (dSum n k (allL k x)).length ∧ (n75 a 0).toNat ≤ 140737488355328 ∧ subI (dgL (n75 a)) 0 (n75 a 0).toNat = subI (dSum n k (allL k x)) 0 (dSum n k (allL k x)).length ∧ (0 ≤ n75 a 74 ∧ n75 a 74 ≤ 64) ∧ (0 ≤ n75 a 0 ∧ n75 a 0 ≤ 32) := by
  have M := HT_75 h
  have o := HT_ok M h1 h2
  have e := HS_dg M hk (by omega) h2 hb
  have hl := dgL_len o.2
  refine ⟨by omega, by omega, by have := o.2; omega, ?_, o.1, o.2⟩
  rw [subI_all, ← e, ← hl, subI_all]
noncomputable abbrev twZ (d : Nat → List Int) (a b : Nat → Int) (i : Nat) : List Body := twB (aQ 0 a d i) (aQ 1 b d i) (xQ 0 d i) (xQ 1 d i)
theorem id2 (k l : Nat) : ∀ j : Nat, j < 2 → ([0, 1, k, l] : List Nat)[j]? = some j := fun j hj => by
  match j, hj with
  | 0, _ => rfl
  | 1, _ => rfl
theorem tmod2 (i : Nat) : (i : Int).tmod 2 = ((i % 2 : Nat) : Int) := rfl
theorem tw_round (p : Addr) {w0 : World} {O : Go.Vx.Own} (hgl : GlobOk (gA p) w0 O) (u v : Int) (k : List Int) (q : Nat → Bool) (d : Nat → List Int) (m : Nat) (a b : Nat → Int) (u1 : 1 ≤ u) (u2 : u ≤ 32) (v1 : 1 ≤ v) (v2 : v ≤ 32) (hk : k.length ≤ 32) (hkb : Bytes k) (h0 : HS u k [] a) (h1 : HS v [] [] b) (hd : YB d m) (Fm : Fits .i64 (m : Int)) (hm : m ≤ 400) (i : Nat) (hi : i < sp2 d m) :
    SimC (gA p).P w0 O 206 twBody (twS u v k q d m i) (twZ d a b i) .normal (twS u v k q d m (i + 1)) (twZ d a b (i + 1)) 2 := by
  have hle := sp2_le d m
  have hs := sp2_lt hi
  have hx := xQ_len (d := d) (m := m) i (by omega)
  have hx1 := xQ_len (d := d) (m := m) (i + 1) (by omega)
  have F1 : Fits .i64 ((i : Int) + 1) := fits_of (by omega) (by omega)
  have hb0 : Bytes [] := bytes_rep 0
  have A := HS_Q (d := d) (m := m) 0 h0 hk (by decide) i (by omega)
  have B := HS_Q (d := d) (m := m) 1 h1 (Nat.zero_le _) (by decide) i (by omega)
  have A1 := HS_Q (d := d) (m := m) 0 h0 hk (by decide) (i + 1) (by omega)
  have B1 := HS_Q (d := d) (m := m) 1 h1 (Nat.zero_le _) (by decide) (i + 1) (by omega)
  have bx := xQ_bytes hd 0 (i + 1) (by omega)
  have by' := xQ_bytes hd 1 (i + 1) (by omega)
  have oA := HT_ok (HT_75 A) u1 u2
  have oB := HT_ok (HT_75 B) v1 v2
  have hi0 : (0 : Int) ≤ (i : Int) ∧ (i : Int) < (m : Int) := ⟨by omega, by omega⟩
  obtain ⟨s1, s2, s3, s4, s5, s6, s7, s8, s9⟩ := st2_ok (m := m) (i := i) (x := xQ 0 d i) (y := xQ 1 d i) (e := d i) (b := false) Fm (by omega) hx (fits_of (by omega) (by omega)) (decide_eq_false (by omega))
  have hN := HT_ok (HT_75 (HT_new (k := k) v1 v2 hk)) v1 v2
  have hN2 : OkA (n75 (stepA (n75 (nwA v k)) [7])) := OkA.n ⟨step_held hN.1, by
    have e : stepA (n75 (nwA v k)) [7] 0 = n75 (nwA v k) 0 := by
      unfold stepA; rw [ovA_size]; split
      · exact flA_size _
      · rfl
    rw [e]; exact hN.2⟩
  by_cases c : i % 2 = 0
  · have c1 : ¬ i % 2 = 1 := by omega
    have eB : twZ d a b (i + 1) = twB (wrA (n75 (aQ 0 a d i)) (d i)) (aQ 1 b d i) (xQ 0 d i ++ d i) (xQ 1 d i) := by
      simp only [twZ, aQ, xQ, if_pos c, if_neg c1]
    simp only [xQ, aQ, if_pos c, if_neg c1] at A1 B1 hx1 bx by'
    rw [eB]
    have z1 := sam_ok A1 hk u1 u2 (by omega)
    have z2 := sam_ok B1 (Nat.zero_le _) v1 v2 (by omega)
    have t1 : decide ((i : Int).tmod 2 = 0) = true := by rw [tmod2, c]; rfl
    have t2 : decide ((i : Int) = 1) = false := decide_eq_false (by omega)
    have hl : (xQ 0 d i ++ d i).length = (xQ 0 d i).length + (d i).length := List.length_append
    cases hp : q i with
    | false =>
      refine SimC.run (B' := twB (wrA (n75 (aQ 0 a d i)) (d i)) (aQ 1 b d i) (xQ 0 d i ++ d i) (xQ 1 d i)) (gT_ok p _) (by decide) (tw_000 p u v k q d m i (aQ 0 a d i) (aQ 1 b d i) (xQ 0 d i) (xQ 1 d i)) ?_ (by decide) (id2 4 3) (by decide) (by simp) hgl
      simp only [allC_cons, allC_nil, and_true, Bool.not_true, true_and]
      exact ⟨s1, s2, s3, s4, s5, s6, s7, s8, s9, t1, oA.1, by omega, by omega, t2, u1, u2, hk, hkb, bx, by omega, v1, v2, Nat.zero_le _, hb0, by', by omega, hp, hi0, F1⟩
    | true =>
      refine SimC.run (B' := twB (wrA (n75 (aQ 0 a d i)) (d i)) (aQ 1 b d i) (xQ 0 d i ++ d i) (xQ 1 d i)) (gT_ok p _) (by decide) (tw_001 p u v k q d m i (aQ 0 a d i) (aQ 1 b d i) (xQ 0 d i) (xQ 1 d i)) ?_ (by decide) (id2 4 3) (by decide) (by simp) hgl
      simp only [allC_cons, allC_nil, and_true, Bool.not_true, true_and]
      exact ⟨s1, s2, s3, s4, s5, s6, s7, s8, s9, t1, oA.1, by omega, by omega, t2, u1, u2, hk, hkb, bx, by omega, v1, v2, Nat.zero_le _, hb0, by', by omega, z2.1, z2.2.1, z2.2.2.1, z2.2.2.2.1, z2.2.2.2.2.1, z2.2.2.2.2.2, z1.1, z1.2.1, z1.2.2.1, z1.2.2.2.1, z1.2.2.2.2.1, z1.2.2.2.2.2, hp, hi0, F1⟩
  · have c1 : i % 2 = 1 := by omega
    have eB : twZ d a b (i + 1) = twB (aQ 0 a d i) (wrA (n75 (aQ 1 b d i)) (d i)) (xQ 0 d i) (xQ 1 d i ++ d i) := by
      simp only [twZ, aQ, xQ, if_neg c, if_pos c1]
    simp only [xQ, aQ, if_neg c, if_pos c1] at A1 B1 hx1 bx by'
    rw [eB]
    have z1 := sam_ok A1 hk u1 u2 (by omega)
    have z2 := sam_ok B1 (Nat.zero_le _) v1 v2 (by omega)
    have t1 : decide ((i : Int).tmod 2 = 0) = false := by rw [tmod2, c1]; rfl
    have hl : (xQ 1 d i ++ d i).length = (xQ 1 d i).length + (d i).length := List.length_append
    by_cases ci : i = 1
    · have t2 : decide ((i : Int) = 1) = true := decide_eq_true (by omega)
      cases hp : q i with
      | false =>
        refine SimC.run (B' := twB (aQ 0 a d i) (wrA (n75 (aQ 1 b d i)) (d i)) (xQ 0 d i) (xQ 1 d i ++ d i)) (gT_ok p _) (by decide) (tw_110 p u v k q d m i (aQ 0 a d i) (aQ 1 b d i) (xQ 0 d i) (xQ 1 d i)) ?_ (by decide) (id2 2 4) (by decide) (by simp) hgl
        simp only [allC_cons, allC_nil, and_true, Bool.not_true, true_and]
        exact ⟨s1, s2, s3, s4, s5, s6, s7, s8, s9, t1, oB.1, by omega, by omega, t2, v1, v2, hk, hN.1, hN2.1, hN2.2, u1, u2, hk, hkb, bx, by omega, v1, v2, Nat.zero_le _, hb0, by', by omega, hp, hi0, F1⟩
      | true =>
        refine SimC.run (B' := twB (aQ 0 a d i) (wrA (n75 (aQ 1 b d i)) (d i)) (xQ 0 d i) (xQ 1 d i ++ d i)) (gT_ok p _) (by decide) (tw_111 p u v k q d m i (aQ 0 a d i) (aQ 1 b d i) (xQ 0 d i) (xQ 1 d i)) ?_ (by decide) (id2 2 4) (by decide) (by simp) hgl
        simp only [allC_cons, allC_nil, and_true, Bool.not_true, true_and]
        exact ⟨s1, s2, s3, s4, s5, s6, s7, s8, s9, t1, oB.1, by omega, by omega, t2, v1, v2, hk, hN.1, hN2.1, hN2.2, u1, u2, hk, hkb, bx, by omega, v1, v2, Nat.zero_le _, hb0, by', by omega, z2.1, z2.2.1, z2.2.2.1, z2.2.2.2.1, z2.2.2.2.2.1, z2.2.2.2.2.2, z1.1, z1.2.1, z1.2.2.1, z1.2.2.2.1, z1.2.2.2.2.1, z1.2.2.2.2.2, hp, hi0, F1⟩
    · have t2 : decide ((i : Int) = 1) = false := decide_eq_false (by omega)
      cases hp : q i with
      | false =>
        refine SimC.run (B' := twB (aQ 0 a d i) (wrA (n75 (aQ 1 b d i)) (d i)) (xQ 0 d i) (xQ 1 d i ++ d i)) (gT_ok p _) (by decide) (tw_100 p u v k q d m i (aQ 0 a d i) (aQ 1 b d i) (xQ 0 d i) (xQ 1 d i)) ?_ (by decide) (id2 2 4) (by decide) (by simp) hgl
        simp only [allC_cons, allC_nil, and_true, Bool.not_true, true_and]
        exact ⟨s1, s2, s3, s4, s5, s6, s7, s8, s9, t1, oB.1, by omega, by omega, t2, u1, u2, hk, hkb, bx, by omega, v1, v2, Nat.zero_le _, hb0, by', by omega, hp, hi0, F1⟩
      | true =>
        refine SimC.run (B' := twB (aQ 0 a d i) (wrA (n75 (aQ 1 b d i)) (d i)) (xQ 0 d i) (xQ 1 d i ++ d i)) (gT_ok p _) (by decide) (tw_101 p u v k q d m i (aQ 0 a d i) (aQ 1 b d i) (xQ 0 d i) (xQ 1 d i)) ?_ (by decide) (id2 2 4) (by decide) (by simp) hgl
        simp only [allC_cons, allC_nil, and_true, Bool.not_true, true_and]
        exact ⟨s1, s2, s3, s4, s5, s6, s7, s8, s9, t1, oB.1, by omega, by omega, t2, u1, u2, hk, hkb, bx, by omega, v1, v2, Nat.zero_le _, hb0, by', by omega, z2.1, z2.2.1, z2.2.2.1, z2.2.2.2.1, z2.2.2.2.2.1, z2.2.2.2.2.2, z1.1, z1.2.1, z1.2.2.1, z1.2.2.2.1, z1.2.2.2.2.1, z1.2.2.2.2.2, hp, hi0, F1⟩
end Go.Proofs.Tryd

namespace Go.Proofs.Tryd
open Go Go.Vx
/-! ### Of, without a Recorder -/
noncomputable abbrev rowL (d : Nat → List Int) : Nat → SV := fun i => .roi .u8 (d i)
def lOf (f : Nat → SV) (i : Nat) : List Int := match f i with | .roi _ l => l | _ => []
abbrev LB (d : Nat → List Int) (m : Nat) : Prop := ∀ i, i < m → (d i).length ≤ 140737488351232
noncomputable abbrev oC (f : Nat → SV) (m : Nat) : List Prop := [f = rowL (lOf f), Fits .i64 (m : Int), LB (lOf f) m]
noncomputable abbrev b32 (x : Nat → Int) : List SV := svF (List.replicate 32 .u8) x 0
abbrev ofKeep : List Nat := [0, 1, 4, 5, 7]
noncomputable abbrev ofBody : Code := bodyAt Tryd.prog 17 3
noncomputable abbrev ofO (d : Nat → List Int) (m : Nat) (i : Int) : List SV := [nilR, .ro 1 m (rowL d), .ptr 0 0, .ptr 1 0, .int .i64 i]
noncomputable abbrev ofS (d : Nat → List Int) (m i : Nat) : List (Nat × SV) := ofKeep.zip (ofO d m (i : Int))
noncomputable abbrev ofB (z a : Nat → Int) : List Body := [.cells (b32 z), dgV nilR a]
theorem of_go (d : Nat → List Int) (m i : Nat) (z a : Nat → Int) : runC g5 300 35 [.br true] ofBody (ofS d m i) (ofB z a) ofKeep [0, 1] =
    some (.normal, ofO d m ((i : Int) + 1), (ofB z (wrA (n75 a) (d i))).map some, [Fits .i64 (m : Int), decide ((i : Int) < (m : Int)) = true, 0 ≤ n75 a 74 ∧ n75 a 74 ≤ 64, (d i).length ≤ 140737488355328, (0 : Int) ≤ (i : Int) ∧ (i : Int) < (m : Int), Fits .i64 ((i : Int) + 1)]) :=
  r3_parts4 (by kernel_rfl) (by kernel_rfl) (by kernel_rfl) (by kernel_rfl)
theorem of_end (d : Nat → List Int) (m i : Nat) (z a : Nat → Int) : runC g5 300 35 [.br false] ofBody (ofS d m i) (ofB z a) ofKeep [0, 1] =
    some (.exit 0, ofO d m (i : Int), (ofB z a).map some, [Fits .i64 (m : Int), decide ((i : Int) < (m : Int)) = false]) :=
  r3_parts4 (by kernel_rfl) (by kernel_rfl) (by kernel_rfl) (by kernel_rfl)
noncomputable def ofG : LoopF := fun vals B => match vals, B with
  | [.raw (.pointer none), .ro 1 m f, .ptr 0 0, .ptr 1 0, .int .i64 0], [.cells zs, .cells ms] => match numsAs (List.replicate 32 .u8) zs, dgAs ms, headK (ms.take 1) with
    | some lz, some la, .nil => some ([(4, .ptr 0 0), (5, .ptr 1 0)], ofB (atL lz) (aZ (atL la) (lOf f) m), oC f m ++ [OkA (atL la)])
    | _, _, _ => none
  | _, _ => none
theorem of_loop : LoopGood g5 35 (.loop ofBody) ofKeep 2 (.exit 0) (mkLoopN ofG) := by
  refine LoopGood.mkN (by decide) fun vals B S' B' C hG hC hlen w0 O hgl => ?_
  clear hlen
  unfold ofG at hG
  split at hG
  · rename_i m f zs ms
    split at hG
    · rename_i lz la hz ha hr
      have hr := head_nil hr
      simp only [Option.some.injEq, Prod.mk.injEq] at hG
      obtain ⟨rfl, rfl, rfl⟩ := hG
      simp only [oC, allC_append, allC_cons, allC_nil, and_true] at hC
      obtain ⟨⟨hf, Fm, hl⟩, h0⟩ := hC
      generalize lOf f = d at *
      rw [hf]
      clear hf
      have hm : (m : Int) ≤ 9223372036854775807 := Fm.2
      refine SimC.preI (B1 := ofB (atL lz) (atL la)) ?_ ⟨cells_nums hz, cells_dg ha hr rfl, trivial⟩
      show SimC _ _ _ _ _ (ofS d m 0) (ofB (atL lz) (aZ (atL la) d 0)) _ _ _ _
      refine SimC.iter (g := g5) (e := .exit 0) (S := fun i => ofS d m i) (B := fun i => ofB (atL lz) (aZ (atL la) d i)) (N := m) (fun i hi => ?_) ?_ (by simp) 0 (by omega)
      · have hli := hl i hi
        refine SimC.run (B' := ofB (atL lz) (aZ (atL la) d (i + 1))) g5_ok (by decide) (of_go d m i _ _) ?_ (by decide) i2 (by decide) (by simp) hgl
        simp only [allC_cons, allC_nil, and_true]
        exact ⟨Fm, decide_eq_true (by omega), ((h0.aZ d i).n).1, by omega, ⟨by omega, by omega⟩, fits_of (by omega) (by omega)⟩
      · exact SimC.weaken (SimC.run (B' := ofB (atL lz) (aZ (atL la) d m)) g5_ok (by decide) (of_end d m m _ _) (by simp only [allC_cons, allC_nil, and_true]; exact ⟨Fm, decide_eq_false (by omega)⟩) (by decide) i2 (by decide) (by simp) hgl) (sub_mkT (by simp; exact ⟨rfl, rfl⟩))
    · simp at hG
  · simp at hG
noncomputable abbrev ofN (d : Nat → List Int) (m : Nat) : Nat → Int := n75 (aZ (n75 (nwA 32 [])) d m)
/-- a list of at most 32 bytes in the place of noughts -/
def cp32 (L : List Int) (n : Nat) (j : Nat) : Int := if 0 ≤ j ∧ j < 0 + ((((L.drop (0 + 0)).take n)).take (32 - 0)).length then ((((L.drop (0 + 0)).take n)).take (32 - 0)).getD (j - 0) 0 else 0
noncomputable abbrev of1A (x : List Int) : Nat → Int := n75 (wrA (n75 (nwA 32 [])) x)
abbrev ofE (a : Nat → Int) : List Prop := [Fits .i64 ((min ((((dgL a).drop (0 + 0)).take (a 0).toNat)).length (32 - 0) : Nat) : Int), 0 + ((((dgL a).drop (0 + 0)).take (a 0).toNat).take (32 - 0)).length ≤ 32, 0 + 0 + (a 0).toNat ≤ (dgL a).length, 0 ≤ a 74 ∧ a 74 ≤ 64, 0 ≤ a 0 ∧ a 0 ≤ 32]
theorem of_run (d : Nat → List Int) (m : Nat) : runF g5 900 [.loop 3 ofKeep 2 (.exit 0) (mkLoopN ofG)] 17 [nilR, .ro 1 m (rowL d)] [] [] =
    some (.agg (b32 (cp32 (dgL (ofN d m)) (ofN d m 0).toNat)), [], [(1 : Int) ≤ 32, (32 : Int) ≤ 32, LoopGood g5 35 (.loop ofBody) ofKeep 2 (.exit 0) (mkLoopN ofG), rowL d = rowL (lOf (rowL d)), Fits .i64 (m : Int), LB d m, OkA (n75 (nwA 32 []))] ++ ofE (ofN d m)) :=
  run_parts (by kernel_rfl) (by kernel_rfl) (by kernel_rfl)
theorem of1_run (x : List Int) : runF g5 900 [.br true, .fix 0, .br false] 17 [nilR, .sl 0 1 0 1 0 1 true] [.cells [.roi .u8 x]] [] =
    some (.agg (b32 (cp32 (dgL (of1A x)) (of1A x 0).toNat)), [some (.cells [.roi .u8 x])], [(1 : Int) ≤ 32, (32 : Int) ≤ 32, true = true, 0 ≤ n75 (nwA 32 []) 74 ∧ n75 (nwA 32 []) 74 ≤ 64, x.length ≤ 140737488355328, (0 : Int) = 0, false = false] ++ ofE (of1A x)) :=
  run_parts (by kernel_rfl) (by kernel_rfl) (by kernel_rfl)
theorem HS_Z {n : Int} {k : List Int} {d : Nat → List Int} {m : Nat} {a : Nat → Int} (h0 : HS n k [] a) (hk : k.length ≤ 32) (hb : (xZ d m).length ≤ 1000000000) : ∀ i, i ≤ m → HS n k (xZ d i) (aZ a d i)
  | 0, _ => h0
  | i + 1, h => by
    have ih := HS_Z h0 hk hb i (by omega)
    have mono : ∀ j, i + 1 ≤ j → (xZ d (i + 1)).length ≤ (xZ d j).length := fun j hj => by
      induction j with
      | zero => omega
      | succ j ihj =>
        by_cases c : i + 1 = j + 1
        · rw [c]; exact Nat.le_refl _
        · have := ihj (by omega)
          have e : (xZ d (j + 1)).length = (xZ d j).length + (d j).length := by simp [xZ]
          omega
    have hm := mono m h
    have e : (xZ d (i + 1)).length = (xZ d i).length + (d i).length := by simp [xZ]
    exact HS_write (HT_75 ih) hk (by omega)
/-- the digest of 32 bytes, without a key -/
noncomputable abbrev D32 (x : List Int) : List Int := dSum 32 [] (allL [] x)
theorem D32_len (x : List Int) : (D32 x).length = 32 := listF_length _ _ _
theorem cp32_at {L : List Int} (h : L.length = 32) (j : Nat) (hj : j < 32) : cp32 L 32 j = atL L j := by
  unfold cp32
  have e : (((L.drop (0 + 0)).take 32)).take (32 - 0) = L := by
    rw [List.drop_zero, List.take_of_length_le (by rw [List.length_take]; omega), List.take_of_length_le (by omega)]
  rw [e, if_pos ⟨Nat.zero_le _, by omega⟩]; rfl
theorem ofE_ok {a : Nat → Int} (h : OkA a) : AllC (ofE a) := by
  have hl := dgL_len h.2
  have h0 := h.2
  have hh : ((((dgL a).drop (0 + 0)).take (a 0).toNat)).length = (a 0).toNat := by rw [List.drop_zero, List.length_take]; omega
  simp only [ofE, allC_cons, allC_nil, and_true]
  refine ⟨?_, ?_, by omega, h.1, h.2⟩
  · rw [hh]; exact fits_of (by omega) (by omega)
  · rw [List.length_take, hh]; omega
theorem new32 : HS 32 [] [] (n75 (nwA 32 [])) := HT_75 (HT_new (by decide) (by decide) (Nat.zero_le _))
theorem ok32 : OkA (n75 (nwA 32 [])) := HT_ok new32 (by decide) (by decide)
theorem of_val {x : List Int} {a : Nat → Int} (h : HS 32 [] x a) (hb : x.length ≤ 1000000000) : b32 (cp32 (dgL (n75 a)) (n75 a 0).toNat) = b32 (atL (D32 x)) := svF_congr _ 0 fun j hj => by
  have M := HT_75 h
  rw [Nat.zero_add]
  have e := HS_dg M (Nat.zero_le _) (by decide) (by decide) (by omega)
  have es : (n75 a 0).toNat = 32 := by rw [M.size]; rfl
  rw [es, e]
  exact cp32_at (D32_len x) j (by simpa using hj)
noncomputable def F17 : SumF := fun args B => match args, B with
  | [.raw (.pointer none), .ro 1 m f], [] => some { val := .agg (b32 (atL (D32 (xZ (lOf f) m)))), C := oC f m ++ [(xZ (lOf f) m).length ≤ 1000000000] }
  | _, _ => none
theorem acc17 : Acc g5 17 F17 := by
  intro args B out h hC
  unfold F17 at h
  split at h
  · rename_i m f
    simp only [Option.some.injEq] at h; subst h
    simp only [oC, allC_append, allC_cons, allC_nil, and_true] at hC
    obtain ⟨⟨hf, Fm, hl⟩, hb⟩ := hC
    generalize lOf f = d at *
    have hL := of_loop
    refine FnOk.imp (args' := [nilR, .ro 1 m (rowL d)]) ?_ ⟨DenImp.refl _, by rw [hf]; exact DenImp.refl _, trivial⟩
    have M := HS_Z (m := m) new32 (Nat.zero_le _) hb m (Nat.le_refl _)
    have o := HT_ok (HT_75 M) (by decide) (by decide)
    have hr := of_run d m
    rw [of_val M hb] at hr
    refine FnOk.val (FnOk.pure g5_ok hr (allC_append.2 ⟨?_, ofE_ok o⟩)) (fun _ _ _ _ h => h)
    simp only [allC_cons, allC_nil, and_true]
    exact ⟨by decide, by decide, hL, rfl, Fm, hl, ok32⟩
  · simp at h
noncomputable def F17s : SumF := fun args B => match args, B with
  | [.raw (.pointer none), .sl 0 1 0 1 0 1 true], [.cells [.roi K x]] => match sameK K .u8 with
    | true => some { val := .agg (b32 (atL (D32 x))), upd := [(0, some (.cells [.roi .u8 x]))], C := [x.length ≤ 1000000000] }
    | false => none
  | _, _ => none
theorem acc17s : Acc g5 17 F17s := by
  intro args B out h hC
  unfold F17s at h
  split at h
  · rename_i K x
    split at h
    · rename_i hK
      obtain rfl := kidx_inj hK
      simp only [Option.some.injEq] at h; subst h
      simp only [allC_cons, allC_nil, and_true] at hC
      have M : HS 32 [] x (wrA (n75 (nwA 32 [])) x) := HS_write new32 (Nat.zero_le _) (by show 0 + x.length ≤ _; omega)
      have o := HT_ok (HT_75 M) (by decide) (by decide)
      have hr := of1_run x
      rw [of_val M hC] at hr
      refine FnOk.val (FnOk.run (out := { val := .agg (b32 (atL (D32 x))), upd := [(0, some (.cells [.roi .u8 x]))] }) (new := []) g5_ok hr (allC_append.2 ⟨?_, ofE_ok o⟩) (by simp [upto]) rfl (by simp) (by simp) (fun j hj => by
        match j, hj with
        | 0, _ => rfl)) (fun _ _ _ _ h => h)
      simp only [allC_cons, allC_nil, and_true, true_and]
      exact ⟨by decide, by decide, ok32.1, by omega⟩
    · simp at h
  · simp at h
/-- two rows of bytes that are one, the other one an array's beginning -/
def F16c : SumF := fun args B => match args, B with
  | [x, .sl 1 _ ob 1 0 nb _], [.ints K la, .cells cs] => match sameK K .u8, numsAs (List.replicate cs.length .u8) cs, vwI 0 la x with
    | true, some lb, some (oa, na) => some { val := .sbool true, upd := [(1, some (.cells (svF (List.replicate lb.length .u8) (atL lb) 0)))], C := [oa + na ≤ la.length, ob + nb ≤ lb.length, na ≤ 140737488355328, subI la oa na = subI lb ob nb] }
    | _, _, _ => none
  | _, _ => none
theorem acc16c : Acc g1 16 F16c := by
  intro args B out h hC
  unfold F16c at h
  split at h
  · rename_i x m ob nb kn K la cs
    split at h
    · rename_i lb oa na hK hl hx
      obtain rfl := kidx_inj hK
      simp only [Option.some.injEq] at h; subst h
      refine FnOk.asInts (i := 1) (out := { val := .sbool true, C := [oa + na ≤ la.length, ob + nb ≤ lb.length, na ≤ 140737488355328, subI la oa na = subI lb ob nb] }) rfl hl (acc16 _ _ _ ?_ hC) rfl rfl rfl (fun j => ?_)
      · show F16 [x, .sl 1 m ob 1 0 nb kn] [.ints .u8 la, .ints .u8 lb] = _
        simp only [F16, hx, show vwI 1 lb (.sl 1 m ob 1 0 nb kn) = some (ob, nb) from rfl, show sameK IntKind.u8 IntKind.u8 = true from rfl]
      · match j with
        | 0 => rfl
        | 1 => rfl
        | j + 2 => rfl
    · simp at h
  · simp at h
noncomputable abbrev gz (p : Addr) : Ctx := (gA p).add [(17, roW (oneOf F17 F17s)), (16, oneOf F16 F16c)]
theorem gz_ok (p : Addr) : CtxU (gz p) := (gT_ok p _).add mixed noGo (by
  intro x hx
  simp only [List.mem_cons, List.not_mem_nil, or_false] at hx
  rcases hx with rfl | rfl
  · exact Acc.of (g := g5.gl (eV p)) rfl rfl (Acc.gl (fun _ => rfl) (acc_roW (acc_one acc17 acc17s)))
  · exact Acc.of (g := g1.gl (eV p)) rfl rfl (Acc.gl (fun _ => rfl) (acc_one acc16 acc16c)))
end Go.Proofs.Tryd

namespace Go.Proofs.Tryd
open Go Go.Vx
/-! ### DigestCuts: a round -/
noncomputable abbrev cuC : Code := match Tryd.f5.body with | some c => c | none => .skip
abbrev cuKeep : List Nat := [0, 1, 5, 6, 8, 9, 10]
noncomputable abbrev cuBody : Code := bodyAt Tryd.prog 5 10
noncomputable abbrev cuO (x cs : List Int) (p i : Int) : List SV := [.roi .u8 x, .roi .i64 cs, .ptr 0 0, .ptr 1 0, .own 2, .int .i64 p, .int .i64 i]
noncomputable abbrev cuS (x cs : List Int) (p i : Nat) : List (Nat × SV) := cuKeep.zip (cuO x cs (p : Int) (i : Int))
noncomputable abbrev cuB (t a : Nat → Int) (P : List (List Int)) : List Body := [.cells (b32 t), dgV nilR a, .lists 0 .u8 P]
abbrev cuV (cs : List Int) (i : Nat) : Int := cs.getD (i : Int).toNat 0
abbrev cuP (x : List Int) (p : Nat) (c : Int) : List Int := (x.drop (p : Int).toNat).take (((p : Int) + c).toNat - (p : Int).toNat)
abbrev cuI (cs : List Int) (i : Nat) : Prop := 0 ≤ (i : Int) ∧ (i : Int) < (cs.length : Int)
abbrev cuL (x : List Int) (p : Nat) (c : Int) : Prop := 0 ≤ (p : Int) ∧ (p : Int) ≤ (p : Int) + c ∧ (p : Int) + c ≤ (x.length : Int)
theorem cu_w (p' : Addr) (x cs : List Int) (t a : Nat → Int) (p i : Nat) (P : List (List Int)) : runC (gz p') 900 139 [.br true, .br true, .br false, .br false] cuBody (cuS x cs p i) (cuB t a P) cuKeep [0, 1, 4] = some (.normal, cuO x cs ((p : Int) + cuV cs i) ((i : Int) + 1), (cuB t (wrA (n75 a) (cuP x p (cuV cs i))) (P ++ [cuP x p (cuV cs i)])).map some, [decide ((i : Int) < (cs.length : Int)) = true, Fits .i64 (cs.length : Int), decide ((i : Int) < 400) = true, Fits .i64 ((x.length : Int) - (p : Int)), Fits .i64 (x.length : Int), cuI cs i, decide (cuV cs i < 0) = false, cuI cs i, decide ((x.length : Int) - (p : Int) < cuV cs i) = false, (P ++ [cuP x p (cuV cs i)]).length * 24 ≤ 2 ^ 47, (0 : Nat) = 0, cuL x p (cuV cs i), Fits .i64 ((p : Int) + cuV cs i), cuI cs i, 0 ≤ n75 a 74 ∧ n75 a 74 ≤ 64, (cuP x p (cuV cs i)).length ≤ 140737488355328, cuL x p (cuV cs i), Fits .i64 ((p : Int) + cuV cs i), cuI cs i, 0 ≤ n75 (wrA (n75 a) (cuP x p (cuV cs i))) 74 ∧ n75 (wrA (n75 a) (cuP x p (cuV cs i))) 74 ≤ 64, 0 ≤ n75 (wrA (n75 a) (cuP x p (cuV cs i))) 0 ∧ n75 (wrA (n75 a) (cuP x p (cuV cs i))) 0 ≤ 32, Fits .i64 ((p : Int) + cuV cs i), cuI cs i, Fits .i64 ((i : Int) + 1)]) := r3_parts4 (by kernel_rfl) (by kernel_rfl) (by kernel_rfl) (by kernel_rfl)
theorem cu_n (p' : Addr) (x cs : List Int) (t a : Nat → Int) (p i : Nat) (P : List (List Int)) : runC (gz p') 900 139 [.br true, .br true, .br true] cuBody (cuS x cs p i) (cuB t a P) cuKeep [0, 1, 2] = some (.normal, cuO x cs (p : Int) ((i : Int) + 1), (cuB t a P).map some, [decide ((i : Int) < (cs.length : Int)) = true, Fits .i64 (cs.length : Int), decide ((i : Int) < 400) = true, decide (cuV cs i < 0) = true, cuI cs i, Fits .i64 ((i : Int) + 1)]) := r3_parts4 (by kernel_rfl) (by kernel_rfl) (by kernel_rfl) (by kernel_rfl)
theorem cu_b (p' : Addr) (x cs : List Int) (t a : Nat → Int) (p i : Nat) (P : List (List Int)) : runC (gz p') 900 139 [.br true, .br true, .br false, .br true] cuBody (cuS x cs p i) (cuB t a P) cuKeep [0, 1, 2] = some (.normal, cuO x cs (p : Int) ((i : Int) + 1), (cuB t a P).map some, [decide ((i : Int) < (cs.length : Int)) = true, Fits .i64 (cs.length : Int), decide ((i : Int) < 400) = true, Fits .i64 ((x.length : Int) - (p : Int)), Fits .i64 (x.length : Int), cuI cs i, decide (cuV cs i < 0) = false, cuI cs i, decide ((x.length : Int) - (p : Int) < cuV cs i) = true, Fits .i64 ((i : Int) + 1)]) := r3_parts4 (by kernel_rfl) (by kernel_rfl) (by kernel_rfl) (by kernel_rfl)
theorem cu_e (p' : Addr) (x cs : List Int) (t a : Nat → Int) (p i : Nat) (P : List (List Int)) : runC (gz p') 900 139 [.br false] cuBody (cuS x cs p i) (cuB t a P) cuKeep [0, 1, 2] = some (.exit 0, cuO x cs (p : Int) (i : Int), (cuB t a P).map some, [decide ((i : Int) < (cs.length : Int)) = false, Fits .i64 (cs.length : Int)]) := r3_parts4 (by kernel_rfl) (by kernel_rfl) (by kernel_rfl) (by kernel_rfl)
theorem cu_m (p' : Addr) (x cs : List Int) (t a : Nat → Int) (p i : Nat) (P : List (List Int)) : runC (gz p') 900 139 [.br true, .br false] cuBody (cuS x cs p i) (cuB t a P) cuKeep [0, 1, 2] = some (.exit 0, cuO x cs (p : Int) (i : Int), (cuB t a P).map some, [decide ((i : Int) < (cs.length : Int)) = true, Fits .i64 (cs.length : Int), decide ((i : Int) < 400) = false]) := r3_parts4 (by kernel_rfl) (by kernel_rfl) (by kernel_rfl) (by kernel_rfl)
/-! ### DigestCuts: what lies ahead of the loop -/
abbrev preKeep : List Nat := [0, 1, 5, 6, 8, 9]
end Go.Proofs.Tryd
