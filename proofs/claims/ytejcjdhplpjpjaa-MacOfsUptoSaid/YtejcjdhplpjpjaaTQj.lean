/- Accounts of this seat's functions: lemmas, no statement of their own. No conditions. -/
import Derived.Test.YtejcjdhplpjpjaaTQd
namespace Go.Proofs.Ytejcjdhplpjpjaa
open Go Go.Vx
/-! ### what a Mac holds -/
theorem Is.cong {x : List Int} {n m : Int} (h : Is x n) (e : n % P5 = m % P5) : Is x m := ⟨h.1, h.2.trans e⟩
/-- the block numbered i of a message, with its mark -/
def fbN (X : List Int) (i j : Nat) : Int := if 16 * i + j < X.length ∧ j < 16 then X.getD (16 * i + j) 0 else if j = min 16 (X.length - 16 * i) then 1 else 0
/-- the document's sum behind so many blocks -/
def dS (T : Int) (X : List Int) : Nat → Int
  | 0 => 0
  | i + 1 => (dS T X i + leN 17 (fbN X i) 0 % P5) % P5 * T % P5
theorem dS_step (T : Int) (X : List Int) (i : Nat) : (dS T X i + leN 17 (fbN X i) 0) * T % P5 = dS T X (i + 1) % P5 := by
  simp only [dS]
  rw [Int.emod_emod_of_dvd _ (Int.dvd_refl P5), Int.mul_emod, Int.add_emod, ← Int.add_emod, Int.mul_emod ((dS T X i + leN 17 (fbN X i) 0 % P5) % P5), Int.emod_emod_of_dvd _ (Int.dvd_refl P5), Int.add_emod_emod]
abbrev Bytes (l : List Int) : Prop := ∀ j, Byte (l.getD j 0)
theorem fbN_byte {X : List Int} (h : Bytes X) (i j : Nat) : Byte (fbN X i j) := by
  unfold fbN
  split
  · exact h _
  · split <;> exact ⟨by decide, by decide⟩
structure MS (T : Int) (mk : Nat → Int) (X : List Int) (a : Nat → Int) : Prop where
  by' : Is (byL a) T
  sm : Is (smL a) (dS T X (X.length / 16))
  mk' : ∀ j, j < 16 → a (10 + j) = mk j
  blk : ∀ j, j < 16 → a (26 + j) = if j < X.length % 16 then X.getD (16 * (X.length / 16) + j) 0 else 0
  held : a 42 = ((X.length % 16 : Nat) : Int)
  bytes : Bytes X
theorem dS_app (T : Int) (X l : List Int) : ∀ i, 16 * i ≤ X.length → dS T (X ++ l) i = dS T X i
  | 0, _ => rfl
  | i + 1, h => by
    have e : leN 17 (fbN (X ++ l) i) 0 = leN 17 (fbN X i) 0 := leN_congr 17 0 fun j hj => by
      rw [Nat.zero_add]
      unfold fbN
      rw [List.length_append]
      by_cases hj16 : j < 16
      · rw [if_pos ⟨by omega, hj16⟩, if_pos ⟨by omega, hj16⟩, List.getD_eq_getElem?_getD, List.getElem?_append_left (by omega), ← List.getD_eq_getElem?_getD]
      · have c1 : ¬ (16 * i + j < X.length + l.length ∧ j < 16) := by omega
        have c2 : ¬ (16 * i + j < X.length ∧ j < 16) := by omega
        have c3 : j = min 16 (X.length + l.length - 16 * i) := by omega
        have c4 : j = min 16 (X.length - 16 * i) := by omega
        rw [if_neg c1, if_pos c3, if_neg c2, if_pos c4]
    simp only [dS]
    rw [dS_app T X l i (by omega), e]
theorem n43_at {a : Nat → Int} {j : Nat} (h : j < 43) : n43 a j = a j := atLF h
theorem byL_43 (a : Nat → Int) : byL (n43 a) = byL a := listF_eq0.2 fun j hj => n43_at (by omega)
theorem smL_43 (a : Nat → Int) : smL (n43 a) = smL a := listF_eq0.2 fun j hj => n43_at (by omega)
theorem setS_in {v a : Nat → Int} {j : Nat} (h : j < 5) : setS v a (5 + j) = v j := by
  unfold setS
  rw [show (Nat.ble 5 (5 + j)).and (Nat.blt (5 + j) 10) = true by
    rw [Nat.ble_eq_true_of_le (by omega), show Nat.blt (5 + j) 10 = true from Nat.ble_eq_true_of_le (by omega)]; rfl, show 5 + j - 5 = j by omega]
  rfl
theorem setS_out {v a : Nat → Int} {j : Nat} (h : j < 5 ∨ 10 ≤ j) : setS v a j = a j := by
  unfold setS
  have : (Nat.ble 5 j).and (Nat.blt j 10) = false := by
    rcases h with h | h
    · have : Nat.ble 5 j = false := by
        cases e : Nat.ble 5 j with
        | false => rfl
        | true => have := Nat.le_of_ble_eq_true e; omega
      rw [this]; rfl
    · have : Nat.blt j 10 = false := by
        cases e : Nat.blt j 10 with
        | false => rfl
        | true => have : j + 1 ≤ 10 := Nat.le_of_ble_eq_true e; omega
      rw [this]; cases Nat.ble 5 j <;> rfl
  rw [this]; rfl
/-- one block more -/
theorem plus_is {T : Int} {X : List Int} {by' sm b : List Int} {i : Nat} (hby : Is by' T) (hsm : Is sm (dS T X i)) (hX : Bytes X) (hb : ∀ j, j < 17 → b.getD j 0 = fbN X i j) : Is (L5 (plusN by' sm b)) (dS T X (i + 1)) := by
  have hbk : Is (L5 (blockN b)) (leN 17 (atL b) 0) := is_block fun j hj => by
    show Byte (b.getD j 0)
    rw [hb j hj]; exact fbN_byte hX i j
  have e : leN 17 (atL b) 0 = leN 17 (fbN X i) 0 := leN_congr 17 0 fun j hj => by rw [Nat.zero_add]; exact hb j hj
  have := is_mul (is_add hsm hbk) hby
  refine Is.cong this ?_
  rw [e, dS_step]
theorem full_at {X : List Int} {i : Nat} (h : 16 * (i + 1) ≤ X.length) : ∀ j, j < 17 → (((X.drop (16 * i)).take 16) ++ [1]).getD j 0 = fbN X i j := fun j hj => by
  have hl : ((X.drop (16 * i)).take 16).length = 16 := by rw [List.length_take, List.length_drop]; omega
  unfold fbN
  by_cases hj16 : j < 16
  · rw [if_pos ⟨by omega, hj16⟩, List.getD_eq_getElem?_getD, List.getElem?_append_left (by omega), List.getElem?_take, if_pos hj16, List.getElem?_drop, ← List.getD_eq_getElem?_getD]
  · rw [if_neg (by omega), if_pos (by omega), List.getD_eq_getElem?_getD, List.getElem?_append_right (by omega), hl, show j - 16 = 0 by omega]; rfl
theorem tk_is {T : Int} {X : List Int} {a : Nat → Int} {i : Nat} (hby : Is (byL a) T) (hsm : Is (smL a) (dS T X i)) (hX : Bytes X) {b : List Int} (hb : ∀ j, j < 17 → (b ++ [1]).getD j 0 = fbN X i j) :
    Is (smL (tkA a b)) (dS T X (i + 1)) ∧ ∀ j, j < 43 → (j < 5 ∨ 10 ≤ j) → tkA a b j = a j := by
  refine ⟨?_, fun j h1 h2 => by rw [tkA, setS_out h2, n43_at h1]⟩
  have e : smL (tkA a b) = L5 (plusN (byL (n43 a)) (smL (n43 a)) (b ++ [1])) := listF_eq0.2 fun j hj => setS_in hj
  rw [e, byL_43, smL_43]
  exact plus_is hby hsm hX hb
theorem byL_of {a a' : Nat → Int} (h : ∀ j, j < 43 → (j < 5 ∨ 10 ≤ j) → a' j = a j) : byL a' = byL a := listF_eq0.2 fun j hj => h j (by omega) (.inl hj)
/-- whole blocks -/
theorem lp_is {T : Int} {X l : List Int} {a : Nat → Int} {i0 : Nat} (hby : Is (byL a) T) (hsm : Is (smL a) (dS T X i0)) (hX : Bytes X) (hl : l = X.drop (16 * i0)) (h0 : 16 * i0 ≤ X.length) : ∀ n, n ≤ l.length / 16 →
    Is (smL (lpA a l n)) (dS T X (i0 + n)) ∧ ∀ j, j < 43 → (j < 5 ∨ 10 ≤ j) → lpA a l n j = a j
  | 0, _ => ⟨hsm, fun _ _ _ => rfl⟩
  | n + 1, hn => by
    obtain ⟨i1, i2⟩ := lp_is hby hsm hX hl h0 n (by omega)
    have hll : l.length = X.length - 16 * i0 := by rw [hl, List.length_drop]
    have hb : ∀ j, j < 17 → (((l.drop (16 * n)).take 16) ++ [1]).getD j 0 = fbN X (i0 + n) j := by
      rw [hl, List.drop_drop, show 16 * i0 + 16 * n = 16 * (i0 + n) by omega]
      exact full_at (by omega)
    obtain ⟨t1, t2⟩ := tk_is (a := lpA a l n) (by rw [byL_of i2]; exact hby) i1 hX hb
    exact ⟨t1, fun j h1 h2 => by rw [show lpA a l (n + 1) = tkA (lpA a l n) ((l.drop (16 * n)).take 16) from rfl, t2 j h1 h2, i2 j h1 h2]⟩
theorem bytes_app {X l : List Int} (h : Bytes X) (h2 : Bytes l) : Bytes (X ++ l) := fun j => by
  by_cases hj : j < X.length
  · rw [List.getD_eq_getElem?_getD, List.getElem?_append_left hj, ← List.getD_eq_getElem?_getD]; exact h j
  · rw [List.getD_eq_getElem?_getD, List.getElem?_append_right (by omega), ← List.getD_eq_getElem?_getD]; exact h2 _
theorem and_true' {x y : Bool} (h : x = true) (h2 : y = true) : x.and y = true := by rw [h, h2]; rfl
theorem tlA_blk {a : Nat → Int} {p : List Int} {j : Nat} (hj : j < 16) (hp : p.length ≤ 16) : tlA a p (26 + j) = if j < p.length then p.getD j 0 else a (26 + j) := by
  unfold tlA
  rw [and_true' (Nat.ble_eq_true_of_le (by omega)) (show Nat.blt (26 + j) 42 = true from Nat.ble_eq_true_of_le (by omega)), show 26 + j - 26 = j by omega]
  have e : p.take 16 = p := List.take_of_length_le hp
  rw [e, Nat.sub_zero]
  simp only [cond_true]
  by_cases h : j < p.length
  · rw [if_pos ⟨Nat.zero_le _, by omega⟩, if_pos h]
  · rw [if_neg (by omega), if_neg h]
theorem bl_false {m n : Nat} (h : ¬ m < n) : Nat.blt m n = false := by
  cases e : Nat.blt m n with
  | false => rfl
  | true => have : m + 1 ≤ n := Nat.le_of_ble_eq_true e; omega
theorem ble_false {m n : Nat} (h : ¬ m ≤ n) : Nat.ble m n = false := by
  cases e : Nat.ble m n with
  | false => rfl
  | true => have := Nat.le_of_ble_eq_true e; omega
theorem tlA_lo {a : Nat → Int} {p : List Int} {j : Nat} (hj : j < 26) : tlA a p j = a j := by
  unfold tlA
  rw [ble_false (show ¬ 26 ≤ j by omega), show Nat.beq j 42 = false from by cases e : Nat.beq j 42 with | false => rfl | true => have := Nat.eq_of_beq_eq_true e; omega]
  rfl
theorem tlA_held {a : Nat → Int} {p : List Int} (hp : p.length ≤ 16) : tlA a p 42 = (p.length : Int) := by
  show ((min p.length 16 : Nat) : Int) = _
  rw [Nat.min_eq_left hp]
theorem rs_len (l : List Int) : (rsL l).length = l.length % 16 := by rw [rsL, List.length_drop]; omega
theorem rs_get (l : List Int) (j : Nat) : (rsL l).getD j 0 = l.getD (16 * (l.length / 16) + j) 0 := by
  rw [rsL, List.getD_eq_getElem?_getD, List.getElem?_drop, ← List.getD_eq_getElem?_getD]
/-- behind the blocks, and what is left -/
theorem MS_rest {T : Int} {mk : Nat → Int} {X l : List Int} {a : Nat → Int} {i0 : Nat} (hby : Is (byL a) T) (hsm : Is (smL a) (dS T X i0)) (hmk : ∀ j, j < 16 → a (10 + j) = mk j) (hbl : ∀ j, j < 16 → a (26 + j) = 0) (hh : a 42 = 0) (hX : Bytes X)
    (hl : l = X.drop (16 * i0)) (h0 : 16 * i0 ≤ X.length) : MS T mk X (if 0 < (rsL l).length then tlE a l else lpE a l) := by
  have hll : l.length = X.length - 16 * i0 := by rw [hl, List.length_drop]
  have ed : X.length / 16 = i0 + l.length / 16 := by omega
  have em : X.length % 16 = l.length % 16 := by omega
  have hg : ∀ j, l.getD (16 * (l.length / 16) + j) 0 = X.getD (16 * (X.length / 16) + j) 0 := fun j => by
    rw [hl, List.getD_eq_getElem?_getD, List.getElem?_drop, ← List.getD_eq_getElem?_getD, ← hl]
    congr 1; omega
  obtain ⟨i1, i2⟩ := lp_is (a := n43 a) (l := l) (by rw [byL_43]; exact hby) (by rw [smL_43]; exact hsm) hX hl h0 (l.length / 16) (Nat.le_refl _)
  have e43 : ∀ j, j < 43 → (j < 5 ∨ 10 ≤ j) → lpE a l j = a j := fun j h1 h2 => by rw [lpE, i2 j h1 h2, n43_at h1]
  have B : Is (byL (lpE a l)) T := by rw [byL_of e43]; exact hby
  have S : Is (smL (lpE a l)) (dS T X (X.length / 16)) := by rw [ed]; exact i1
  have rl := rs_len l
  by_cases hr : 0 < (rsL l).length
  · rw [if_pos hr]
    refine ⟨?_, ?_, fun j hj => ?_, fun j hj => ?_, ?_, hX⟩
    · rw [show byL (tlE a l) = byL (lpE a l) from listF_eq0.2 fun j hj => tlA_lo (by omega)]; exact B
    · rw [show smL (tlE a l) = smL (lpE a l) from listF_eq0.2 fun j hj => tlA_lo (by omega)]; exact S
    · rw [tlE, tlA_lo (by omega), e43 _ (by omega) (by omega)]; exact hmk j hj
    · rw [tlE, tlA_blk hj (by omega), rl, em, rs_get, hg, e43 _ (by omega) (by omega), hbl j hj]
    · rw [tlE, tlA_held (by omega), rl, em]
  · rw [if_neg hr]
    have hm : X.length % 16 = 0 := by omega
    refine ⟨B, S, fun j hj => by rw [e43 _ (by omega) (by omega)]; exact hmk j hj, fun j hj => ?_, ?_, hX⟩
    · rw [e43 _ (by omega) (by omega), hbl j hj, hm, if_neg (by omega)]
    · rw [e43 42 (by omega) (by omega), hh, hm]; rfl
theorem ov_lo {a : Nat → Int} {l : List Int} {j : Nat} (hj : j < 26) : ovA a l j = a j := by
  unfold ovA
  rw [ble_false (show ¬ 26 ≤ j by omega), show Nat.beq j 42 = false from by cases e : Nat.beq j 42 with | false => rfl | true => have := Nat.eq_of_beq_eq_true e; omega]
  rfl
theorem ov_blk {a : Nat → Int} {l : List Int} {j : Nat} (hj : j < 16) : ovA a l (26 + j) = if (a 42).toNat ≤ j ∧ j < (a 42).toNat + (l.take (16 - (a 42).toNat)).length then (l.take (16 - (a 42).toNat)).getD (j - (a 42).toNat) 0 else a (26 + j) := by
  unfold ovA
  rw [and_true' (Nat.ble_eq_true_of_le (by omega)) (show Nat.blt (26 + j) 42 = true from Nat.ble_eq_true_of_le (by omega)), show 26 + j - 26 = j by omega]
  rfl
theorem ov_held {a : Nat → Int} {l : List Int} : ovA a l 42 = a 42 + kN a l := rfl
/-- Write -/
theorem MS_write {T : Int} {mk : Nat → Int} {X l : List Int} {a : Nat → Int} (h : MS T mk X a) (hl : Bytes l) : MS T mk (X ++ l) (wrA a l) := by
  obtain ⟨hby, hsm, hmk, hbl, hh, hX⟩ := h
  have hY := bytes_app hX hl
  have hlen : (X ++ l).length = X.length + l.length := List.length_append
  unfold wrA
  by_cases h0 : 0 < a 42
  · rw [if_pos h0]
    generalize hi : X.length / 16 = i0 at *
    generalize hm : X.length % 16 = h at *
    have hXl : X.length = 16 * i0 + h := by omega
    have hh' : (a 42).toNat = h := by omega
    have hh16 : h < 16 := by omega
    have kE : kN a l = ((min l.length (16 - h) : Nat) : Int) := by simp only [kN, hh']
    have tE : (l.take (16 - h)).length = min (16 - h) l.length := List.length_take
    -- the block with the piece over it
    have oB : ∀ j, j < 16 → ovA a l (26 + j) = if j < min 16 (h + l.length) then (X ++ l).getD (16 * i0 + j) 0 else 0 := fun j hj => by
      rw [ov_blk hj, hh', hbl j hj, tE]
      by_cases c1 : j < h
      · rw [if_neg (by omega), if_pos c1, if_pos (by omega), List.getD_eq_getElem?_getD, List.getD_eq_getElem?_getD, List.getElem?_append_left (by omega)]
      · by_cases c2 : j < h + min (16 - h) l.length
        · rw [if_pos ⟨by omega, c2⟩, if_pos (by omega), List.getD_eq_getElem?_getD, List.getElem?_take, if_pos (by omega), List.getD_eq_getElem?_getD, List.getElem?_append_right (by omega)]
          congr 2; omega
        · rw [if_neg (by omega), if_neg c1, if_neg (by omega)]
    have oBy : byL (ovA a l) = byL a := listF_eq0.2 fun j hj => ov_lo (by omega)
    have oSm : smL (ovA a l) = smL a := listF_eq0.2 fun j hj => ov_lo (by omega)
    have oMk : ∀ j, j < 16 → ovA a l (10 + j) = mk j := fun j hj => by rw [ov_lo (by omega)]; exact hmk j hj
    have sY : Is (smL (ovA a l)) (dS T (X ++ l) i0) := by rw [oSm, dS_app T X l i0 (by omega)]; exact hsm
    by_cases h16 : a 42 + kN a l = 16
    · rw [if_pos h16]
      have hk : min l.length (16 - h) = 16 - h := by omega
      have hge : 16 - h ≤ l.length := by omega
      have hb : ∀ j, j < 17 → (zeB (ovA a l) ++ [1]).getD j 0 = fbN (X ++ l) i0 j := fun j hj => by
        have zl : (zeB (ovA a l)).length = 16 := listF_length _ _ _
        unfold fbN
        by_cases hj16 : j < 16
        · have e : (zeB (ovA a l)).getD j 0 = n43 (ovA a l) (26 + j) := atLF hj16
          rw [if_pos ⟨by omega, hj16⟩, List.getD_eq_getElem?_getD, List.getElem?_append_left (by omega), ← List.getD_eq_getElem?_getD, e, n43_at (by omega), oB j hj16, if_pos (by omega)]
        · rw [if_neg (by omega), if_pos (by omega), List.getD_eq_getElem?_getD, List.getElem?_append_right (by omega), zl, show j - 16 = 0 by omega]; rfl
      obtain ⟨t1, t2⟩ := tk_is (a := ovA a l) (by rw [oBy]; exact hby) sY hY hb
      have cl : ∀ j, j < 26 → eqA a l j = tkA (ovA a l) (zeB (ovA a l)) j := fun j hj => by
        show (bif Nat.ble 26 j then 0 else _) = _
        rw [ble_false (by omega)]; rfl
      have ch : ∀ j, 26 ≤ j → eqA a l j = 0 := fun j hj => by
        show (bif Nat.ble 26 j then 0 else _) = _
        rw [Nat.ble_eq_true_of_le hj]; rfl
      have el : l1 a l = (X ++ l).drop (16 * (i0 + 1)) := by
        have : (kN a l).toNat = 16 - h := by omega
        have hd : (X ++ l).drop (16 * (i0 + 1)) = l.drop (16 - h) := by
          rw [List.drop_append, List.drop_eq_nil_of_le (show X.length ≤ 16 * (i0 + 1) by omega), List.nil_append]
          congr 1; omega
        rw [l1, this, hd, List.take_of_length_le (by rw [List.length_drop]; omega)]
      exact MS_rest (i0 := i0 + 1) (by rw [show byL (eqA a l) = byL (tkA (ovA a l) (zeB (ovA a l))) from listF_eq0.2 fun j hj => cl j (by omega), byL_of t2, oBy]; exact hby)
        (by rw [show smL (eqA a l) = smL (tkA (ovA a l) (zeB (ovA a l))) from listF_eq0.2 fun j hj => cl _ (by omega)]; exact t1)
        (fun j hj => by rw [cl _ (by omega), t2 _ (by omega) (by omega)]; exact oMk j hj) (fun j hj => ch _ (by omega)) (ch 42 (by omega)) hY el (by omega)
    · rw [if_neg h16]
      have hk : h + l.length < 16 := by omega
      have kl : kN a l = (l.length : Int) := by rw [kE]; congr 1; omega
      have l1n : l1 a l = [] := by
        rw [l1, kl]
        simp
      have e : ∀ j, j < 43 → lpE (ovA a l) (l1 a l) j = ovA a l j := fun j hj => by
        rw [l1n]
        show n43 (ovA a l) j = _
        exact n43_at hj
      have d1 : (X ++ l).length / 16 = i0 := by omega
      have d2 : (X ++ l).length % 16 = h + l.length := by omega
      refine ⟨?_, ?_, fun j hj => ?_, fun j hj => ?_, ?_, hY⟩
      · rw [show byL (lpE (ovA a l) (l1 a l)) = byL (ovA a l) from listF_eq0.2 fun j hj => e j (by omega), oBy]; exact hby
      · rw [show smL (lpE (ovA a l) (l1 a l)) = smL (ovA a l) from listF_eq0.2 fun j hj => e _ (by omega), d1]; exact sY
      · rw [e _ (by omega)]; exact oMk j hj
      · rw [e _ (by omega), oB j hj, d1, d2, show min 16 (h + l.length) = h + l.length by omega]
      · rw [e 42 (by omega), ov_held, kl, d2, hh]; omega
  · rw [if_neg h0]
    have hm : X.length % 16 = 0 := by omega
    have hz : a 42 = 0 := by omega
    exact MS_rest (i0 := X.length / 16) hby (by rw [dS_app T X l _ (by omega)]; exact hsm) hmk (fun j hj => by rw [hbl j hj, hm, if_neg (by omega)]) hz hY (by
      rw [List.drop_append, List.drop_eq_nil_of_le (by omega), List.nil_append, show 16 * (X.length / 16) - X.length = 0 by omega, List.drop_zero]) (by omega)
/-- Tag -/
def dTag (T : Int) (mk : Nat → Int) (X : List Int) : List Int := listF 16 (byteN (leN 16 (byteN (dS T X ((X.length + 15) / 16))) 0 + leN 16 mk 0)) 0
theorem dS_lt (T : Int) (X : List Int) : ∀ i, 0 ≤ dS T X i ∧ dS T X i < P5
  | 0 => ⟨Int.le_refl 0, (by decide : (0 : Int) < P5)⟩
  | i + 1 => modP _
theorem MS_tag {T : Int} {mk : Nat → Int} {X : List Int} {a : Nat → Int} (h : MS T mk X a) (hk : ∀ j, j < 16 → Byte (mk j)) : listF 16 (tgN a) 0 = dTag T mk X := by
  obtain ⟨hby, hsm, hmk, hbl, hh, hX⟩ := h
  have mkL_at : ∀ j, j < 16 → atL (mkL a) j = mk j := fun j hj => by rw [show atL (mkL a) j = a (10 + j) from atLF hj]; exact hmk j hj
  have fin : ∀ {x : List Int} {N : Int}, Is x N → 0 ≤ N ∧ N < P5 → listF 16 (sumN x (mkL a)) 0 = listF 16 (byteN (leN 16 (byteN N) 0 + leN 16 mk 0)) 0 := fun {x N} hx hN => by
    rw [sumN_eq fun j hj => by rw [mkL_at j hj]; exact hk j hj]
    have e1 : leN 16 (bytesN x) 0 = leN 16 (byteN N) 0 := leN_congr 16 0 fun j hj => by rw [Nat.zero_add, bytesN_at hx (show j < 17 by omega), Int.emod_eq_of_lt hN.1 hN.2]
    have e2 : leN 16 (atL (mkL a)) 0 = leN 16 mk 0 := leN_congr 16 0 fun j hj => by rw [Nat.zero_add]; exact mkL_at j hj
    rw [e1, e2]
  unfold tgN dTag
  by_cases h0 : 0 < a 42
  · rw [if_pos h0]
    have hm : (a 42).toNat = X.length % 16 := by omega
    have hb : ∀ j, j < 17 → (tbL a).getD j 0 = fbN X (X.length / 16) j := fun j hj => by
      have e : (tbL a).getD j 0 = if (a 42).toNat = j then 1 else (bif Nat.blt j 16 then a (26 + j) else 0) := atLF (n := 17) (a := fun j => if (a 42).toNat = j then 1 else (bif Nat.blt j 16 then a (26 + j) else 0)) hj
      rw [e, hm]
      unfold fbN
      by_cases c : X.length % 16 = j
      · rw [if_pos c, if_neg (by omega), if_pos (by omega)]
      · rw [if_neg c]
        by_cases c2 : j < X.length % 16
        · rw [show Nat.blt j 16 = true from Nat.ble_eq_true_of_le (by omega), if_pos ⟨by omega, by omega⟩]
          show a (26 + j) = _
          rw [hbl j (by omega), if_pos c2]
        · rw [if_neg (by omega), if_neg (by omega)]
          by_cases c3 : j < 16
          · rw [show Nat.blt j 16 = true from Nat.ble_eq_true_of_le (by omega)]
            show a (26 + j) = _
            rw [hbl j c3, if_neg c2]
          · rw [bl_false c3]; rfl
    have := plus_is hby hsm hX hb
    rw [show (X.length + 15) / 16 = X.length / 16 + 1 by omega]
    exact fin this (dS_lt T X _)
  · rw [if_neg h0, show (X.length + 15) / 16 = X.length / 16 by omega]
    exact fin hsm (dS_lt T X _)
end Go.Proofs.Ytejcjdhplpjpjaa

namespace Go.Proofs.Ytejcjdhplpjpjaa
open Go Go.Vx
/-! ### the document's Tag -/
abbrev tgKeep : List Nat := [1, 4, 6, 8, 9, 10]
noncomputable abbrev tgBody : Code := bodyAt Try.prog 14 11
noncomputable abbrev tgS (n : Nat) (i : Int) : List (Nat × SV) := tgKeep.zip [.sl 0 0 0 1 0 n false, .ptr 1 0, .ptr 2 0, .ptr 3 0, .ptr 4 0, .int .i64 i]
noncomputable abbrev tgB (l : List Int) (z s tm sm : Nat → Int) : List Body := [.ints .u8 l, .cells (svF (List.replicate 16 .u8) z 0), .cells (svF (List.replicate 16 .u8) s 0), .cells (svF (List.replicate 17 .i64) tm 0), .cells (svF (List.replicate 17 .i64) sm 0)]
abbrev tgX (l : List Int) (i : Int) (r : Nat) : List Int := ((List.range r).map fun (j : Nat) => l.getD (0 + (i + (j : Int)).toNat + 0) 0) ++ [1] ++ List.replicate (16 - r) 0
abbrev tgV (l : List Int) (tm sm : Nat → Int) (i : Int) (r : Nat) : Int := leN 17 (atL (listF 17 (byteN ((leN 17 (atL (listF 17 sm 0)) 0 + leN 17 (atL (listF 17 (byteN (leN 17 (atL (tgX l i r)) 0 % P5)) 0)) 0) % P5)) 0)) 0 * leN 17 (atL (listF 17 tm 0)) 0 % P5
abbrev tgCi (n : Nat) (l : List Int) (i : Int) (j : Nat) : List Prop := [Fits .i64 (n : Int), Fits .i64 (i + (j : Int)), decide (i + (j : Int) < (n : Int)) = true, 0 + (i + (j : Int)).toNat + 0 < l.length, (0 : Int) ≤ i + (j : Int) ∧ i + (j : Int) < (n : Int), Fits .i64 (i + (j : Int))]
abbrev tgE (n : Nat) (i : Int) (r : Nat) : List Prop := bif Nat.blt r 16 then [Fits .i64 (n : Int), Fits .i64 (i + (r : Int)), decide (i + (r : Int) < (n : Int)) = false] else []
abbrev tgP (r : Nat) : List Plan := [.br true] ++ (List.replicate r (.br true) ++ (bif Nat.blt r 16 then [.br false] else []))
abbrev tgU (l : List Int) (sm : Nat → Int) (i : Int) (r : Nat) : Int := (leN 17 (atL (listF 17 sm 0)) 0 + leN 17 (atL (listF 17 (byteN (leN 17 (atL (tgX l i r)) 0 % P5)) 0)) 0) % P5
abbrev tgC (n : Nat) (l : List Int) (tm sm : Nat → Int) (i : Int) (r : Nat) : List Prop := [Fits .i64 (n : Int), decide (i < (n : Int)) = true] ++ ((List.range r).flatMap (tgCi n l i) ++ (tgE n i r ++ [NG (atL (listF 17 (byteN (tgU l sm i r)) 0)), NG (atL (listF 17 tm 0)), NG (atL (listF 17 sm 0)), NG (atL (listF 17 (byteN (leN 17 (atL (tgX l i r)) 0 % P5)) 0)), Fits .i64 (i + 16)]))
def TgOk (n : Nat) (l : List Int) (z s tm sm : Nat → Int) (i : Int) (r : Nat) : Prop := runC gw 600 68 (tgP r) tgBody (tgS n i) (tgB l z s tm sm) tgKeep [0, 1, 2, 3, 4] =
    some (.normal, [.sl 0 0 0 1 0 n false, .ptr 1 0, .ptr 2 0, .ptr 3 0, .ptr 4 0, .int .i64 (i + 16)], (tgB l z s tm (byteN (tgV l tm sm i r))).map some, tgC n l tm sm i r)
theorem tg_1 (n : Nat) (l : List Int) (z s tm sm : Nat → Int) (i : Int) : TgOk n l z s tm sm i 1 :=
  r3_parts4 (by kernel_rfl) (by kernel_rfl) (by kernel_rfl) (by kernel_rfl)
theorem tg_2 (n : Nat) (l : List Int) (z s tm sm : Nat → Int) (i : Int) : TgOk n l z s tm sm i 2 :=
  r3_parts4 (by kernel_rfl) (by kernel_rfl) (by kernel_rfl) (by kernel_rfl)
theorem tg_3 (n : Nat) (l : List Int) (z s tm sm : Nat → Int) (i : Int) : TgOk n l z s tm sm i 3 :=
  r3_parts4 (by kernel_rfl) (by kernel_rfl) (by kernel_rfl) (by kernel_rfl)
theorem tg_4 (n : Nat) (l : List Int) (z s tm sm : Nat → Int) (i : Int) : TgOk n l z s tm sm i 4 :=
  r3_parts4 (by kernel_rfl) (by kernel_rfl) (by kernel_rfl) (by kernel_rfl)
theorem tg_5 (n : Nat) (l : List Int) (z s tm sm : Nat → Int) (i : Int) : TgOk n l z s tm sm i 5 :=
  r3_parts4 (by kernel_rfl) (by kernel_rfl) (by kernel_rfl) (by kernel_rfl)
theorem tg_6 (n : Nat) (l : List Int) (z s tm sm : Nat → Int) (i : Int) : TgOk n l z s tm sm i 6 :=
  r3_parts4 (by kernel_rfl) (by kernel_rfl) (by kernel_rfl) (by kernel_rfl)
theorem tg_7 (n : Nat) (l : List Int) (z s tm sm : Nat → Int) (i : Int) : TgOk n l z s tm sm i 7 :=
  r3_parts4 (by kernel_rfl) (by kernel_rfl) (by kernel_rfl) (by kernel_rfl)
theorem tg_8 (n : Nat) (l : List Int) (z s tm sm : Nat → Int) (i : Int) : TgOk n l z s tm sm i 8 :=
  r3_parts4 (by kernel_rfl) (by kernel_rfl) (by kernel_rfl) (by kernel_rfl)
theorem tg_9 (n : Nat) (l : List Int) (z s tm sm : Nat → Int) (i : Int) : TgOk n l z s tm sm i 9 :=
  r3_parts4 (by kernel_rfl) (by kernel_rfl) (by kernel_rfl) (by kernel_rfl)
theorem tg_10 (n : Nat) (l : List Int) (z s tm sm : Nat → Int) (i : Int) : TgOk n l z s tm sm i 10 :=
  r3_parts4 (by kernel_rfl) (by kernel_rfl) (by kernel_rfl) (by kernel_rfl)
theorem tg_11 (n : Nat) (l : List Int) (z s tm sm : Nat → Int) (i : Int) : TgOk n l z s tm sm i 11 :=
  r3_parts4 (by kernel_rfl) (by kernel_rfl) (by kernel_rfl) (by kernel_rfl)
theorem tg_12 (n : Nat) (l : List Int) (z s tm sm : Nat → Int) (i : Int) : TgOk n l z s tm sm i 12 :=
  r3_parts4 (by kernel_rfl) (by kernel_rfl) (by kernel_rfl) (by kernel_rfl)
theorem tg_13 (n : Nat) (l : List Int) (z s tm sm : Nat → Int) (i : Int) : TgOk n l z s tm sm i 13 :=
  r3_parts4 (by kernel_rfl) (by kernel_rfl) (by kernel_rfl) (by kernel_rfl)
theorem tg_14 (n : Nat) (l : List Int) (z s tm sm : Nat → Int) (i : Int) : TgOk n l z s tm sm i 14 :=
  r3_parts4 (by kernel_rfl) (by kernel_rfl) (by kernel_rfl) (by kernel_rfl)
theorem tg_15 (n : Nat) (l : List Int) (z s tm sm : Nat → Int) (i : Int) : TgOk n l z s tm sm i 15 :=
  r3_parts4 (by kernel_rfl) (by kernel_rfl) (by kernel_rfl) (by kernel_rfl)
theorem tg_16 (n : Nat) (l : List Int) (z s tm sm : Nat → Int) (i : Int) : TgOk n l z s tm sm i 16 :=
  r3_parts4 (by kernel_rfl) (by kernel_rfl) (by kernel_rfl) (by kernel_rfl)
theorem tg_go (n : Nat) (l : List Int) (z s tm sm : Nat → Int) (i : Int) (r : Nat) (h1 : 1 ≤ r) (h2 : r ≤ 16) : TgOk n l z s tm sm i r := by
  match r, h1, h2 with
  | 1, _, _ => exact tg_1 n l z s tm sm i
  | 2, _, _ => exact tg_2 n l z s tm sm i
  | 3, _, _ => exact tg_3 n l z s tm sm i
  | 4, _, _ => exact tg_4 n l z s tm sm i
  | 5, _, _ => exact tg_5 n l z s tm sm i
  | 6, _, _ => exact tg_6 n l z s tm sm i
  | 7, _, _ => exact tg_7 n l z s tm sm i
  | 8, _, _ => exact tg_8 n l z s tm sm i
  | 9, _, _ => exact tg_9 n l z s tm sm i
  | 10, _, _ => exact tg_10 n l z s tm sm i
  | 11, _, _ => exact tg_11 n l z s tm sm i
  | 12, _, _ => exact tg_12 n l z s tm sm i
  | 13, _, _ => exact tg_13 n l z s tm sm i
  | 14, _, _ => exact tg_14 n l z s tm sm i
  | 15, _, _ => exact tg_15 n l z s tm sm i
  | 16, _, _ => exact tg_16 n l z s tm sm i
  | r + 17, _, h => exact absurd h (by omega)
theorem tg_end (n : Nat) (l : List Int) (z s tm sm : Nat → Int) (i : Int) : runC gw 600 68 [.br false] tgBody (tgS n i) (tgB l z s tm sm) tgKeep [0, 1, 2, 3, 4] =
    some (.exit 2, [.sl 0 0 0 1 0 n false, .ptr 1 0, .ptr 2 0, .ptr 3 0, .ptr 4 0, .int .i64 i], (tgB l z s tm sm).map some, [Fits .i64 (n : Int), decide (i < (n : Int)) = false]) :=
  r3_parts4 (by kernel_rfl) (by kernel_rfl) (by kernel_rfl) (by kernel_rfl)
end Go.Proofs.Ytejcjdhplpjpjaa

namespace Go.Proofs.Ytejcjdhplpjpjaa
open Go Go.Vx
theorem tgX_at {l : List Int} {k r : Nat} (hr : r = min 16 (l.length - 16 * k)) (h1 : 1 ≤ r) : ∀ j, j < 17 → atL (tgX l ((16 * k : Nat) : Int) r) j = fbN l k j := fun j hj => by
  have hl : ((List.range r).map fun (j : Nat) => l.getD (0 + (((16 * k : Nat) : Int) + (j : Int)).toNat + 0) 0).length = r := by simp
  show (tgX l ((16 * k : Nat) : Int) r).getD j 0 = _
  unfold tgX fbN
  rw [List.getD_eq_getElem?_getD, List.append_assoc]
  by_cases c : j < r
  · rw [List.getElem?_append_left (by omega), List.getElem?_map, List.getElem?_range c, if_pos ⟨by omega, by omega⟩]
    show l.getD _ 0 = _
    congr 1; omega
  · rw [List.getElem?_append_right (by omega), hl, if_neg (by omega)]
    by_cases c2 : j = r
    · rw [if_pos (by omega), show j - r = 0 by omega]; rfl
    · rw [if_neg (by omega)]
      obtain ⟨q, hq⟩ : ∃ q, j - r = q + 1 := ⟨j - r - 1, by omega⟩
      rw [hq, List.singleton_append, List.getElem?_cons_succ, List.getElem?_replicate]
      split <;> rfl
theorem leN_L (n : Nat) (a : Nat → Int) : leN n (atL (listF n a 0)) 0 = leN n a 0 := leN_congr n 0 fun j hj => by rw [Nat.zero_add]; exact atLF hj
noncomputable def tgG : LoopF := fun vals B => match vals, B with
  | [.sl 0 0 0 1 0 n false, .ptr 1 0, .ptr 2 0, .ptr 3 0, .ptr 4 0, .int .i64 0], [.ints K l, .cells c1, .cells c2, .cells c3, .cells c4] => match sameK K .u8, numsAs (List.replicate 16 .u8) c1, numsAs (List.replicate 16 .u8) c2, numsAs (List.replicate 17 .i64) c3, numsAs (List.replicate 17 .i64) c4 with
    | true, some lz, some ls, some lt, some lm => some ([(4, .ptr 1 0), (6, .ptr 2 0), (9, .ptr 4 0)], tgB l (atL lz) (atL ls) (atL lt) (byteN (dS (leN 17 (atL lt) 0) l ((l.length + 15) / 16))), [n = l.length, l.length ≤ 140737488355328, NG (atL lt), lm = listF 17 (byteN 0) 0])
    | _, _, _, _, _ => none
  | _, _ => none
theorem i5 : ∀ j : Nat, j < 5 → ([0, 1, 2, 3, 4] : List Nat)[j]? = some j := fun j hj => by
  match j, hj with
  | 0, _ => rfl
  | 1, _ => rfl
  | 2, _ => rfl
  | 3, _ => rfl
  | 4, _ => rfl
theorem tg_loop : LoopGood gw 68 (.loop tgBody) tgKeep 5 (.exit 2) (mkLoopN tgG) := by
  refine LoopGood.mkN (by decide) fun vals B S' B' C hG hC hlen w0 O hgl => ?_
  clear hlen
  unfold tgG at hG
  split at hG
  · rename_i n K l c1 c2 c3 c4
    split at hG
    · rename_i lz ls lt lm hK h1 h2 h3 h4
      obtain rfl := kidx_inj hK
      simp only [Option.some.injEq, Prod.mk.injEq] at hG
      obtain ⟨rfl, rfl, rfl⟩ := hG
      simp only [allC_cons, allC_nil, and_true] at hC
      obtain ⟨rfl, hl, hT, hm⟩ := hC
      have F1 : Fits .i64 (l.length : Int) := Go.Vx.fits_small hl
      generalize hTT : leN 17 (atL lt) 0 = T at *
      refine SimC.preI (B1 := tgB l (atL lz) (atL ls) (atL lt) (atL lm)) ?_ ⟨⟨BImp.refl _, fun _ h => by simp at h⟩, cells_nums h1, cells_nums h2, cells_nums h3, cells_nums h4, trivial⟩
      have e0 : tgB l (atL lz) (atL ls) (atL lt) (atL lm) = tgB l (atL lz) (atL ls) (atL lt) (byteN (dS T l 0)) := by
        have : svF (List.replicate 17 .i64) (atL lm) 0 = svF (List.replicate 17 .i64) (byteN (dS T l 0)) 0 := svF_cg _ 0 fun j hj => by
          rw [Nat.zero_add, hm]; rw [List.length_replicate] at hj; exact atLF hj
        simp only [tgB]
        rw [this]
      rw [e0]
      show SimC _ _ _ _ _ (tgS l.length (((16 * 0 : Nat) : Int))) _ _ _ _ _
      refine SimC.iter (g := gw) (e := .exit 2) (S := fun k => tgS l.length ((16 * k : Nat) : Int)) (B := fun k => tgB l (atL lz) (atL ls) (atL lt) (byteN (dS T l k))) (N := (l.length + 15) / 16) (fun k hk => ?_) ?_ (by simp) 0 (by omega)
      · have hr := tg_go l.length l (atL lz) (atL ls) (atL lt) (byteN (dS T l k)) ((16 * k : Nat) : Int) (min 16 (l.length - 16 * k)) (by omega) (by omega)
        unfold TgOk at hr
        have hd := dS_lt T l k
        have eX : leN 17 (atL (tgX l ((16 * k : Nat) : Int) (min 16 (l.length - 16 * k)))) 0 = leN 17 (fbN l k) 0 := leN_congr 17 0 fun j hj => by rw [Nat.zero_add]; exact tgX_at rfl (by omega) j hj
        have eV : tgV l (atL lt) (byteN (dS T l k)) ((16 * k : Nat) : Int) (min 16 (l.length - 16 * k)) = dS T l (k + 1) := by
          unfold tgV
          rw [eX, leN_L, leN_L, leN_L, leN_by hd, leN_by (modP _), leN_L, leN_by (modP _), hTT]
          rfl
        rw [eV, show ((16 * k : Nat) : Int) + 16 = ((16 * (k + 1) : Nat) : Int) by omega] at hr
        refine SimC.run (B' := tgB l (atL lz) (atL ls) (atL lt) (byteN (dS T l (k + 1)))) gw_ok (by decide) hr ?_ (by decide) i5 (by decide) (by simp) hgl
        rw [tgC, allC_append, allC_append, allC_append]
        refine ⟨?_, fun c hc => ?_, ?_, ?_⟩
        · simp only [allC_cons, allC_nil, and_true]; exact ⟨F1, decide_eq_true (by omega)⟩
        · obtain ⟨j, hj, hc⟩ := List.mem_flatMap.1 hc
          have hj := List.mem_range.1 hj
          simp only [tgCi, List.mem_cons, List.not_mem_nil, or_false] at hc
          rcases hc with rfl | rfl | rfl | rfl | rfl | rfl
          · exact F1
          · exact fits_of (by omega) (by omega)
          · exact decide_eq_true (by omega)
          · omega
          · omega
          · exact fits_of (by omega) (by omega)
        · unfold tgE
          cases hb : Nat.blt (min 16 (l.length - 16 * k)) 16 with
          | false => simp [AllC]
          | true =>
            have : min 16 (l.length - 16 * k) + 1 ≤ 16 := Nat.le_of_ble_eq_true hb
            simp only [cond_true, allC_cons, allC_nil, and_true]
            exact ⟨F1, fits_of (by omega) (by omega), decide_eq_false (by omega)⟩
        · simp only [allC_cons, allC_nil, and_true]
          exact ⟨NG_L.2 (NG_by (modP _)), NG_L.2 hT, NG_L.2 (NG_by hd), NG_L.2 (NG_by (modP _)), fits_of (by omega) (by omega)⟩
      · exact SimC.weaken (SimC.run (B' := tgB l (atL lz) (atL ls) (atL lt) (byteN (dS T l ((l.length + 15) / 16)))) gw_ok (by decide) (tg_end _ _ _ _ _ _ _) (by simp only [allC_cons, allC_nil, and_true]; exact ⟨F1, decide_eq_false (by omega)⟩) (by decide) i5 (by decide) (by simp) hgl) (sub_mkT (by simp; exact ⟨rfl, rfl, rfl⟩))
    · simp at hG
  · simp at hG
abbrev loK (k : Nat → Int) : List Int := listF 16 k 0
abbrev hiK (k : Nat → Int) : List Int := listF 16 (fun j => k (16 + j)) 0
/-- the document's number of a key -/
def kT (k : Nat → Int) : Int := leN 17 (clD (atL (loK k))) 0
abbrev tmK (k : Nat → Int) : List Int := listF 17 (clD (atL (loK k))) 0
noncomputable abbrev tagB (k : Nat → Int) (l : List Int) : List SV := svF (List.replicate 16 .u8) (byteN (leN 16 (atL (listF 17 (byteN (dS (leN 17 (atL (tmK k)) 0) l ((l.length + 15) / 16))) 0)) 0 + leN 16 (atL (hiK k)) 0)) 0
theorem dt_run (k : Nat → Int) (n : Nat) (l : List Int) : runF gw 900 [.loop 11 tgKeep 5 (.exit 2) (mkLoopN tgG)] 14 [.agg (svF (List.replicate 32 .u8) k 0), .sl 0 0 0 1 0 n false] [.ints .u8 l] [] =
    some (.agg (tagB k l), [some (.ints .u8 l)], [LoopGood gw 68 (.loop tgBody) tgKeep 5 (.exit 2) (mkLoopN tgG), n = l.length, l.length ≤ 140737488355328, NG (atL (tmK k)), List.replicate 17 (0 : Int) = listF 17 (byteN 0) 0, NG (atL (listF 17 (byteN (dS (leN 17 (atL (tmK k)) 0) l ((l.length + 15) / 16))) 0))]) :=
  run_parts (by kernel_rfl) (by kernel_rfl) (by kernel_rfl)
end Go.Proofs.Ytejcjdhplpjpjaa

namespace Go.Proofs.Ytejcjdhplpjpjaa
open Go Go.Vx
/-! ### tags that are one -/
def eqArrF (n : Nat) : SumF := fun args B => match args, B with
  | [.agg xs, .agg ys], [] => match numsAs (List.replicate n .u8) xs, numsAs (List.replicate n .u8) ys with
    | some la, some lb => some { val := .int .u64 (if la = lb then 1 else 0) }
    | _, _ => none
  | _, _ => none
theorem okArr {n : Nat} {f : FuncId} (hrun : ∀ a b : Nat → Int, ∃ m, runF g0 m [] f [.agg (svF (List.replicate n .u8) a 0), .agg (svF (List.replicate n .u8) b 0)] [] [] = some (.int .u64 (Int.ofNat (eqArrE n a b)), [], []))
    (args : List SV) (B : List Body) (out : OpOut) (h : eqArrF n args B = some out) (_ : AllC out.C) : FnOk g0 f args B out := by
  unfold eqArrF at h
  split at h
  · split at h
    · rename_i la lb ha hb
      simp only [Option.some.injEq] at h; subst h
      refine FnOk.imp (args' := [.agg (svF (List.replicate n .u8) (atL la) 0), .agg (svF (List.replicate n .u8) (atL lb) 0)]) ?_ ⟨nums_imp ha, nums_imp hb, trivial⟩
      refine FnOk.facts fun ⟨h1, h2, _⟩ => ?_
      have hj : ∀ j, j < n → Fits .u8 (atL la j) ∧ Fits .u8 (atL lb j) := fun j hj => by
        have e : (List.replicate n IntKind.u8)[j]? = some .u8 := by simp [hj]
        have f1 := facts_svF h1 j .u8 e
        have f2 := facts_svF h2 j .u8 e
        rw [Nat.zero_add] at f1 f2
        exact ⟨f1, f2⟩
      have e1 := nums_list ha
      have e2 := nums_list hb
      simp only [List.length_replicate] at e1 e2
      have e : (if la = lb then (1 : Int) else 0) = Int.ofNat (eqArrE n (atL la) (atL lb)) := by
        rw [eqArrE_eq hj, ← e1, ← e2]
        split <;> rfl
      rw [e]
      obtain ⟨m, hm⟩ := hrun (atL la) (atL lb)
      exact FnOk.pure g0_ok hm (by simp [AllC])
    · simp at h
  · simp at h
theorem tags_run (a b : Nat → Int) : runF g0 60 [] 47 [.agg (svF (List.replicate 16 .u8) a 0), .agg (svF (List.replicate 16 .u8) b 0)] [] [] = some (.int .u64 (Int.ofNat (eqArrE 16 a b)), [], []) := by kernel_rfl
theorem acc47 (args : List SV) (B : List Body) (out : OpOut) (h : eqArrF 16 args B = some out) (hC : AllC out.C) : FnOk g0 47 args B out := okArr (fun a b => ⟨_, tags_run a b⟩) args B out h hC
/-! ### known answers -/
abbrev ofX (k b : Nat → Int) : Nat → Int := sumN (L5 (mulN (L5 (addN [0, 0, 0, 0, 0] (L5 (blockN [b 0, b 1, b 2, b 3, b 4, b 5, b 6, b 7, b 8, b 9, b 10, b 11, b 12, b 13, b 14, 1, 0])))) (L5 (clampN (loK k))))) (hiK k)
noncomputable abbrev pcP : List Plan := [.br true, .fix 0, .br false, .br false, .br true, .br false, .br true, .fix 15]
theorem of15_run (k b : Nat → Int) : runF gp 3000 pcP 16 [nilR, .agg (svF (List.replicate 32 .u8) k 0), .sl 0 1 0 1 0 1 true] [.cells [.sl 1 15 0 1 0 15 true], .cells (svF (List.replicate 15 .u8) b 0)] [] =
    some (.agg (svF (List.replicate 16 .u8) (ofX k b) 0), [some (.cells [.sl 1 15 0 1 0 15 true]), some (.cells (svF (List.replicate 15 .u8) b 0))], [true = true, false = false, false = false, true = true, (0 : Int) = 0, false = false, true = true, (15 : Int) = 15]) :=
  run_parts (by kernel_rfl) (by kernel_rfl) (by kernel_rfl)
end Go.Proofs.Ytejcjdhplpjpjaa

namespace Go.Proofs.Ytejcjdhplpjpjaa
open Go Go.Vx
/-! ### Of of one constant piece: what known asks -/
noncomputable def F16k : SumF := fun args B => match args, B with
  | [.raw (.pointer none), .agg ks, .sl 0 1 0 1 0 1 true], [.cells [.sl 1 15 0 1 0 15 true], .cells bs] =>
    match numsAs (List.replicate 32 .u8) ks, numsAs (List.replicate 15 .u8) bs with
    | some lk, some lb => some { val := .agg (svF (List.replicate 16 .u8) (ofX (atL lk) (atL lb)) 0), upd := [(0, some (.cells [.sl 1 15 0 1 0 15 true])), (1, some (.cells (svF (List.replicate 15 .u8) (atL lb) 0)))] }
    | _, _ => none
  | _, _ => none
theorem acc16k : Acc gp 16 F16k := by
  intro args B out h hC
  unfold F16k at h
  split at h
  · split at h
    · rename_i lk lb hk hb
      simp only [Option.some.injEq] at h; subst h
      refine FnOk.imp (args' := [nilR, .agg (svF (List.replicate 32 .u8) (atL lk) 0), .sl 0 1 0 1 0 1 true]) ?_ ⟨DenImp.refl _, nums_imp hk, DenImp.refl _, trivial⟩
      refine FnOk.preB (B' := [.cells [.sl 1 15 0 1 0 15 true], .cells (svF (List.replicate 15 .u8) (atL lb) 0)]) ?_ ⟨⟨BImp.refl _, fun l hl => by injection hl with hl; subst hl; intro d hd; simp at hd; subst hd; rfl⟩, cells_nums hb, trivial⟩ (fun j => by
        match j with
        | 0 => rfl
        | 1 => rfl
        | j + 2 => rfl)
      exact FnOk.run (new := []) gp_ok (of15_run (atL lk) (atL lb)) (by simp [AllC]) (by simp [upto]) rfl (by simp) (by simp) (fun j hj => by
          match j, hj with
          | 0, _ => rfl
          | 1, _ => rfl)
    · simp at h
  · simp at h
noncomputable abbrev gkn : Ctx := gp.add [(16, F16k), (47, eqArrF 16)]
theorem gkn_ok : CtxU gkn := gp_ok.add mixed noGo (by
  intro x hx
  simp only [List.mem_cons, List.not_mem_nil, or_false] at hx
  rcases hx with rfl | rfl
  · exact Acc.of rfl rfl acc16k
  · exact Acc.of (g := g0) rfl rfl acc47)
theorem ck_run (k t b : Nat → Int) : runF gkn 400 [] 18 [nilR, .agg (svF (List.replicate 32 .u8) k 0), .agg (svF (List.replicate 16 .u8) t 0), .sl 0 1 0 1 0 1 true] [.cells [.sl 1 15 0 1 0 15 true], .cells (svF (List.replicate 15 .u8) b 0)] [] =
    some (.sbool (decide ((if listF 16 (ofX (atL (listF 32 k 0)) (atL (listF 15 b 0))) 0 = listF 16 t 0 then (1 : Int) else 0) = 1)), [some (.cells [.sl 1 15 0 1 0 15 true]), some (.cells (svF (List.replicate 15 .u8) (atL (listF 15 b 0)) 0))], []) := run_parts (by kernel_rfl) (by kernel_rfl) (by kernel_rfl)
noncomputable def F18k : SumF := fun args B => match args, B with
  | [.raw (.pointer none), .agg ks, .agg ts, .sl 0 1 0 1 0 1 true], [.cells [.sl 1 15 0 1 0 15 true], .cells bs] =>
    match numsAs (List.replicate 32 .u8) ks, numsAs (List.replicate 16 .u8) ts, numsAs (List.replicate 15 .u8) bs with
    | some lk, some lt, some lb => some { val := .sbool (decide ((if listF 16 (ofX (atL (listF 32 (atL lk) 0)) (atL (listF 15 (atL lb) 0))) 0 = listF 16 (atL lt) 0 then (1 : Int) else 0) = 1)), upd := [(0, some (.cells [.sl 1 15 0 1 0 15 true])), (1, some (.cells (svF (List.replicate 15 .u8) (atL (listF 15 (atL lb) 0)) 0)))] }
    | _, _, _ => none
  | _, _ => none
theorem acc18k : Acc gkn 18 F18k := by
  intro args B out h hC
  unfold F18k at h
  split at h
  · split at h
    · rename_i lk lt lb hk ht hb
      simp only [Option.some.injEq] at h; subst h
      refine FnOk.imp (args' := [nilR, .agg (svF (List.replicate 32 .u8) (atL lk) 0), .agg (svF (List.replicate 16 .u8) (atL lt) 0), .sl 0 1 0 1 0 1 true]) ?_ ⟨DenImp.refl _, nums_imp hk, nums_imp ht, DenImp.refl _, trivial⟩
      refine FnOk.preB (B' := [.cells [.sl 1 15 0 1 0 15 true], .cells (svF (List.replicate 15 .u8) (atL lb) 0)]) ?_ ⟨⟨BImp.refl _, fun l hl => by injection hl with hl; subst hl; intro d hd; simp at hd; subst hd; rfl⟩, cells_nums hb, trivial⟩ (fun j => by
        match j with
        | 0 => rfl
        | 1 => rfl
        | j + 2 => rfl)
      exact FnOk.run (new := []) gkn_ok (ck_run (atL lk) (atL lt) (atL lb)) (by simp [AllC]) (by simp [upto]) rfl (by simp) (by simp) (fun j hj => by
          match j, hj with
          | 0, _ => rfl
          | 1, _ => rfl)
    · simp at h
  · simp at h
theorem cn_run : runF gp 2000 [] 46 [] [] [] = some (.agg ((List.range 32).map fun i : Nat => .lit .u8 (i : Int)), [], []) := by kernel_rfl
noncomputable def F46 : SumF := fun args B => match args, B with
  | [], [] => some { val := .agg ((List.range 32).map fun i : Nat => .lit .u8 (i : Int)) }
  | _, _ => none
theorem acc46 : Acc gp 46 F46 := by
  intro args B out h hC
  unfold F46 at h
  split at h
  · simp only [Option.some.injEq] at h; subst h
    exact FnOk.pure gp_ok cn_run (by simp [AllC])
  · simp at h
noncomputable abbrev gko : Ctx := gp.add [(18, F18k), (46, F46)]
theorem gko_ok : CtxU gko := gp_ok.add mixed noGo (by
  intro x hx
  simp only [List.mem_cons, List.not_mem_nil, or_false] at hx
  rcases hx with rfl | rfl
  · exact Acc.of (g := gkn) rfl rfl acc18k
  · exact Acc.of rfl rfl acc46)
end Go.Proofs.Ytejcjdhplpjpjaa

namespace Go.Proofs.Ytejcjdhplpjpjaa
open Go Go.Vx
/-! ### known -/
noncomputable abbrev knP : List Plan := [.br true, .fix 0, .br false, .br false, .br true, .br true, .fix 1, .br true, .fix 4, .fix 11, .br false, .br false, .br false, .br false, .br true, .fix 15, .br false, .br false, .br false, .br true, .br true, .fix 1] ++ List.replicate 12 (.br true)
abbrev knC : List Prop := [(0 : Nat) < (1099511627776 : Nat), Bool.true = Bool.true, (2 : Nat) < (1099511627776 : Nat), Bool.false = Bool.false, (3 : Nat) < (1099511627776 : Nat), Bool.false = Bool.false, (4 : Nat) < (1099511627776 : Nat), Bool.true = Bool.true, (1 : Nat) < (1099511627776 : Nat), (0 : Int) = (0 : Int), (5 : Nat) < (1099511627776 : Nat), Bool.true = Bool.true, (7 : Nat) < (1099511627776 : Nat), Bool.true = Bool.true, (8 : Nat) < (1099511627776 : Nat), (4 : Int) = (4 : Int), (9 : Nat) < (1099511627776 : Nat), (11 : Int) = (11 : Int), (10 : Nat) < (1099511627776 : Nat), Bool.false = Bool.false, (11 : Nat) < (1099511627776 : Nat), Bool.false = Bool.false, (12 : Nat) < (1099511627776 : Nat), Bool.false = Bool.false, (6 : Nat) < (1099511627776 : Nat), (1 : Int) = (1 : Int), (13 : Nat) < (1099511627776 : Nat), Bool.false = Bool.false, (14 : Nat) < (1099511627776 : Nat), Bool.true = Bool.true, (15 : Nat) < (1099511627776 : Nat), (15 : Int) = (15 : Int), (17 : Nat) < (1099511627776 : Nat), (16 : Nat) < (1099511627776 : Nat), Bool.false = Bool.false, Bool.false = Bool.false, Bool.false = Bool.false, Bool.true = Bool.true, Bool.true = Bool.true, (1 : Int) = (1 : Int), Bool.true = Bool.true, Bool.true = Bool.true, Bool.true = Bool.true, Bool.true = Bool.true, Bool.true = Bool.true, Bool.true = Bool.true]
set_option maxRecDepth 100000 in
theorem kn_run : runF gko 6000 knP 15 [] [] [] = some (.sbool true, [], knC) := run_parts (by kernel_rfl) (by kernel_rfl) (by kernel_rfl)
theorem knC_ok : AllC knC := by
  simp only [knC, allC_cons, allC_nil, and_true]
  decide
def F15 : SumF := fun args B => match args, B with
  | [], [] => some { val := .sbool true }
  | _, _ => none
theorem acc15 : Acc gko 15 F15 := by
  intro args B out h hC
  unfold F15 at h
  split at h
  · simp only [Option.some.injEq] at h; subst h
    exact FnOk.pure gko_ok kn_run knC_ok
  · simp at h
end Go.Proofs.Ytejcjdhplpjpjaa
