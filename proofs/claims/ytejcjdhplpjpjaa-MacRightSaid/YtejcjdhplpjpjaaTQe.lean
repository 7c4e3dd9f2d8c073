/- Accounts of this seat's functions: lemmas, no statement of their own. No conditions. -/
import Derived.Test.YtejcjdhplpjpjaaTQd
namespace Go.Proofs.Ytejcjdhplpjpjaa
open Go Go.Vx
/-! ### what a Mac holds -/
theorem Is.cong {x : List Int} {n m : Int} (h : Is x n) (e : n % P5 = m % P5) : Is x m := ⟨h.1, h.2.trans e⟩
/-- the block numbered i of a message, with its mark -/
def fbN (X : List Int) (i j : Nat) : Int := if 16 * i + j < X.length ∧ j < 16 then X.getD (16 * i + j) 0 else if j = min 16 (X.length - 16 * i) then 1 else 0
/-- the document's sum behind so many blocks -/
def dS (T : Int) (X : List Int) : Nat → Int
  | 0 => 0
  | i + 1 => (dS T X i + leN 17 (fbN X i) 0 % P5) % P5 * T % P5
theorem dS_step (T : Int) (X : List Int) (i : Nat) : (dS T X i + leN 17 (fbN X i) 0) * T % P5 = dS T X (i + 1) % P5 := by
  simp only [dS]
  rw [Int.emod_emod_of_dvd _ (Int.dvd_refl P5), Int.mul_emod, Int.add_emod, ← Int.add_emod, Int.mul_emod ((dS T X i + leN 17 (fbN X i) 0 % P5) % P5), Int.emod_emod_of_dvd _ (Int.dvd_refl P5), Int.add_emod_emod]
abbrev Bytes (l : List Int) : Prop := ∀ j, Byte (l.getD j 0)
theorem fbN_byte {X : List Int} (h : Bytes X) (i j : Nat) : Byte (fbN X i j) := by
  unfold fbN
  split
  · exact h _
  · split <;> exact ⟨by decide, by decide⟩
structure MS (T : Int) (mk : Nat → Int) (X : List Int) (a : Nat → Int) : Prop where
  by' : Is (byL a) T
  sm : Is (smL a) (dS T X (X.length / 16))
  mk' : ∀ j, j < 16 → a (10 + j) = mk j
  blk : ∀ j, j < 16 → a (26 + j) = if j < X.length % 16 then X.getD (16 * (X.length / 16) + j) 0 else 0
  held : a 42 = ((X.length % 16 : Nat) : Int)
  bytes : Bytes X
theorem dS_app (T : Int) (X l : List Int) : ∀ i, 16 * i ≤ X.length → dS T (X ++ l) i = dS T X i
  | 0, _ => rfl
  | i + 1, h => by
    have e : leN 17 (fbN (X ++ l) i) 0 = leN 17 (fbN X i) 0 := leN_congr 17 0 fun j hj => by
      rw [Nat.zero_add]
      unfold fbN
      rw [List.length_append]
      by_cases hj16 : j < 16
      · rw [if_pos ⟨by omega, hj16⟩, if_pos ⟨by omega, hj16⟩, List.getD_eq_getElem?_getD, List.getElem?_append_left (by omega), ← List.getD_eq_getElem?_getD]
      · have c1 : ¬ (16 * i + j < X.length + l.length ∧ j < 16) := by omega
        have c2 : ¬ (16 * i + j < X.length ∧ j < 16) := by omega
        have c3 : j = min 16 (X.length + l.length - 16 * i) := by omega
        have c4 : j = min 16 (X.length - 16 * i) := by omega
        rw [if_neg c1, if_pos c3, if_neg c2, if_pos c4]
    simp only [dS]
    rw [dS_app T X l i (by omega), e]
theorem n43_at {a : Nat → Int} {j : Nat} (h : j < 43) : n43 a j = a j := atLF h
theorem byL_43 (a : Nat → Int) : byL (n43 a) = byL a := listF_eq0.2 fun j hj => n43_at (by omega)
theorem smL_43 (a : Nat → Int) : smL (n43 a) = smL a := listF_eq0.2 fun j hj => n43_at (by omega)
theorem setS_in {v a : Nat → Int} {j : Nat} (h : j < 5) : setS v a (5 + j) = v j := by
  unfold setS
  rw [show (Nat.ble 5 (5 + j)).and (Nat.blt (5 + j) 10) = true by
    rw [Nat.ble_eq_true_of_le (by omega), show Nat.blt (5 + j) 10 = true from Nat.ble_eq_true_of_le (by omega)]; rfl, show 5 + j - 5 = j by omega]
  rfl
theorem setS_out {v a : Nat → Int} {j : Nat} (h : j < 5 ∨ 10 ≤ j) : setS v a j = a j := by
  unfold setS
  have : (Nat.ble 5 j).and (Nat.blt j 10) = false := by
    rcases h with h | h
    · have : Nat.ble 5 j = false := by
        cases e : Nat.ble 5 j with
        | false => rfl
        | true => have := Nat.le_of_ble_eq_true e; omega
      rw [this]; rfl
    · have : Nat.blt j 10 = false := by
        cases e : Nat.blt j 10 with
        | false => rfl
        | true => have : j + 1 ≤ 10 := Nat.le_of_ble_eq_true e; omega
      rw [this]; cases Nat.ble 5 j <;> rfl
  rw [this]; rfl
/-- one block more -/
theorem plus_is {T : Int} {X : List Int} {by' sm b : List Int} {i : Nat} (hby : Is by' T) (hsm : Is sm (dS T X i)) (hX : Bytes X) (hb : ∀ j, j < 17 → b.getD j 0 = fbN X i j) : Is (L5 (plusN by' sm b)) (dS T X (i + 1)) := by
  have hbk : Is (L5 (blockN b)) (leN 17 (atL b) 0) := is_block fun j hj => by
    show Byte (b.getD j 0)
    rw [hb j hj]; exact fbN_byte hX i j
  have e : leN 17 (atL b) 0 = leN 17 (fbN X i) 0 := leN_congr 17 0 fun j hj => by rw [Nat.zero_add]; exact hb j hj
  have := is_mul (is_add hsm hbk) hby
  refine Is.cong this ?_
  rw [e, dS_step]
theorem full_at {X : List Int} {i : Nat} (h : 16 * (i + 1) ≤ X.length) : ∀ j, j < 17 → (((X.drop (16 * i)).take 16) ++ [1]).getD j 0 = fbN X i j := fun j hj => by
  have hl : ((X.drop (16 * i)).take 16).length = 16 := by rw [List.length_take, List.length_drop]; omega
  unfold fbN
  by_cases hj16 : j < 16
  · rw [if_pos ⟨by omega, hj16⟩, List.getD_eq_getElem?_getD, List.getElem?_append_left (by omega), List.getElem?_take, if_pos hj16, List.getElem?_drop, ← List.getD_eq_getElem?_getD]
  · rw [if_neg (by omega), if_pos (by omega), List.getD_eq_getElem?_getD, List.getElem?_append_right (by omega), hl, show j - 16 = 0 by omega]; rfl
theorem tk_is {T : Int} {X : List Int} {a : Nat → Int} {i : Nat} (hby : Is (byL a) T) (hsm : Is (smL a) (dS T X i)) (hX : Bytes X) {b : List Int} (hb : ∀ j, j < 17 → (b ++ [1]).getD j 0 = fbN X i j) :
    Is (smL (tkA a b)) (dS T X (i + 1)) ∧ ∀ j, j < 43 → (j < 5 ∨ 10 ≤ j) → tkA a b j = a j := by
  refine ⟨?_, fun j h1 h2 => by rw [tkA, setS_out h2, n43_at h1]⟩
  have e : smL (tkA a b) = L5 (plusN (byL (n43 a)) (smL (n43 a)) (b ++ [1])) := listF_eq0.2 fun j hj => setS_in hj
  rw [e, byL_43, smL_43]
  exact plus_is hby hsm hX hb
theorem byL_of {a a' : Nat → Int} (h : ∀ j, j < 43 → (j < 5 ∨ 10 ≤ j) → a' j = a j) : byL a' = byL a := listF_eq0.2 fun j hj => h j (by omega) (.inl hj)
/-- whole blocks -/
theorem lp_is {T : Int} {X l : List Int} {a : Nat → Int} {i0 : Nat} (hby : Is (byL a) T) (hsm : Is (smL a) (dS T X i0)) (hX : Bytes X) (hl : l = X.drop (16 * i0)) (h0 : 16 * i0 ≤ X.length) : ∀ n, n ≤ l.length / 16 →
    Is (smL (lpA a l n)) (dS T X (i0 + n)) ∧ ∀ j, j < 43 → (j < 5 ∨ 10 ≤ j) → lpA a l n j = a j
  | 0, _ => ⟨hsm, fun _ _ _ => rfl⟩
  | n + 1, hn => by
    obtain ⟨i1, i2⟩ := lp_is hby hsm hX hl h0 n (by omega)
    have hll : l.length = X.length - 16 * i0 := by rw [hl, List.length_drop]
    have hb : ∀ j, j < 17 → (((l.drop (16 * n)).take 16) ++ [1]).getD j 0 = fbN X (i0 + n) j := by
      rw [hl, List.drop_drop, show 16 * i0 + 16 * n = 16 * (i0 + n) by omega]
      exact full_at (by omega)
    obtain ⟨t1, t2⟩ := tk_is (a := lpA a l n) (by rw [byL_of i2]; exact hby) i1 hX hb
    exact ⟨t1, fun j h1 h2 => by rw [show lpA a l (n + 1) = tkA (lpA a l n) ((l.drop (16 * n)).take 16) from rfl, t2 j h1 h2, i2 j h1 h2]⟩
theorem bytes_app {X l : List Int} (h : Bytes X) (h2 : Bytes l) : Bytes (X ++ l) := fun j => by
  by_cases hj : j < X.length
  · rw [List.getD_eq_getElem?_getD, List.getElem?_append_left hj, ← List.getD_eq_getElem?_getD]; exact h j
  · rw [List.getD_eq_getElem?_getD, List.getElem?_append_right (by omega), ← List.getD_eq_getElem?_getD]; exact h2 _
theorem and_true' {x y : Bool} (h : x = true) (h2 : y = true) : x.and y = true := by rw [h, h2]; rfl
theorem tlA_blk {a : Nat → Int} {p : List Int} {j : Nat} (hj : j < 16) (hp : p.length ≤ 16) : tlA a p (26 + j) = if j < p.length then p.getD j 0 else a (26 + j) := by
  unfold tlA
  rw [and_true' (Nat.ble_eq_true_of_le (by omega)) (show Nat.blt (26 + j) 42 = true from Nat.ble_eq_true_of_le (by omega)), show 26 + j - 26 = j by omega]
  have e : p.take 16 = p := List.take_of_length_le hp
  rw [e, Nat.sub_zero]
  simp only [cond_true]
  by_cases h : j < p.length
  · rw [if_pos ⟨Nat.zero_le _, by omega⟩, if_pos h]
  · rw [if_neg (by omega), if_neg h]
theorem bl_false {m n : Nat} (h : ¬ m < n) : Nat.blt m n = false := by
  cases e : Nat.blt m n with
  | false => rfl
  | true => have : m + 1 ≤ n := Nat.le_of_ble_eq_true e; omega
theorem ble_false {m n : Nat} (h : ¬ m ≤ n) : Nat.ble m n = false := by
  cases e : Nat.ble m n with
  | false => rfl
  | true => have := Nat.le_of_ble_eq_true e; omega
theorem tlA_lo {a : Nat → Int} {p : List Int} {j : Nat} (hj : j < 26) : tlA a p j = a j := by
  unfold tlA
  rw [ble_false (show ¬ 26 ≤ j by omega), show Nat.beq j 42 = false from by cases e : Nat.beq j 42 with | false => rfl | true => have := Nat.eq_of_beq_eq_true e; omega]
  rfl
theorem tlA_held {a : Nat → Int} {p : List Int} (hp : p.length ≤ 16) : tlA a p 42 = (p.length : Int) := by
  show ((min p.length 16 : Nat) : Int) = _
  rw [Nat.min_eq_left hp]
theorem rs_len (l : List Int) : (rsL l).length = l.length % 16 := by rw [rsL, List.length_drop]; omega
theorem rs_get (l : List Int) (j : Nat) : (rsL l).getD j 0 = l.getD (16 * (l.length / 16) + j) 0 := by
  rw [rsL, List.getD_eq_getElem?_getD, List.getElem?_drop, ← List.getD_eq_getElem?_getD]
/-- behind the blocks, and what is left -/
theorem MS_rest {T : Int} {mk : Nat → Int} {X l : List Int} {a : Nat → Int} {i0 : Nat} (hby : Is (byL a) T) (hsm : Is (smL a) (dS T X i0)) (hmk : ∀ j, j < 16 → a (10 + j) = mk j) (hbl : ∀ j, j < 16 → a (26 + j) = 0) (hh : a 42 = 0) (hX : Bytes X)
    (hl : l = X.drop (16 * i0)) (h0 : 16 * i0 ≤ X.length) : MS T mk X (if 0 < (rsL l).length then tlE a l else lpE a l) := by
  have hll : l.length = X.length - 16 * i0 := by rw [hl, List.length_drop]
  have ed : X.length / 16 = i0 + l.length / 16 := by omega
  have em : X.length % 16 = l.length % 16 := by omega
  have hg : ∀ j, l.getD (16 * (l.length / 16) + j) 0 = X.getD (16 * (X.length / 16) + j) 0 := fun j => by
    rw [hl, List.getD_eq_getElem?_getD, List.getElem?_drop, ← List.getD_eq_getElem?_getD, ← hl]
    congr 1; omega
  obtain ⟨i1, i2⟩ := lp_is (a := n43 a) (l := l) (by rw [byL_43]; exact hby) (by rw [smL_43]; exact hsm) hX hl h0 (l.length / 16) (Nat.le_refl _)
  have e43 : ∀ j, j < 43 → (j < 5 ∨ 10 ≤ j) → lpE a l j = a j := fun j h1 h2 => by rw [lpE, i2 j h1 h2, n43_at h1]
  have B : Is (byL (lpE a l)) T := by rw [byL_of e43]; exact hby
  have S : Is (smL (lpE a l)) (dS T X (X.length / 16)) := by rw [ed]; exact i1
  have rl := rs_len l
  by_cases hr : 0 < (rsL l).length
  · rw [if_pos hr]
    refine ⟨?_, ?_, fun j hj => ?_, fun j hj => ?_, ?_, hX⟩
    · rw [show byL (tlE a l) = byL (lpE a l) from listF_eq0.2 fun j hj => tlA_lo (by omega)]; exact B
    · rw [show smL (tlE a l) = smL (lpE a l) from listF_eq0.2 fun j hj => tlA_lo (by omega)]; exact S
    · rw [tlE, tlA_lo (by omega), e43 _ (by omega) (by omega)]; exact hmk j hj
    · rw [tlE, tlA_blk hj (by omega), rl, em, rs_get, hg, e43 _ (by omega) (by omega), hbl j hj]
    · rw [tlE, tlA_held (by omega), rl, em]
  · rw [if_neg hr]
    have hm : X.length % 16 = 0 := by omega
    refine ⟨B, S, fun j hj => by rw [e43 _ (by omega) (by omega)]; exact hmk j hj, fun j hj => ?_, ?_, hX⟩
    · rw [e43 _ (by omega) (by omega), hbl j hj, hm, if_neg (by omega)]
    · rw [e43 42 (by omega) (by omega), hh, hm]; rfl
theorem ov_lo {a : Nat → Int} {l : List Int} {j : Nat} (hj : j < 26) : ovA a l j = a j := by
  unfold ovA
  rw [ble_false (show ¬ 26 ≤ j by omega), show Nat.beq j 42 = false from by cases e : Nat.beq j 42 with | false => rfl | true => have := Nat.eq_of_beq_eq_true e; omega]
  rfl
theorem ov_blk {a : Nat → Int} {l : List Int} {j : Nat} (hj : j < 16) : ovA a l (26 + j) = if (a 42).toNat ≤ j ∧ j < (a 42).toNat + (l.take (16 - (a 42).toNat)).length then (l.take (16 - (a 42).toNat)).getD (j - (a 42).toNat) 0 else a (26 + j) := by
  unfold ovA
  rw [and_true' (Nat.ble_eq_true_of_le (by omega)) (show Nat.blt (26 + j) 42 = true from Nat.ble_eq_true_of_le (by omega)), show 26 + j - 26 = j by omega]
  rfl
theorem ov_held {a : Nat → Int} {l : List Int} : ovA a l 42 = a 42 + kN a l := rfl
/-- Write -/
theorem MS_write {T : Int} {mk : Nat → Int} {X l : List Int} {a : Nat → Int} (h : MS T mk X a) (hl : Bytes l) : MS T mk (X ++ l) (wrA a l) := by
  obtain ⟨hby, hsm, hmk, hbl, hh, hX⟩ := h
  have hY := bytes_app hX hl
  have hlen : (X ++ l).length = X.length + l.length := List.length_append
  unfold wrA
  by_cases h0 : 0 < a 42
  · rw [if_pos h0]
    generalize hi : X.length / 16 = i0 at *
    generalize hm : X.length % 16 = h at *
    have hXl : X.length = 16 * i0 + h := by omega
    have hh' : (a 42).toNat = h := by omega
    have hh16 : h < 16 := by omega
    have kE : kN a l = ((min l.length (16 - h) : Nat) : Int) := by simp only [kN, hh']
    have tE : (l.take (16 - h)).length = min (16 - h) l.length := List.length_take
    -- the block with the piece over it
    have oB : ∀ j, j < 16 → ovA a l (26 + j) = if j < min 16 (h + l.length) then (X ++ l).getD (16 * i0 + j) 0 else 0 := fun j hj => by
      rw [ov_blk hj, hh', hbl j hj, tE]
      by_cases c1 : j < h
      · rw [if_neg (by omega), if_pos c1, if_pos (by omega), List.getD_eq_getElem?_getD, List.getD_eq_getElem?_getD, List.getElem?_append_left (by omega)]
      · by_cases c2 : j < h + min (16 - h) l.length
        · rw [if_pos ⟨by omega, c2⟩, if_pos (by omega), List.getD_eq_getElem?_getD, List.getElem?_take, if_pos (by omega), List.getD_eq_getElem?_getD, List.getElem?_append_right (by omega)]
          congr 2; omega
        · rw [if_neg (by omega), if_neg c1, if_neg (by omega)]
    have oBy : byL (ovA a l) = byL a := listF_eq0.2 fun j hj => ov_lo (by omega)
    have oSm : smL (ovA a l) = smL a := listF_eq0.2 fun j hj => ov_lo (by omega)
    have oMk : ∀ j, j < 16 → ovA a l (10 + j) = mk j := fun j hj => by rw [ov_lo (by omega)]; exact hmk j hj
    have sY : Is (smL (ovA a l)) (dS T (X ++ l) i0) := by rw [oSm, dS_app T X l i0 (by omega)]; exact hsm
    by_cases h16 : a 42 + kN a l = 16
    · rw [if_pos h16]
      have hk : min l.length (16 - h) = 16 - h := by omega
      have hge : 16 - h ≤ l.length := by omega
      have hb : ∀ j, j < 17 → (zeB (ovA a l) ++ [1]).getD j 0 = fbN (X ++ l) i0 j := fun j hj => by
        have zl : (zeB (ovA a l)).length = 16 := listF_length _ _ _
        unfold fbN
        by_cases hj16 : j < 16
        · have e : (zeB (ovA a l)).getD j 0 = n43 (ovA a l) (26 + j) := atLF hj16
          rw [if_pos ⟨by omega, hj16⟩, List.getD_eq_getElem?_getD, List.getElem?_append_left (by omega), ← List.getD_eq_getElem?_getD, e, n43_at (by omega), oB j hj16, if_pos (by omega)]
        · rw [if_neg (by omega), if_pos (by omega), List.getD_eq_getElem?_getD, List.getElem?_append_right (by omega), zl, show j - 16 = 0 by omega]; rfl
      obtain ⟨t1, t2⟩ := tk_is (a := ovA a l) (by rw [oBy]; exact hby) sY hY hb
      have cl : ∀ j, j < 26 → eqA a l j = tkA (ovA a l) (zeB (ovA a l)) j := fun j hj => by
        show (bif Nat.ble 26 j then 0 else _) = _
        rw [ble_false (by omega)]; rfl
      have ch : ∀ j, 26 ≤ j → eqA a l j = 0 := fun j hj => by
        show (bif Nat.ble 26 j then 0 else _) = _
        rw [Nat.ble_eq_true_of_le hj]; rfl
      have el : l1 a l = (X ++ l).drop (16 * (i0 + 1)) := by
        have : (kN a l).toNat = 16 - h := by omega
        have hd : (X ++ l).drop (16 * (i0 + 1)) = l.drop (16 - h) := by
          rw [List.drop_append, List.drop_eq_nil_of_le (show X.length ≤ 16 * (i0 + 1) by omega), List.nil_append]
          congr 1; omega
        rw [l1, this, hd, List.take_of_length_le (by rw [List.length_drop]; omega)]
      exact MS_rest (i0 := i0 + 1) (by rw [show byL (eqA a l) = byL (tkA (ovA a l) (zeB (ovA a l))) from listF_eq0.2 fun j hj => cl j (by omega), byL_of t2, oBy]; exact hby)
        (by rw [show smL (eqA a l) = smL (tkA (ovA a l) (zeB (ovA a l))) from listF_eq0.2 fun j hj => cl _ (by omega)]; exact t1)
        (fun j hj => by rw [cl _ (by omega), t2 _ (by omega) (by omega)]; exact oMk j hj) (fun j hj => ch _ (by omega)) (ch 42 (by omega)) hY el (by omega)
    · rw [if_neg h16]
      have hk : h + l.length < 16 := by omega
      have kl : kN a l = (l.length : Int) := by rw [kE]; congr 1; omega
      have l1n : l1 a l = [] := by
        rw [l1, kl]
        simp
      have e : ∀ j, j < 43 → lpE (ovA a l) (l1 a l) j = ovA a l j := fun j hj => by
        rw [l1n]
        show n43 (ovA a l) j = _
        exact n43_at hj
      have d1 : (X ++ l).length / 16 = i0 := by omega
      have d2 : (X ++ l).length % 16 = h + l.length := by omega
      refine ⟨?_, ?_, fun j hj => ?_, fun j hj => ?_, ?_, hY⟩
      · rw [show byL (lpE (ovA a l) (l1 a l)) = byL (ovA a l) from listF_eq0.2 fun j hj => e j (by omega), oBy]; exact hby
      · rw [show smL (lpE (ovA a l) (l1 a l)) = smL (ovA a l) from listF_eq0.2 fun j hj => e _ (by omega), d1]; exact sY
      · rw [e _ (by omega)]; exact oMk j hj
      · rw [e _ (by omega), oB j hj, d1, d2, show min 16 (h + l.length) = h + l.length by omega]
      · rw [e 42 (by omega), ov_held, kl, d2, hh]; omega
  · rw [if_neg h0]
    have hm : X.length % 16 = 0 := by omega
    have hz : a 42 = 0 := by omega
    exact MS_rest (i0 := X.length / 16) hby (by rw [dS_app T X l _ (by omega)]; exact hsm) hmk (fun j hj => by rw [hbl j hj, hm, if_neg (by omega)]) hz hY (by
      rw [List.drop_append, List.drop_eq_nil_of_le (by omega), List.nil_append, show 16 * (X.length / 16) - X.length = 0 by omega, List.drop_zero]) (by omega)
/-- Tag -/
def dTag (T : Int) (mk : Nat → Int) (X : List Int) : List Int := listF 16 (byteN (leN 16 (byteN (dS T X ((X.length + 15) / 16))) 0 + leN 16 mk 0)) 0
theorem dS_lt (T : Int) (X : List Int) : ∀ i, 0 ≤ dS T X i ∧ dS T X i < P5
  | 0 => ⟨Int.le_refl 0, (by decide : (0 : Int) < P5)⟩
  | i + 1 => modP _
theorem MS_tag {T : Int} {mk : Nat → Int} {X : List Int} {a : Nat → Int} (h : MS T mk X a) (hk : ∀ j, j < 16 → Byte (mk j)) : listF 16 (tgN a) 0 = dTag T mk X := by
  obtain ⟨hby, hsm, hmk, hbl, hh, hX⟩ := h
  have mkL_at : ∀ j, j < 16 → atL (mkL a) j = mk j := fun j hj => by rw [show atL (mkL a) j = a (10 + j) from atLF hj]; exact hmk j hj
  have fin : ∀ {x : List Int} {N : Int}, Is x N → 0 ≤ N ∧ N < P5 → listF 16 (sumN x (mkL a)) 0 = listF 16 (byteN (leN 16 (byteN N) 0 + leN 16 mk 0)) 0 := fun {x N} hx hN => by
    rw [sumN_eq fun j hj => by rw [mkL_at j hj]; exact hk j hj]
    have e1 : leN 16 (bytesN x) 0 = leN 16 (byteN N) 0 := leN_congr 16 0 fun j hj => by rw [Nat.zero_add, bytesN_at hx (show j < 17 by omega), Int.emod_eq_of_lt hN.1 hN.2]
    have e2 : leN 16 (atL (mkL a)) 0 = leN 16 mk 0 := leN_congr 16 0 fun j hj => by rw [Nat.zero_add]; exact mkL_at j hj
    rw [e1, e2]
  unfold tgN dTag
  by_cases h0 : 0 < a 42
  · rw [if_pos h0]
    have hm : (a 42).toNat = X.length % 16 := by omega
    have hb : ∀ j, j < 17 → (tbL a).getD j 0 = fbN X (X.length / 16) j := fun j hj => by
      have e : (tbL a).getD j 0 = if (a 42).toNat = j then 1 else (bif Nat.blt j 16 then a (26 + j) else 0) := atLF (n := 17) (a := fun j => if (a 42).toNat = j then 1 else (bif Nat.blt j 16 then a (26 + j) else 0)) hj
      rw [e, hm]
      unfold fbN
      by_cases c : X.length % 16 = j
      · rw [if_pos c, if_neg (by omega), if_pos (by omega)]
      · rw [if_neg c]
        by_cases c2 : j < X.length % 16
        · rw [show Nat.blt j 16 = true from Nat.ble_eq_true_of_le (by omega), if_pos ⟨by omega, by omega⟩]
          show a (26 + j) = _
          rw [hbl j (by omega), if_pos c2]
        · rw [if_neg (by omega), if_neg (by omega)]
          by_cases c3 : j < 16
          · rw [show Nat.blt j 16 = true from Nat.ble_eq_true_of_le (by omega)]
            show a (26 + j) = _
            rw [hbl j c3, if_neg c2]
          · rw [bl_false c3]; rfl
    have := plus_is hby hsm hX hb
    rw [show (X.length + 15) / 16 = X.length / 16 + 1 by omega]
    exact fin this (dS_lt T X _)
  · rw [if_neg h0, show (X.length + 15) / 16 = X.length / 16 by omega]
    exact fin hsm (dS_lt T X _)
end Go.Proofs.Ytejcjdhplpjpjaa
