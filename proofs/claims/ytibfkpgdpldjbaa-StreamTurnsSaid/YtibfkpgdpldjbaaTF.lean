/- Accounts of this seat's functions: lemmas, no statement of their own. No conditions. -/
import Derived.Test.YtibfkpgdpldjbaaTE
namespace Go.Proofs.Ytibfkpgdpldjbaa
open Go Go.Vx

/-! ### plain law: four blocks at once are four blocks -/
theorem dr_congr {x y : Nat → Int} (h : ∀ i, i < 16 → x i = y i) : dr x = dr y := by
  unfold dr
  simp only [h 0 (by decide), h 1 (by decide), h 2 (by decide), h 3 (by decide), h 4 (by decide), h 5 (by decide), h 6 (by decide), h 7 (by decide), h 8 (by decide), h 9 (by decide), h 10 (by decide), h 11 (by decide), h 12 (by decide), h 13 (by decide), h 14 (by decide), h 15 (by decide)]
theorem drN_congr {x y : Nat → Int} (h : ∀ i, i < 16 → x i = y i) : ∀ n i, i < 16 → drN n x i = drN n y i
  | 0, i, hi => h i hi
  | n + 1, i, _ => by simp only [drN, dr_congr (drN_congr h n)]
theorem drN4_lane (b : Nat → Int) {k : Nat} (hk : k < 4) : ∀ n i, i < 16 → drN4 n b (4 * i + k) = drN n (lane k b) i
  | 0, _, _ => rfl
  | n + 1, i, hi => by
    show dr (lane ((4 * i + k) % 4) (drN4 n b)) ((4 * i + k) / 4) = dr (drN n (lane k b)) i
    rw [show (4 * i + k) % 4 = k by omega, show (4 * i + k) / 4 = i by omega]
    exact congrFun (dr_congr (x := lane k (drN4 n b)) fun i' hi' => drN4_lane b hk n i' hi') i
def bump (s : Nat → Int) (c : Nat) : Nat → Int := fun i => if i = 12 then uadd .u32 (s 12) (c : Nat) else s i
def sb (s : Nat → Int) (j : Nat) : Int := blk (bump s (j / 64)) (j % 64)
theorem atL_listF {n : Nat} {f : Nat → Int} {j : Nat} (h : j < n) : atL (listF n f 0) j = f j := by
  unfold atL
  rw [List.getD_eq_getElem?_getD, listF_get, if_pos h, Nat.zero_add]; rfl
theorem lane_bg (s : Nat → Int) {k i : Nat} (hk : k < 4) (hi : i < 16) : lane k (atL (listF 64 (bg s) 0)) i = bump s k i := by
  unfold lane
  rw [atL_listF (by omega)]
  unfold bg bump
  rw [show (4 * i + k) / 4 = i by omega, show (4 * i + k) % 4 = k by omega]
theorem fw_bump (s : Nat → Int) {t : Nat} (ht : t < 64) : fw (atL (listF 64 (bg s) 0)) t = uadd .u32 (drN 10 (bump s (t / 16)) (t % 16)) (bump s (t / 16) (t % 16)) := by
  unfold fw
  have hk : t / 16 < 4 := by omega
  have hi : t % 16 < 16 := by omega
  rw [drN4_lane _ hk 10 _ hi, drN_congr (fun i h => lane_bg s hk h) 10 _ hi]
  congr 1
  exact lane_bg s hk hi
theorem byt_blk (s : Nat → Int) {t n : Nat} (ht : t < 64) (hn : n < 4) : byt (fw (atL (listF 64 (bg s) 0)) t) n = sb s (4 * t + n) := by
  rw [fw_bump s ht]
  unfold sb blk byt
  have e1 : (4 * t + n) / 64 = t / 16 := by omega
  have e2 : (4 * t + n) % 64 / 4 = t % 16 := by omega
  have e3 : (4 * t + n) % 64 % 4 = n := by omega
  rw [e1, e2, e3]
  congr 2

/-! ### bytes, some of them turned -/
def xorF (l : List Int) (off m : Nat) (f : Nat → Int) : List Int := (List.range l.length).map fun p => if off ≤ p ∧ p < off + m then uxor (l.getD p 0) (f (p - off)) else l.getD p 0
theorem xorF_len (l : List Int) (off m : Nat) (f : Nat → Int) : (xorF l off m f).length = l.length := by simp [xorF]
theorem xorF_get (l : List Int) (off m : Nat) (f : Nat → Int) {p : Nat} (hp : p < l.length) : (xorF l off m f).getD p 0 = if off ≤ p ∧ p < off + m then uxor (l.getD p 0) (f (p - off)) else l.getD p 0 := by
  unfold xorF
  rw [List.getD_eq_getElem?_getD, List.getElem?_map, List.getElem?_range hp]; rfl
theorem ext_getD {l l' : List Int} (h : l.length = l'.length) (h2 : ∀ p, p < l.length → l.getD p 0 = l'.getD p 0) : l = l' := by
  apply List.ext_getElem h
  intro p h1 h3
  have := h2 p h1
  rw [List.getD_eq_getElem?_getD, List.getD_eq_getElem?_getD, List.getElem?_eq_getElem h1, List.getElem?_eq_getElem h3] at this
  simpa using this
theorem getD_set {l : List Int} {k p : Nat} {v : Int} (hp : p < l.length) : (l.set k v).getD p 0 = if k = p then v else l.getD p 0 := by
  rw [List.getD_eq_getElem?_getD, List.getElem?_set, List.getD_eq_getElem?_getD]
  split
  · rename_i e; subst e; simp [hp]
  · rfl
theorem xwN_get (l : List Int) (c : Nat) (w : Int) : ∀ n p, p < l.length → (xwN l c w n).getD p 0 = if c ≤ p ∧ p < c + n then uxor (l.getD p 0) (byt w (p - c)) else l.getD p 0
  | 0, p, hp => by rw [if_neg (by omega)]; rfl
  | n + 1, p, hp => by
    have hl := xwN_len l c w n
    simp only [xwN]
    rw [getD_set (by omega)]
    split
    · rename_i e
      subst e
      rw [if_pos (by omega), xwN_get l c w n _ hp, if_neg (by omega)]
      congr 2; omega
    · rename_i e
      rw [xwN_get l c w n p hp]
      by_cases h : c ≤ p ∧ p < c + n
      · rw [if_pos h, if_pos (by omega)]
      · rw [if_neg h, if_neg (by omega)]
theorem xw_len (l : List Int) (p : Nat) (w : Int) : (xw l p w).length = l.length := xwN_len l p w 4
theorem fold_len (q : Nat) (W : Nat → Int) : ∀ (L : List Nat) (l : List Int), (L.foldl (fun l t => xw l (q + 4 * t) (W t)) l).length = l.length
  | [], l => rfl
  | t :: L, l => by rw [List.foldl_cons, fold_len q W L, xw_len]
theorem fold_get (q : Nat) (W : Nat → Int) : ∀ (L : List Nat), L.Nodup → (∀ t ∈ L, t < 64) → ∀ (l : List Int) (p : Nat), p < l.length →
    (L.foldl (fun l t => xw l (q + 4 * t) (W t)) l).getD p 0 = if q ≤ p ∧ p < q + 256 ∧ (p - q) / 4 ∈ L then uxor (l.getD p 0) (byt (W ((p - q) / 4)) ((p - q) % 4)) else l.getD p 0
  | [], _, _, l, p, _ => by simp
  | t :: L, hn, hL, l, p, hp => by
    have h1 := List.nodup_cons.1 hn
    have ht := hL t (by simp)
    rw [List.foldl_cons, fold_get q W L h1.2 (fun u hu => hL u (by simp [hu])) _ p (by rw [xw_len]; exact hp)]
    have hx : (xw l (q + 4 * t) (W t)).getD p 0 = if q + 4 * t ≤ p ∧ p < q + 4 * t + 4 then uxor (l.getD p 0) (byt (W t) (p - (q + 4 * t))) else l.getD p 0 := xwN_get l _ _ 4 p hp
    rw [hx]
    by_cases hw : q + 4 * t ≤ p ∧ p < q + 4 * t + 4
    · have e : (p - q) / 4 = t := by omega
      rw [if_pos hw, e, if_neg (by intro h; exact h1.1 h.2.2), if_pos ⟨by omega, by omega, by simp⟩]
      congr 2; omega
    · rw [if_neg hw]
      by_cases hm : q ≤ p ∧ p < q + 256 ∧ (p - q) / 4 ∈ L
      · rw [if_pos hm, if_pos ⟨hm.1, hm.2.1, by simp [hm.2.2]⟩]
      · rw [if_neg hm, if_neg]
        intro h
        obtain ⟨a, b, c⟩ := h
        rcases List.mem_cons.1 c with e | e
        · exact hw (by omega)
        · exact hm ⟨a, b, e⟩
theorem ord4_nd : ord4.Nodup := by decide
theorem ord4_lt : ∀ t ∈ ord4, t < 64 := by decide
theorem ord4_mem : ∀ t, t < 64 → t ∈ ord4 := by decide
theorem four_eq (l : List Int) (q : Nat) (s : Nat → Int) : fourL l q (fw (atL (listF 64 (bg s) 0))) = xorF l q 256 (sb s) := by
  unfold fourL
  refine ext_getD (by rw [fold_len, xorF_len]) fun p hp => ?_
  rw [fold_len] at hp
  rw [fold_get q _ ord4 ord4_nd ord4_lt l p hp, xorF_get l q 256 _ hp]
  by_cases h : q ≤ p ∧ p < q + 256
  · have ht : (p - q) / 4 < 64 := by omega
    rw [if_pos ⟨h.1, h.2, ord4_mem _ ht⟩, if_pos h, byt_blk s ht (by omega), show 4 * ((p - q) / 4) + (p - q) % 4 = p - q by omega]
  · rw [if_neg fun hh => h ⟨hh.1, hh.2.1⟩, if_neg h]
theorem fourCs_ok (q : Nat) (W : Nat → Int) : ∀ (L : List Nat) (l : List Int), (∀ t ∈ L, t < 64) → q + 256 ≤ l.length → AllC (fourCs q W L l)
  | [], _, _, _ => by simp [fourCs, AllC]
  | t :: L, l, h, hq => by
    have ht := h t (by simp)
    have hr := fourCs_ok q W L (xw l (q + 4 * t) (W t)) (fun u hu => h u (by simp [hu])) (by rw [xw_len]; exact hq)
    unfold fourCs
    simp only [allC_cons]
    exact ⟨fi_loop, by omega, by omega, by omega, by omega, hq, hr⟩
noncomputable def F28 : SumF := fun args B => match args, B with
  | [.agg xs, .sptr 0 0 q 1 0], [.ints K l] => match sameK K .u8, numsAs (List.replicate 16 .u32) xs with
    | true, some ls => some { val := .tuple [], upd := [(0, some (.ints .u8 (xorF l q 256 (sb (atL ls)))))], C := [q + 256 ≤ l.length] }
    | _, _ => none
  | _, _ => none
theorem acc28 : Acc g2 28 F28 := by
  intro args B out h hC
  unfold F28 at h
  split at h
  · rename_i xs q K l
    split at h
    · rename_i ls hK hx
      obtain rfl := kidx_inj hK
      simp only [Option.some.injEq] at h; subst h
      have hq : q + 256 ≤ l.length := hC _ (by simp)
      refine FnOk.imp (args' := [.agg (w16 (atL ls)), .sptr 0 0 q 1 0]) ?_ ⟨nums_imp hx, DenImp.refl _, trivial⟩
      have hr := four_run q l (atL ls)
      rw [four_eq] at hr
      refine FnOk.run g2_ok hr ?_ (by simp [upto]) rfl (by simp) (by simp) ?_
      · rw [allC_cons]
        exact ⟨fr_loop, fourCs_ok q _ ord4 l ord4_lt hq⟩
      · intro j hj
        match j, hj with
        | 0, _ => rfl
    · simp at h
  · simp at h
end Go.Proofs.Ytibfkpgdpldjbaa
