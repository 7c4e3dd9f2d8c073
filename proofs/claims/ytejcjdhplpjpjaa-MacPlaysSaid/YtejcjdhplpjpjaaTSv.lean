/- Accounts of this seat's functions: lemmas, no statement of their own. No conditions. -/
import Derived.Test.YtejcjdhplpjpjaaTSq
import Derived.Test.YtejcjdhplpjpjaaTSf
namespace Go.Proofs.Ytejcjdhplpjpjaa
open Go Go.Vx
/-! ### MacPlays: plain facts of a round -/
theorem rI_mod {n : Int} (h : 0 ≤ n) : rI n = n % 16 := by
  show n - 16 * ((n.toNat / 16 : Nat) : Int) = n % 16
  omega
theorem ewH_mod {h n : Int} (h1 : 0 ≤ h ∧ h < 16) (h2 : 0 ≤ n) : ewH h n = (h + n) % 16 := by
  unfold ewH
  by_cases c : 0 < h
  · rw [if_pos c]
    by_cases c2 : n < 16 - h
    · rw [if_pos c2]; omega
    · rw [if_neg c2, rI_mod (by omega)]
      split <;> omega
  · rw [if_neg c, rI_mod h2]
    split <;> omega
theorem spS_eq (e : List Int) : spS e = roomL e := by
  show ((roomL e).drop (0 + 0)).take (e.length + 70) = roomL e
  rw [Nat.add_zero, List.drop_zero, List.take_of_length_le (by rw [roomL_len]; exact Nat.le_refl _)]
theorem spD_eq {D e : List Int} {L : Nat} (h : e.length + 70 ≤ L) : spD D e L = roomL e ++ D.drop (e.length + 70) := by
  show splice D (0 + 0) ((spS e).take L) = _
  rw [spS_eq, List.take_of_length_le (by rw [roomL_len]; exact h)]
  simp [splice, roomL_len]
theorem spD_len {D e : List Int} {L : Nat} (h : e.length + 70 ≤ L) (hD : D.length = L) : (spD D e L).length = L := by
  rw [spD_eq h, List.length_append, roomL_len, List.length_drop]; omega
theorem spD_room {D e : List Int} {L : Nat} (h : e.length + 70 ≤ L) : subI (spD D e L) 0 (e.length + 70) = roomL e := by
  rw [spD_eq h, subI, List.drop_zero, List.take_append_of_le_length (by rw [roomL_len]; exact Nat.le_refl _), List.take_of_length_le (by rw [roomL_len]; exact Nat.le_refl _)]
theorem spD_piece {D e : List Int} {L : Nat} (h : e.length + 70 ≤ L) : subI (spD D e L) 0 e.length = e := by
  rw [spD_eq h, subI, List.drop_zero, List.take_append_of_le_length (by rw [roomL_len]; omega)]
  refine extI (by rw [List.length_take, roomL_len]; omega) fun j hj => ?_
  rw [List.length_take, roomL_len] at hj
  have hj2 : j < e.length := by omega
  rw [List.getD_eq_getElem?_getD, List.getElem?_take, if_pos hj2, ← List.getD_eq_getElem?_getD, roomL_get e (by omega), if_pos hj2]
end Go.Proofs.Ytejcjdhplpjpjaa

namespace Go.Proofs.Ytejcjdhplpjpjaa
open Go Go.Vx
/-! ### MacPlays: what holds between the rounds -/
def xA (p : Nat → Bool) (d : Nat → List Int) : Nat → List Int
  | 0 => []
  | i + 1 => if p i = true then xA p d i else xA p d i ++ d i
noncomputable def aA (p : Nat → Bool) (a : Nat → Int) (d : Nat → List Int) : Nat → (Nat → Int)
  | 0 => a
  | i + 1 => if p i = true then aA p a d i else wrA (n43 (aA p a d i)) (d i)
noncomputable def wA (p : Nat → Bool) (a : Nat → Int) (d : Nat → List Int) : Nat → List (List Int)
  | 0 => []
  | i + 1 => if p i = true then wA p a d i ++ evT (n43 (aA p a d i) 42) else wA p a d i ++ evW (n43 (aA p a d i) 42) ((d i).length : Int)
/-- the desk -/
def DA (p : Nat → Bool) (d : Nat → List Int) (D : List Int) : Nat → List Int
  | 0 => D
  | i + 1 => if p i = true then DA p d D i else if (DA p d D i).length < (d i).length + 70 then flD (spD (gD (d i)) (d i) (gL (d i))) (gL (d i)) else flD (spD (DA p d D i) (d i) (DA p d D i).length) (DA p d D i).length
def sp7 (p : Nat → Bool) (d : Nat → List Int) (m : Nat) : Nat := firstI (fun i => decide (131072 < (xA p d i).length + (d i).length)) m
theorem sp7_le (p : Nat → Bool) (d : Nat → List Int) (m : Nat) : sp7 p d m ≤ m := (firstI_spec _ m).1
theorem sp7_lt {p : Nat → Bool} {d : Nat → List Int} {m i : Nat} (h : i < sp7 p d m) : (xA p d i).length + (d i).length ≤ 131072 := by
  have := (firstI_spec _ m).2.1 i h
  have := of_decide_eq_false this
  omega
theorem sp7_at {p : Nat → Bool} {d : Nat → List Int} {m : Nat} (h : sp7 p d m < m) : 131072 < (xA p d (sp7 p d m)).length + (d (sp7 p d m)).length := of_decide_eq_true ((firstI_spec _ m).2.2 h)
theorem xA_len {p : Nat → Bool} {d : Nat → List Int} {m : Nat} : ∀ i, i ≤ sp7 p d m → (xA p d i).length ≤ 131072
  | 0, _ => by simp [xA]
  | i + 1, h => by
    have := sp7_lt (show i < sp7 p d m by omega)
    simp only [xA]
    split
    · exact xA_len (m := m) i (by omega)
    · rw [List.length_append]; omega
theorem MS_A {T : Int} {mk : Nat → Int} {p : Nat → Bool} {d : Nat → List Int} {m : Nat} {a : Nat → Int} (h0 : MS T mk [] a) (hd : YB d m) : ∀ i, i ≤ m → MS T mk (xA p d i) (aA p a d i)
  | 0, _ => h0
  | i + 1, h => by
    have ih := MS_A (p := p) h0 hd i (by omega)
    simp only [xA, aA]
    split
    · exact ih
    · exact MS_write (MS_43 ih) (hd i (by omega))
theorem evT_len (h : Int) : (evT h).length ≤ 4 := by unfold evT; split <;> simp
theorem evW_len {h n : Int} (h1 : 0 ≤ h ∧ h < 16) (h2 : 0 ≤ n) : (evW h n).length ≤ 8 + n.toNat := by
  unfold evW
  split
  · split
    · rw [evE_len]; simp; omega
    · rw [evE_len]; simp; omega
  · rw [evE_len]; simp; omega
theorem wA_len {T : Int} {mk : Nat → Int} {p : Nat → Bool} {d : Nat → List Int} {m : Nat} {a : Nat → Int} (h0 : MS T mk [] a) (hd : YB d m) : ∀ i, i ≤ m → (wA p a d i).length ≤ 12 * i + (xA p d i).length
  | 0, _ => by simp [wA]
  | i + 1, h => by
    have ih := wA_len (p := p) h0 hd i (by omega)
    have M := MS_h (MS_43 (MS_A (p := p) h0 hd i (by omega)))
    simp only [wA, xA]
    split
    · have := evT_len (n43 (aA p a d i) 42)
      rw [List.length_append]; omega
    · have := evW_len M (Int.natCast_nonneg (d i).length)
      rw [Int.toNat_natCast] at this
      rw [List.length_append, List.length_append]; omega
theorem gL_eq (e : List Int) : gL e = 2 * e.length + 70 := by show (2 * (e.length : Int) + 70).toNat = _; omega
theorem DA_len {p : Nat → Bool} {d : Nat → List Int} {D : List Int} {m : Nat} (h0 : D.length = 64) : ∀ i, i ≤ sp7 p d m → (DA p d D i).length ≤ 300000
  | 0, _ => by simp only [DA]; omega
  | i + 1, h => by
    have ih := DA_len (p := p) (d := d) (m := m) h0 i (by omega)
    have hs := sp7_lt (show i < sp7 p d m by omega)
    have g := gL_eq (d i)
    simp only [DA]
    split
    · exact ih
    · split
      · rw [flD_len, spD_len (by omega) (by rw [List.length_replicate])]; omega
      · rw [flD_len, spD_len (by omega) rfl]; exact ih
/-- what is held -/
theorem held_next {T : Int} {mk : Nat → Int} {X : List Int} {a : Nat → Int} {e : List Int} (h : MS T mk X a) (he : Bytes e) : ewH (n43 a 42) (e.length : Int) = n43 (wrA (n43 a) e) 42 := by
  have h1 := MS_43 h
  have h2 := MS_43 (MS_write h1 he)
  rw [ewH_mod (MS_h h1) (by omega), h1.held, h2.held, List.length_append]
  omega
end Go.Proofs.Ytejcjdhplpjpjaa

namespace Go.Proofs.Ytejcjdhplpjpjaa
open Go Go.Vx
/-! ### MacPlays: a round -/
noncomputable abbrev pzS (p : Nat → Bool) (d : Nat → List Int) (m : Nat) (a : Nat → Int) (D : List Int) (i : Nat) : List (Nat × SV) := pyS p d m (DA p d D i).length (n43 (aA p a d i) 42) i
noncomputable abbrev pzB (p : Nat → Bool) (d : Nat → List Int) (k a : Nat → Int) (D : List Int) (i : Nat) : List Body := pyB k (aA p a d i) (wA p a d i) (wA p a d i) (xA p d i) (DA p d D i)
theorem id3 (u v t : Nat) : ∀ j : Nat, j < 3 → ([0, 1, 2, u, v, t] : List Nat)[j]? = some j := fun j hj => by
  match j, hj with
  | 0, _ => rfl
  | 1, _ => rfl
  | 2, _ => rfl
theorem pyC_ok {a : Nat → Int} {L i m : Nat} {D e x : List Int} {w : List (List Int)} (hL : e.length + 70 ≤ L) (hL2 : L ≤ 400000) (hD : D.length = L) (ha : 0 ≤ n43 a 42 ∧ n43 a 42 < 16) (hx : x.length + e.length ≤ 131072) (hw : w.length ≤ 1000000) (hi : i < m) (hm : m ≤ 400) : AllC (pyC1 a L D e w ++ (pyC2 L D e ++ pyC3 i L (n43 a 42) D e x w)) := by
  have hr := roomL_len e
  have hsp := spD_len hL hD
  have hl := fl_loop
  have hv := evW_len ha (Int.natCast_nonneg e.length)
  rw [Int.toNat_natCast] at hv
  have hs := congrArg List.length (spS_eq e)
  refine allC_append.2 ⟨?_, allC_append.2 ⟨?_, ?_⟩⟩
  · simp only [pyC1, allC_cons, allC_nil, and_true]
    have h1 : min (spS e).length L ≤ L := Nat.min_le_right _ _
    have h2 : ((spS e).take L).length ≤ L := by rw [List.length_take]; exact Nat.min_le_left _ _
    exact ⟨by omega, fits_of (by omega) (by omega), by omega, by omega, ha, by omega, by omega, by omega, ⟨by omega, by omega, by omega⟩, fits_of (by omega) (by omega)⟩
  · simp only [pyC2, allC_cons, allC_nil, and_true]
    exact ⟨by omega, by omega, by omega, trivial, spD_room hL, ⟨by omega, by omega, by omega⟩, fits_of (by omega) (by omega), rfl⟩
  · simp only [pyC3, allC_cons, allC_nil, and_true]
    exact ⟨hl, trivial, hsp, by omega, ha, ⟨by omega, by omega⟩, fits_of (by omega) (by omega), by rw [List.length_append]; omega, by rw [List.length_append]; omega, fits_of (by omega) (by omega)⟩
theorem py_round {w0 : World} {O : Go.Vx.Own} (hgl : GlobOk gy w0 O) (p : Nat → Bool) (d : Nat → List Int) (m : Nat) (k a : Nat → Int) (D : List Int) (hk : KB k) (h0 : MK k [] a) (hd : YB d m) (Fm : Fits .i64 (m : Int)) (hm : m ≤ 400) (hD : D.length = 64) (i : Nat) (hi : i < sp7 p d m) :
    SimC gy.P w0 O 139 pyBody (pzS p d m a D i) (pzB p d k a D i) .normal (pzS p d m a D (i + 1)) (pzB p d k a D (i + 1)) 3 := by
  have hle := sp7_le p d m
  have hs := sp7_lt hi
  have hx := xA_len (p := p) (d := d) (m := m) i (by omega)
  have F1 : Fits .i64 ((i : Int) + 1) := fits_of (by omega) (by omega)
  have M := MS_A (p := p) h0 hd i (by omega)
  have Mh := MS_h (MS_43 M)
  have hwl := wA_len (p := p) h0 hd i (by omega)
  have hDl := DA_len (p := p) (d := d) (m := m) hD i (by omega)
  have hst : AllC (stC m i (xA p d i) (d i) false) := stC_ok Fm (by omega) hx (fits_of (by omega) (by omega)) (decide_eq_false (by omega))
  cases hp : p i with
  | true =>
    have eS : pzS p d m a D (i + 1) = pyS p d m (DA p d D i).length (n43 (aA p a d i) 42) (i + 1) := by simp only [pzS, DA, aA, if_pos hp]
    have eB : pzB p d k a D (i + 1) = pyB k (aA p a d i) (wA p a d i ++ evT (n43 (aA p a d i) 42)) (wA p a d i ++ evT (n43 (aA p a d i) 42)) (xA p d i) (DA p d D i) := by simp only [pzB, DA, aA, wA, xA, if_pos hp]
    rw [eS, eB]
    have ht := evT_len (n43 (aA p a d i) 42)
    refine SimC.run (B' := pyB k (aA p a d i) (wA p a d i ++ evT (n43 (aA p a d i) 42)) (wA p a d i ++ evT (n43 (aA p a d i) 42)) (xA p d i) (DA p d D i)) gy_ok (by decide) (py_ask p d m _ i _ k _ _ _ _ _) (allC_append.2 ⟨hst, ?_⟩) (by decide) (id3 3 4 8) (by decide) (by simp) hgl
    simp only [allC_cons, allC_nil, and_true]
    exact ⟨hp, by rw [List.length_append]; omega, trivial, by omega, Mh, by omega, tag_eq hk M, F1⟩
  | false =>
    have hn : ¬ p i = true := by rw [hp]; decide
    have hg := gL_eq (d i)
    have eh := held_next M (hd i (by omega))
    by_cases c : (DA p d D i).length < (d i).length + 70
    · have eS : pzS p d m a D (i + 1) = pyS p d m (gL (d i)) (ewH (n43 (aA p a d i) 42) ((d i).length : Int)) (i + 1) := by
        simp only [pzS, DA, aA, if_neg hn, if_pos c]
        rw [flD_len, spD_len (by omega) (by rw [List.length_replicate]), eh]
      have eB : pzB p d k a D (i + 1) = pyB k (wrA (n43 (aA p a d i)) (d i)) (wA p a d i ++ evW (n43 (aA p a d i) 42) ((d i).length : Int)) (wA p a d i ++ evW (n43 (aA p a d i) 42) ((d i).length : Int)) (xA p d i ++ d i) (flD (spD (gD (d i)) (d i) (gL (d i))) (gL (d i))) := by simp only [pzB, DA, aA, wA, xA, if_neg hn, if_pos c]
      rw [eS, eB]
      have hr := py_w1 p d m (DA p d D i).length i (n43 (aA p a d i) 42) k (aA p a d i) (wA p a d i) (wA p a d i) (xA p d i) (DA p d D i)
      rw [spD_piece (show (d i).length + 70 ≤ gL (d i) by omega)] at hr
      refine SimC.run gy_ok (by decide) hr (allC_append.2 ⟨hst, allC_append.2 ⟨?_, pyC_ok (m := m) (by omega) (by omega) (by rw [List.length_replicate]) Mh hs (by omega) (by omega) hm⟩⟩) (by decide) (id3 7 11 10) (by decide) (by simp) hgl
      simp only [allC_cons, allC_nil, and_true]
      exact ⟨hp, fits_of (by omega) (by omega), fits_of (by omega) (by omega), fits_of (by omega) (by omega), decide_eq_true (by omega), ⟨by omega, trivial, by omega⟩, fits_of (by omega) (by omega), fits_of (by omega) (by omega), fits_of (by omega) (by omega), fits_of (by omega) (by omega), fits_of (by omega) (by omega), fits_of (by omega) (by omega), decide_eq_false (by omega)⟩
    · have eS : pzS p d m a D (i + 1) = pyS p d m (DA p d D i).length (ewH (n43 (aA p a d i) 42) ((d i).length : Int)) (i + 1) := by
        simp only [pzS, DA, aA, if_neg hn, if_neg c]
        rw [flD_len, spD_len (by omega) rfl, eh]
      have eB : pzB p d k a D (i + 1) = pyB k (wrA (n43 (aA p a d i)) (d i)) (wA p a d i ++ evW (n43 (aA p a d i) 42) ((d i).length : Int)) (wA p a d i ++ evW (n43 (aA p a d i) 42) ((d i).length : Int)) (xA p d i ++ d i) (flD (spD (DA p d D i) (d i) (DA p d D i).length) (DA p d D i).length) := by simp only [pzB, DA, aA, wA, xA, if_neg hn, if_neg c]
      rw [eS, eB]
      have hr := py_w0 p d m (DA p d D i).length i (n43 (aA p a d i) 42) k (aA p a d i) (wA p a d i) (wA p a d i) (xA p d i) (DA p d D i)
      rw [spD_piece (show (d i).length + 70 ≤ (DA p d D i).length by omega)] at hr
      refine SimC.run gy_ok (by decide) hr (allC_append.2 ⟨hst, allC_append.2 ⟨?_, pyC_ok (m := m) (by omega) (by omega) rfl Mh hs (by omega) (by omega) hm⟩⟩) (by decide) (id3 3 10 9) (by decide) (by simp) hgl
      simp only [allC_cons, allC_nil, and_true]
      exact ⟨hp, fits_of (by omega) (by omega), fits_of (by omega) (by omega), fits_of (by omega) (by omega), decide_eq_false (by omega)⟩
end Go.Proofs.Ytejcjdhplpjpjaa

namespace Go.Proofs.Ytejcjdhplpjpjaa
open Go Go.Vx
/-! ### MacTwo: the account -/
abbrev n32 (k : Nat → Int) : List Int := listF 32 k 0
noncomputable abbrev a2E (q : Nat) (k : Nat → Int) (d : Nat → List Int) (m : Nat) : Nat → Int := aQ q (atL (nwL (kk k))) d m
noncomputable abbrev twF (p : Nat → Bool) (d : Nat → List Int) (m : Nat) (k l : Nat → Int) : List Prop :=
  [rowY p d = rowY (pOf (rowY p d)) (dOf (rowY p d)), Fits .i64 (m : Int), ∀ i, i < m → factsC (rowY p d i), m ≤ 400, KB (kk k), KB (kk l), MK (kk k) [] (atL (nwL (kk k))), MK (kk l) [] (atL (nwL (kk l)))]
theorem two_run0 (p : Nat → Bool) (d : Nat → List Int) (m : Nat) (k l : Nat → Int) : runF gt 900 [.br false, .loop 10 twKeep 4 (.exit 0) (mkLoopN twG0), .br true, .br true] 3 [.agg (svF (List.replicate 32 .u8) k 0), .agg (svF (List.replicate 32 .u8) l 0), .ro 2 m (rowY p d)] [] [] =
    some (.sbool true, [], [Fits .i64 (m : Int), decide ((400 : Int) < (m : Int)) = false, LoopGood gt 109 (.loop twBody) twKeep 4 (.exit 0) (mkLoopN twG0)] ++ (twF p d m k l ++ [sp2 d m = m, decide (Tg (a2E 1 l d m) = Dg l (xQ 1 d m)) = true, (xQ 1 d m).length = (xQ 1 d m).length, (xQ 1 d m).length ≤ 140737488355328, 0 ≤ n43 (a2E 1 l d m) 42 ∧ n43 (a2E 1 l d m) 42 < 16,
      decide (Tg (a2E 0 k d m) = Dg k (xQ 0 d m)) = true, (xQ 0 d m).length = (xQ 0 d m).length, (xQ 0 d m).length ≤ 140737488355328, 0 ≤ n43 (a2E 0 k d m) 42 ∧ n43 (a2E 0 k d m) 42 < 16])) :=
  run_parts (by kernel_rfl) (by kernel_rfl) (by kernel_rfl)
theorem two_run1 (p : Nat → Bool) (d : Nat → List Int) (m : Nat) (k l : Nat → Int) : runF gt 900 [.br false, .loop 10 twKeep 4 .ret (mkLoopN twG1)] 3 [.agg (svF (List.replicate 32 .u8) k 0), .agg (svF (List.replicate 32 .u8) l 0), .ro 2 m (rowY p d)] [] [] =
    some (.bool true, [], [Fits .i64 (m : Int), decide ((400 : Int) < (m : Int)) = false, LoopGood gt 109 (.loop twBody) twKeep 4 .ret (mkLoopN twG1)] ++ (twF p d m k l ++ [sp2 d m < m, Fits .i64 ((d (sp2 d m)).length : Int)])) :=
  run_parts (by kernel_rfl) (by kernel_rfl) (by kernel_rfl)
theorem two_run2 (p : Nat → Bool) (d : Nat → List Int) (m : Nat) (k l : Nat → Int) : runF gt 900 [.br true] 3 [.agg (svF (List.replicate 32 .u8) k 0), .agg (svF (List.replicate 32 .u8) l 0), .ro 2 m (rowY p d)] [] [] =
    some (.bool true, [], [Fits .i64 (m : Int), decide ((400 : Int) < (m : Int)) = true]) :=
  run_parts (by kernel_rfl) (by kernel_rfl) (by kernel_rfl)
theorem KB_kk {k : Nat → Int} (h : KB k) : KB (kk k) := fun j hj => by rw [show kk k j = k j from atLF hj]; exact h j hj
theorem key_bytes {k : Nat → Int} (hf : factsC (.agg (svF (List.replicate 32 .u8) k 0))) : KB k := fun j hj => by
  have e : (List.replicate 32 IntKind.u8)[j]? = some .u8 := by rw [List.getElem?_replicate, if_pos hj]
  have f1 := facts_svF hf j .u8 e
  rw [Nat.zero_add] at f1
  exact ⟨f1.1, Int.lt_of_le_of_lt f1.2 (by decide)⟩
theorem tag_eq' {k : Nat → Int} {x : List Int} {a : Nat → Int} (hk : KB k) (h : MK k x a) : decide (Tg a = Dg k x) = true := by
  have := tag_eq hk h
  cases e : decide (Tg a = Dg k x) with
  | true => rfl
  | false => rw [e] at this; simp at this
theorem two_ok (k l : Nat → Int) (m : Nat) (a : Nat → Nat → Int) (d : Nat → Nat → List Int) (Fm : Fits .i64 (m : Int)) (hl : ∀ i j, Fits .i64 ((d i j).length : Int)) (hf : ∀ i, i < m → factsC (.agg (svY [.b, .s .u8] (a i) (d i) 0))) :
    FnOk gt 3 [.agg (svF (List.replicate 32 .u8) k 0), .agg (svF (List.replicate 32 .u8) l 0), .ro 2 m fun i => .agg (svY [.b, .s .u8] (a i) (d i) 0)] [] { val := .bool true } := by
  show FnOk gt 3 [.agg (svF (List.replicate 32 .u8) k 0), .agg (svF (List.replicate 32 .u8) l 0), .ro 2 m (rowY (fun i => decide (a i 0 = 1)) (fun i => d i 1))] [] { val := .bool true }
  have hf' : ∀ i, i < m → factsC (rowY (fun i => decide (a i 0 = 1)) (fun i => d i 1) i) := hf
  have hl' : ∀ i, Fits .i64 (((fun i => d i 1) i).length : Int) := fun i => hl i 1
  generalize (fun i => decide (a i 0 = 1)) = p at *
  generalize (fun i => d i 1) = e at *
  have hL0 := tw_loop0
  have hL1 := tw_loop1
  refine FnOk.facts fun ⟨f1, f2, _⟩ => ?_
  have k1 := key_bytes f1
  have k2 := key_bytes f2
  by_cases h4 : 400 < m
  · exact FnOk.pure gt_ok (two_run2 p e m k l) (by simp only [allC_cons, allC_nil, and_true]; exact ⟨Fm, decide_eq_true (by omega)⟩)
  · have hc : AllC (twF p e m k l) := by
      simp only [twF, allC_cons, allC_nil, and_true]
      exact ⟨rfl, Fm, hf', by omega, KB_kk k1, KB_kk k2, MK_new k1, MK_new k2⟩
    have h0 : decide ((400 : Int) < (m : Int)) = false := decide_eq_false (by omega)
    have hle := sp2_le e m
    by_cases hs : sp2 e m = m
    · refine FnOk.ofSb (b := true) (FnOk.pure gt_ok (two_run0 p e m k l) ?_) rfl
      refine allC_append.2 ⟨?_, allC_append.2 ⟨hc, ?_⟩⟩
      · simp only [allC_cons, allC_nil, and_true]; exact ⟨Fm, h0, hL0⟩
      · have hd := rowY_bytes (f := rowY p e) rfl hf'
        have A : MK k (xQ 0 e m) (a2E 0 k e m) := by
          have := MS_Q 0 (MK_new k1) hd m (Nat.le_refl _)
          rw [kk_kk] at this; exact this
        have B : MK l (xQ 1 e m) (a2E 1 l e m) := by
          have := MS_Q 1 (MK_new k2) hd m (Nat.le_refl _)
          rw [kk_kk] at this; exact this
        have hx := xQ_len (d := e) (m := m) m (by omega)
        simp only [allC_cons, allC_nil, and_true]
        exact ⟨hs, tag_eq' k2 B, trivial, by omega, MS_h (MS_43 B), tag_eq' k1 A, trivial, by omega, MS_h (MS_43 A)⟩
    · refine FnOk.pure gt_ok (two_run1 p e m k l) ?_
      refine allC_append.2 ⟨?_, allC_append.2 ⟨hc, ?_⟩⟩
      · simp only [allC_cons, allC_nil, and_true]; exact ⟨Fm, h0, hL1⟩
      · simp only [allC_cons, allC_nil, and_true]; exact ⟨by omega, hl' _⟩
end Go.Proofs.Ytejcjdhplpjpjaa

namespace Go.Proofs.Ytejcjdhplpjpjaa
open Go Go.Vx
/-! ### MacPlays: the loop -/
noncomputable abbrev pyL (f : Nat → SV) (m : Nat) (lk la zs : List Int) : List Prop := [f = rowY (pOf f) (dOf f), Fits .i64 (m : Int), ∀ i, i < m → factsC (f i), m ≤ 400, KB (atL lk), MK (atL lk) [] (atL la), zs.length = 64]
noncomputable def pyG0 : LoopF := fun vals B => match vals, B with
  | [.ro 2 m f, .ptr 0 0, .ptr 1 0, .ptr 2 0, .raw (.slice none 0 0), .raw (.slice none 0 0), .int .i64 0, .sl 3 64 0 1 0 64 true, .int .i64 0], [.cells ck, .log [], .cells ms, .ints K zs] =>
    match numsAs (List.replicate 32 .u8) ck, macAs ms, headK (ms.take 1), sameK K .u8 with
    | some lk, some la, .log1, true => some ([(2, .ptr 0 0), (5, .ptr 1 0), (6, .ptr 2 0), (7, .own 4), (8, .own 5), (9, .int .i64 (n43 (aA (pOf f) (atL la) (dOf f) m) 42))], pzB (pOf f) (dOf f) (atL lk) (atL la) zs m, pyL f m lk la zs ++ [sp7 (pOf f) (dOf f) m = m])
    | _, _, _, _ => none
  | _, _ => none
noncomputable def pyG1 : LoopF := fun vals B => match vals, B with
  | [.ro 2 m f, .ptr 0 0, .ptr 1 0, .ptr 2 0, .raw (.slice none 0 0), .raw (.slice none 0 0), .int .i64 0, .sl 3 64 0 1 0 64 true, .int .i64 0], [.cells ck, .log [], .cells ms, .ints K zs] =>
    match numsAs (List.replicate 32 .u8) ck, macAs ms, headK (ms.take 1), sameK K .u8 with
    | some lk, some la, .log1, true => some ([(4, .bool true)], pzB (pOf f) (dOf f) (atL lk) (atL la) zs (sp7 (pOf f) (dOf f) m), pyL f m lk la zs ++ [sp7 (pOf f) (dOf f) m < m, Fits .i64 ((dOf f (sp7 (pOf f) (dOf f) m)).length : Int)])
    | _, _, _, _ => none
  | _, _ => none
theorem sl_imp (id m off sz j len : Nat) : DenImp (.sl id m off sz j len true) (.sl id m off sz j len false) := fun w0 O ρ v h => by
  rcases h with h | ⟨h1, h2⟩
  · simp at h
  · refine .inr ⟨h1, ?_⟩
    simp only [DenC] at h2 ⊢
    obtain ⟨a, cap, e1, e2, ⟨_, e4⟩, e5⟩ := h2
    exact ⟨a, cap, e1, e2, ⟨fun h => by simp at h, e4⟩, e5⟩
theorem desk_imp (x1 x2 x3 x4 x5 x6 x7 x9 : SV) (t : Nat) : DenImp (tget (mkT (pyKeep.zip [x1, x2, x3, x4, x5, x6, x7, .sl 3 64 0 1 0 64 true, x9])) t) (tget (mkT (pyKeep.zip [x1, x2, x3, x4, x5, x6, x7, .sl 3 64 0 1 0 64 false, x9])) t) := by
  have g : ∀ (y : SV), tget (mkT (pyKeep.zip [x1, x2, x3, x4, x5, x6, x7, y, x9])) t = if t = 1 then x1 else if t = 2 then x2 else if t = 5 then x3 else if t = 6 then x4 else if t = 7 then x5 else if t = 8 then x6 else if t = 9 then x7 else if t = 10 then y else if t = 11 then x9 else .any := fun y => by
    have e : ∀ (k : Nat) (v : SV) (l : List (Nat × SV)), k < 65535 → tget (mkT ((k, v) :: l)) t = if t = k then v else tget (mkT l) t := fun k v l h => Tr.get_set _ _ _ _ _ h
    show tget (mkT ((1, x1) :: (2, x2) :: (5, x3) :: (6, x4) :: (7, x5) :: (8, x6) :: (9, x7) :: (10, y) :: (11, x9) :: [])) t = _
    rw [e 1 _ _ (by decide), e 2 _ _ (by decide), e 5 _ _ (by decide), e 6 _ _ (by decide), e 7 _ _ (by decide), e 8 _ _ (by decide), e 9 _ _ (by decide), e 10 _ _ (by decide), e 11 _ _ (by decide)]
    rfl
  rw [g, g]
  repeat' split
  all_goals first | exact sl_imp _ _ _ _ _ _ | exact DenImp.refl _
theorem py_loop0 : LoopGood gy 139 (.loop pyBody) pyKeep 3 (.exit 0) (mkLoopN pyG0) := by
  refine LoopGood.mkN (by decide) fun vals B S' B' C hG hC hlen w0 O hgl => ?_
  clear hlen
  unfold pyG0 at hG
  split at hG
  · rename_i m f ck ms K zs
    split at hG
    · rename_i lk la h1 h2 r2 hk
      have r2 := head_log1 r2
      obtain rfl := kidx_inj hk
      simp only [Option.some.injEq, Prod.mk.injEq] at hG
      obtain ⟨rfl, rfl, rfl⟩ := hG
      simp only [pyL, allC_append, allC_cons, allC_nil, and_true] at hC
      obtain ⟨⟨hf, Fm, hff, hm, k1, a1, hz⟩, hN⟩ := hC
      have hd := rowY_bytes hf hff
      generalize pOf f = p at *
      generalize hdd : dOf f = d at *
      rw [hf]
      clear hf hff hdd
      have hh : n43 (atL la) 42 = 0 := (MS_43 a1).held
      refine SimC.preI (B1 := [.cells (svF (List.replicate 32 .u8) (atL lk) 0), .log [], macV (.ptr 1 0) (atL la), .ints .u8 zs]) ?_ ⟨cells_nums h1, ⟨.refl _, fun _ h => by simp at h⟩, cells_mac h2 r2 rfl, ⟨.refl _, fun _ h => by simp at h⟩, trivial⟩
      refine SimC.pre (S := pyKeep.zip [.ro 2 m (rowY p d), .ptr 0 0, .ptr 1 0, .ptr 2 0, .raw (.slice none 0 0), .raw (.slice none 0 0), .int .i64 0, .sl 3 64 0 1 0 64 false, .int .i64 0]) ?_ (desk_imp _ _ _ _ _ _ _ _)
      refine SimC.adoptS (.ints .u8 []) 7 rfl rfl (by simp) (by simp) ?_
      show SimC _ _ _ _ _ (pyKeep.zip [.ro 2 m (rowY p d), .ptr 0 0, .ptr 1 0, .ptr 2 0, .own 4, .raw (.slice none 0 0), .int .i64 0, .sl 3 64 0 1 0 64 false, .int .i64 0]) _ _ _ _ _
      refine SimC.adoptS (.rows evK []) 8 rfl rfl (by simp) (by simp) ?_
      have e0 : pyKeep.zip (pyO p d m 64 0 0) = pzS p d m (atL la) zs 0 := by
        show _ = pyS p d m zs.length (n43 (atL la) 42) 0
        rw [hh, hz]
        rfl
      show SimC _ _ _ _ _ (pyKeep.zip (pyO p d m 64 0 0)) (pzB p d (atL lk) (atL la) zs 0) _ _ _ _
      rw [e0]
      refine SimC.iter (g := gy) (e := (.exit 0)) (S := fun i => pzS p d m (atL la) zs i) (B := fun i => pzB p d (atL lk) (atL la) zs i) (N := m) (fun i hi => py_round hgl p d m _ _ _ k1 a1 hd Fm hm hz i (by omega)) ?_ (by simp) 0 (by omega)
      exact SimC.weaken (SimC.run (B' := pzB p d (atL lk) (atL la) zs m) gy_ok (by decide) (py_end p d m _ m _ _ _ _ _ _ _) (by simp only [allC_cons, allC_nil, and_true]; exact ⟨Fm, decide_eq_false (by omega)⟩) (by decide) (id3 3 4 5) (by decide) (by simp) hgl) (sub_mkT (by simp; exact ⟨rfl, rfl, rfl, rfl, rfl, rfl⟩))
    · simp at hG
  · simp at hG
theorem py_loop1 : LoopGood gy 139 (.loop pyBody) pyKeep 3 .ret (mkLoopN pyG1) := by
  refine LoopGood.mkN (by decide) fun vals B S' B' C hG hC hlen w0 O hgl => ?_
  clear hlen
  unfold pyG1 at hG
  split at hG
  · rename_i m f ck ms K zs
    split at hG
    · rename_i lk la h1 h2 r2 hk
      have r2 := head_log1 r2
      obtain rfl := kidx_inj hk
      simp only [Option.some.injEq, Prod.mk.injEq] at hG
      obtain ⟨rfl, rfl, rfl⟩ := hG
      simp only [pyL, allC_append, allC_cons, allC_nil, and_true] at hC
      obtain ⟨⟨hf, Fm, hff, hm, k1, a1, hz⟩, hN, Fl⟩ := hC
      have hd := rowY_bytes hf hff
      generalize pOf f = p at *
      generalize hdd : dOf f = d at *
      rw [hf]
      clear hf hff hdd
      have hh : n43 (atL la) 42 = 0 := (MS_43 a1).held
      refine SimC.preI (B1 := [.cells (svF (List.replicate 32 .u8) (atL lk) 0), .log [], macV (.ptr 1 0) (atL la), .ints .u8 zs]) ?_ ⟨cells_nums h1, ⟨.refl _, fun _ h => by simp at h⟩, cells_mac h2 r2 rfl, ⟨.refl _, fun _ h => by simp at h⟩, trivial⟩
      refine SimC.pre (S := pyKeep.zip [.ro 2 m (rowY p d), .ptr 0 0, .ptr 1 0, .ptr 2 0, .raw (.slice none 0 0), .raw (.slice none 0 0), .int .i64 0, .sl 3 64 0 1 0 64 false, .int .i64 0]) ?_ (desk_imp _ _ _ _ _ _ _ _)
      refine SimC.adoptS (.ints .u8 []) 7 rfl rfl (by simp) (by simp) ?_
      show SimC _ _ _ _ _ (pyKeep.zip [.ro 2 m (rowY p d), .ptr 0 0, .ptr 1 0, .ptr 2 0, .own 4, .raw (.slice none 0 0), .int .i64 0, .sl 3 64 0 1 0 64 false, .int .i64 0]) _ _ _ _ _
      refine SimC.adoptS (.rows evK []) 8 rfl rfl (by simp) (by simp) ?_
      have e0 : pyKeep.zip (pyO p d m 64 0 0) = pzS p d m (atL la) zs 0 := by
        show _ = pyS p d m zs.length (n43 (atL la) 42) 0
        rw [hh, hz]
        rfl
      show SimC _ _ _ _ _ (pyKeep.zip (pyO p d m 64 0 0)) (pzB p d (atL lk) (atL la) zs 0) _ _ _ _
      rw [e0]
      refine SimC.iter (g := gy) (e := .ret) (S := fun i => pzS p d m (atL la) zs i) (B := fun i => pzB p d (atL lk) (atL la) zs i) (N := sp7 p d m) (fun i hi => py_round hgl p d m _ _ _ k1 a1 hd Fm hm hz i (by omega)) ?_ (by simp) 0 (by omega)
      exact SimC.weaken (SimC.run (B' := pzB p d (atL lk) (atL la) zs (sp7 p d m)) gy_ok (by decide) (py_long p d m _ (sp7 p d m) _ _ _ _ _ _ _) (stC_ok Fm hN (xA_len (m := m) _ (Nat.le_refl _)) Fl (decide_eq_true (sp7_at hN))) (by decide) (id3 3 4 5) (by decide) (by simp) hgl) (sub_mkT (by simp; exact rfl))
    · simp at hG
  · simp at hG
end Go.Proofs.Ytejcjdhplpjpjaa

namespace Go.Proofs.Ytejcjdhplpjpjaa
open Go Go.Vx
/-! ### MacPlays: the account -/
noncomputable abbrev a7E (p : Nat → Bool) (k : Nat → Int) (d : Nat → List Int) (m : Nat) : Nat → Int := aA p (atL (nwL (kk k))) d m
noncomputable abbrev w7E (p : Nat → Bool) (k : Nat → Int) (d : Nat → List Int) (m : Nat) : List (List Int) := wA p (atL (nwL (kk k))) d m
noncomputable abbrev l7E (p : Nat → Bool) (k : Nat → Int) (d : Nat → List Int) (m : Nat) : List (List Int) := w7E p k d m ++ evT (n43 (a7E p k d m) 42)
noncomputable abbrev pyE (p : Nat → Bool) (d : Nat → List Int) (m : Nat) : List Prop := [Fits .i64 (m : Int), decide ((400 : Int) < (m : Int)) = false, (!decide (((([] : List (List Int)).length : Nat) : Int) = 0)) = false, (0 : Int) ≤ 64 ∧ (64 : Int) = 64 ∧ (64 : Int).toNat * 1 ≤ 2 ^ 47]
noncomputable abbrev pyF (p : Nat → Bool) (d : Nat → List Int) (m : Nat) (k : Nat → Int) : List Prop :=
  [rowY p d = rowY (pOf (rowY p d)) (dOf (rowY p d)), Fits .i64 (m : Int), ∀ i, i < m → factsC (rowY p d i), m ≤ 400, KB (kk k), MK (kk k) [] (atL (nwL (kk k))), (List.replicate (64 : Int).toNat (0 : Int)).length = 64]
theorem plays_run0 (p : Nat → Bool) (d : Nat → List Int) (m : Nat) (k : Nat → Int) : runF gy 900 [.br false, .br false, .loop 12 pyKeep 3 (.exit 0) (mkLoopN pyG0), .br true, .br true] 7 [.agg (svF (List.replicate 32 .u8) k 0), .ro 2 m (rowY p d)] [] [] =
    some (.sbool true, [], pyE p d m ++ ([LoopGood gy 139 (.loop pyBody) pyKeep 3 (.exit 0) (mkLoopN pyG0)] ++ (pyF p d m k ++ [sp7 p d m = m, (l7E p k d m).length * 16 ≤ 2 ^ 47, true = true, l7E p k d m = l7E p k d m, (l7E p k d m).length ≤ 140737488355328, (l7E p k d m).length * 16 ≤ 2 ^ 47,
      decide (Tg (a7E p k d m) = Dg k (xA p d m)) = true, (xA p d m).length = (xA p d m).length, (xA p d m).length ≤ 140737488355328, 0 ≤ n43 (a7E p k d m) 42 ∧ n43 (a7E p k d m) 42 < 16, (w7E p k d m).length < 1000000000]))) :=
  run_parts (by kernel_rfl) (by kernel_rfl) (by kernel_rfl)
theorem plays_run1 (p : Nat → Bool) (d : Nat → List Int) (m : Nat) (k : Nat → Int) : runF gy 900 [.br false, .br false, .loop 12 pyKeep 3 .ret (mkLoopN pyG1)] 7 [.agg (svF (List.replicate 32 .u8) k 0), .ro 2 m (rowY p d)] [] [] =
    some (.bool true, [], pyE p d m ++ ([LoopGood gy 139 (.loop pyBody) pyKeep 3 .ret (mkLoopN pyG1)] ++ (pyF p d m k ++ [sp7 p d m < m, Fits .i64 ((d (sp7 p d m)).length : Int)]))) :=
  run_parts (by kernel_rfl) (by kernel_rfl) (by kernel_rfl)
theorem plays_run2 (p : Nat → Bool) (d : Nat → List Int) (m : Nat) (k : Nat → Int) : runF gy 900 [.br true] 7 [.agg (svF (List.replicate 32 .u8) k 0), .ro 2 m (rowY p d)] [] [] =
    some (.bool true, [], [Fits .i64 (m : Int), decide ((400 : Int) < (m : Int)) = true]) :=
  run_parts (by kernel_rfl) (by kernel_rfl) (by kernel_rfl)
theorem plays_ok (k : Nat → Int) (m : Nat) (a : Nat → Nat → Int) (d : Nat → Nat → List Int) (Fm : Fits .i64 (m : Int)) (hl : ∀ i j, Fits .i64 ((d i j).length : Int)) (hf : ∀ i, i < m → factsC (.agg (svY [.b, .s .u8] (a i) (d i) 0))) :
    FnOk gy 7 [.agg (svF (List.replicate 32 .u8) k 0), .ro 2 m fun i => .agg (svY [.b, .s .u8] (a i) (d i) 0)] [] { val := .bool true } := by
  show FnOk gy 7 [.agg (svF (List.replicate 32 .u8) k 0), .ro 2 m (rowY (fun i => decide (a i 0 = 1)) (fun i => d i 1))] [] { val := .bool true }
  have hf' : ∀ i, i < m → factsC (rowY (fun i => decide (a i 0 = 1)) (fun i => d i 1) i) := hf
  have hl' : ∀ i, Fits .i64 (((fun i => d i 1) i).length : Int) := fun i => hl i 1
  generalize (fun i => decide (a i 0 = 1)) = p at *
  generalize (fun i => d i 1) = e at *
  have hL0 := py_loop0
  have hL1 := py_loop1
  refine FnOk.facts fun ⟨f1, _⟩ => ?_
  have k1 := key_bytes f1
  by_cases h4 : 400 < m
  · exact FnOk.pure gy_ok (plays_run2 p e m k) (by simp only [allC_cons, allC_nil, and_true]; exact ⟨Fm, decide_eq_true (by omega)⟩)
  · have hc : AllC (pyF p e m k) := by
      simp only [pyF, allC_cons, allC_nil, and_true]
      exact ⟨rfl, Fm, hf', by omega, KB_kk k1, MK_new k1, by rw [List.length_replicate]; rfl⟩
    have he : AllC (pyE p e m) := by
      simp only [pyE, allC_cons, allC_nil, and_true]
      exact ⟨Fm, decide_eq_false (by omega), by decide, by decide⟩
    have hle := sp7_le p e m
    by_cases hs : sp7 p e m = m
    · refine FnOk.ofSb (b := true) (FnOk.pure gy_ok (plays_run0 p e m k) ?_) rfl
      refine allC_append.2 ⟨he, allC_append.2 ⟨by simp only [allC_cons, allC_nil, and_true]; exact hL0, allC_append.2 ⟨hc, ?_⟩⟩⟩
      have hd : YB e m := rowY_bytes (f := rowY p e) rfl hf'
      have A : MK k (xA p e m) (a7E p k e m) := by
        have := MS_A (p := p) (MK_new k1) hd m (Nat.le_refl _)
        rw [kk_kk] at this; exact this
      have hx := xA_len (p := p) (d := e) (m := m) m (by omega)
      have hw := wA_len (p := p) (MK_new k1) hd m (Nat.le_refl _)
      have ht := evT_len (n43 (a7E p k e m) 42)
      have hw2 : (w7E p k e m).length ≤ 1000000 := by show (wA p (atL (nwL (kk k))) e m).length ≤ _; omega
      have hl2 : (l7E p k e m).length ≤ 1000004 := by rw [List.length_append]; omega
      simp only [allC_cons, allC_nil, and_true]
      exact ⟨hs, by omega, trivial, trivial, by omega, by omega, tag_eq' k1 A, trivial, by omega, MS_h (MS_43 A), by omega⟩
    · refine FnOk.pure gy_ok (plays_run1 p e m k) ?_
      refine allC_append.2 ⟨he, allC_append.2 ⟨by simp only [allC_cons, allC_nil, and_true]; exact hL1, allC_append.2 ⟨hc, ?_⟩⟩⟩
      simp only [allC_cons, allC_nil, and_true]; exact ⟨by omega, hl' _⟩
end Go.Proofs.Ytejcjdhplpjpjaa
