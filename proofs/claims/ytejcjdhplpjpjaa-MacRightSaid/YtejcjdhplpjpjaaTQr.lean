/- Accounts of this seat's functions: lemmas, no statement of their own. No conditions. -/
import Derived.Test.YtejcjdhplpjpjaaTQq
namespace Go.Proofs.Ytejcjdhplpjpjaa
open Go Go.Vx
/-! ### MacTwo: the loop -/
def xQ (q : Nat) (d : Nat → List Int) : Nat → List Int
  | 0 => []
  | i + 1 => if i % 2 = q then xQ q d i ++ d i else xQ q d i
noncomputable def aQ (q : Nat) (a : Nat → Int) (d : Nat → List Int) : Nat → (Nat → Int)
  | 0 => a
  | i + 1 => if i % 2 = q then wrA (n43 (aQ q a d i)) (d i) else aQ q a d i
theorem MS_Q {T : Int} {mk : Nat → Int} {d : Nat → List Int} {m : Nat} {a : Nat → Int} (q : Nat) (h0 : MS T mk [] a) (hd : YB d m) : ∀ i, i ≤ m → MS T mk (xQ q d i) (aQ q a d i)
  | 0, _ => h0
  | i + 1, h => by
    have ih := MS_Q q h0 hd i (by omega)
    simp only [xQ, aQ]
    split
    · exact MS_write (MS_43 ih) (hd i (by omega))
    · exact ih
def sp2 (d : Nat → List Int) (m : Nat) : Nat := firstI (fun i => decide (131072 < (xQ 0 d i).length + (xQ 1 d i).length + (d i).length)) m
theorem sp2_le (d : Nat → List Int) (m : Nat) : sp2 d m ≤ m := (firstI_spec _ m).1
theorem sp2_lt {d : Nat → List Int} {m i : Nat} (h : i < sp2 d m) : (xQ 0 d i).length + (xQ 1 d i).length + (d i).length ≤ 131072 := by
  have := (firstI_spec _ m).2.1 i h
  have := of_decide_eq_false this
  omega
theorem sp2_at {d : Nat → List Int} {m : Nat} (h : sp2 d m < m) : 131072 < (xQ 0 d (sp2 d m)).length + (xQ 1 d (sp2 d m)).length + (d (sp2 d m)).length := of_decide_eq_true ((firstI_spec _ m).2.2 h)
theorem xQ_len {d : Nat → List Int} {m : Nat} : ∀ i, i ≤ sp2 d m → (xQ 0 d i).length + (xQ 1 d i).length ≤ 131072
  | 0, _ => by simp [xQ]
  | i + 1, h => by
    have := sp2_lt (show i < sp2 d m by omega)
    have h2 : i % 2 < 2 := Nat.mod_lt _ (by decide)
    by_cases c : i % 2 = 0
    · simp only [xQ, if_pos c, if_neg (show ¬ i % 2 = 1 by omega), List.length_append]; omega
    · simp only [xQ, if_neg c, if_pos (show i % 2 = 1 by omega), List.length_append]; omega
theorem st2_ok {m i : Nat} {x y e : List Int} {b : Bool} (Fm : Fits .i64 (m : Int)) (hi : i < m) (hx : x.length + y.length ≤ 131072) (he : Fits .i64 (e.length : Int)) (hb : decide (131072 < x.length + y.length + e.length) = b) : AllC (st2 m i x y e b) := by
  simp only [st2, allC_cons, allC_nil, and_true]
  refine ⟨Fm, decide_eq_true (by omega), ⟨by omega, by omega⟩, fits_of (by omega) (by omega), fits_of (by omega) (by omega), fits_of (by omega) (by omega), fits_of (by omega) (by omega), he, ?_⟩
  rw [← hb]
  exact decide_eq_decide.2 (by omega)
abbrev KB (k : Nat → Int) : Prop := ∀ j, j < 32 → Byte (k j)
theorem hiB {k : Nat → Int} (h : KB k) : ∀ j, j < 16 → Byte (atL (hiK (kk k)) j) := fun j hj => by
  rw [show atL (hiK (kk k)) j = kk k (16 + j) from atLF hj, show kk k (16 + j) = k (16 + j) from atLF (by omega)]; exact h _ (by omega)
abbrev MK (k : Nat → Int) (x : List Int) (a : Nat → Int) : Prop := MS (kT (kk k)) (atL (hiK (kk k))) x a
theorem tag_eq {k : Nat → Int} {x : List Int} {a : Nat → Int} (hk : KB k) (h : MK k x a) : (!decide (Tg a = Dg k x)) = false := by
  have : Tg a = Dg k x := by
    show listF 16 (tgN (n43 a)) 0 = listF 16 (atL (dTag _ _ x)) 0
    rw [dTag_L]; exact MS_tag (MS_43 h) (hiB hk)
  rw [decide_eq_true this]; rfl
theorem ask2_ok {m i : Nat} {p : Nat → Bool} {k l a b : Nat → Int} {x y : List Int} {q : Bool} (hk : KB k) (hl : KB l) (ha : MK k x a) (hb : MK l y b) (hx : x.length + y.length ≤ 131072) (hi : i < m) (hp : p i = q) : AllC (ask2 m i p k l a b x y q) := by
  cases q with
  | false => simp only [ask2, allC_cons, allC_nil, and_true]; exact ⟨hp, by omega, by omega⟩
  | true =>
    simp only [ask2, allC_cons, allC_nil, and_true]
    exact ⟨trivial, by omega, MS_h (MS_43 hb), tag_eq hk ha, trivial, by omega, MS_h (MS_43 ha), hp, ⟨by omega, by omega⟩, tag_eq hl hb⟩
theorem wr2_ok {i : Nat} {b : Bool} {a : Nat → Int} {x e : List Int} {T : Int} {mk : Nat → Int} (h : MS T mk x a) (hb : decide (i % 2 = 0) = b) (hx : x.length + e.length ≤ 131072) : AllC (wr2 i b a x e) := by
  have hap : (x ++ e).length = x.length + e.length := List.length_append
  simp only [wr2, allC_cons, allC_nil, and_true]
  refine ⟨?_, MS_h (MS_43 h), by omega, by omega⟩
  rw [← hb]
  have e : (i : Int).tmod 2 = ((i % 2 : Nat) : Int) := rfl
  rw [e]
  exact decide_eq_decide.2 (by omega)
noncomputable abbrev twZ (d : Nat → List Int) (k l a b : Nat → Int) (i : Nat) : List Body := twB k l (aQ 0 a d i) (aQ 1 b d i) (xQ 0 d i) (xQ 1 d i)
theorem idD (k l : Nat) : ∀ j : Nat, j < 4 → ([0, 1, 2, 3, k, l] : List Nat)[j]? = some j := fun j hj => by
  match j, hj with
  | 0, _ => rfl
  | 1, _ => rfl
  | 2, _ => rfl
  | 3, _ => rfl
theorem tw_round {w0 : World} {O : Go.Vx.Own} (hgl : GlobOk gt w0 O) (p : Nat → Bool) (d : Nat → List Int) (m : Nat) (k l a b : Nat → Int) (hk : KB k) (hl : KB l) (h0 : MK k [] a) (h1 : MK l [] b) (hd : YB d m) (Fm : Fits .i64 (m : Int)) (hm : m ≤ 400) (i : Nat) (hi : i < sp2 d m) :
    SimC gt.P w0 O 109 twBody (twS p d m i) (twZ d k l a b i) .normal (twS p d m (i + 1)) (twZ d k l a b (i + 1)) 4 := by
  have hle := sp2_le d m
  have hs := sp2_lt hi
  have hx := xQ_len (d := d) (m := m) i (by omega)
  have hx1 := xQ_len (d := d) (m := m) (i + 1) (by omega)
  have F1 : AllC [Fits .i64 ((i : Int) + 1)] := by simp only [allC_cons, allC_nil, and_true]; exact fits_of (by omega) (by omega)
  have A := MS_Q 0 h0 hd i (by omega)
  have B := MS_Q 1 h1 hd i (by omega)
  have A1 := MS_Q 0 h0 hd (i + 1) (by omega)
  have B1 := MS_Q 1 h1 hd (i + 1) (by omega)
  have hst : AllC (st2 m i (xQ 0 d i) (xQ 1 d i) (d i) false) := st2_ok Fm (by omega) hx (fits_of (by omega) (by omega)) (decide_eq_false (by omega))
  by_cases c : i % 2 = 0
  · have c1 : ¬ i % 2 = 1 := by omega
    have eB : twZ d k l a b (i + 1) = twB k l (wrA (n43 (aQ 0 a d i)) (d i)) (aQ 1 b d i) (xQ 0 d i ++ d i) (xQ 1 d i) := by
      simp only [twZ, aQ, xQ, if_pos c, if_neg c1]
    simp only [xQ, aQ, if_pos c, if_neg c1] at A1 B1 hx1
    rw [eB]
    have hr : ∀ q, twE p d m i k l (aQ 0 a d i) (aQ 1 b d i) (xQ 0 d i) (xQ 1 d i) q := fun q => by
      cases q with
      | false => exact tw_e0 ..
      | true => exact tw_e1 ..
    refine SimC.run (B' := twB k l (wrA (n43 (aQ 0 a d i)) (d i)) (aQ 1 b d i) (xQ 0 d i ++ d i) (xQ 1 d i)) gt_ok (by decide) (hr (p i)) ?_ (by decide) (idD 6 5) (by decide) (by simp) hgl
    refine allC_append.2 ⟨hst, allC_append.2 ⟨wr2_ok A (decide_eq_true c) (by omega), allC_append.2 ⟨?_, allC_append.2 ⟨ask2_ok hk hl A1 B1 hx1 (by omega) rfl, F1⟩⟩⟩⟩
    simp only [th2, allC_cons, allC_nil, and_true]; exact decide_eq_false (by omega)
  · have c1 : i % 2 = 1 := by omega
    have eB : twZ d k l a b (i + 1) = twB k l (aQ 0 a d i) (wrA (n43 (aQ 1 b d i)) (d i)) (xQ 0 d i) (xQ 1 d i ++ d i) := by
      simp only [twZ, aQ, xQ, if_pos c1, if_neg c]
    simp only [xQ, aQ, if_pos c1, if_neg c] at A1 B1 hx1
    rw [eB]
    have hr : ∀ t q, twP p d m i k l (aQ 0 a d i) (aQ 1 b d i) (xQ 0 d i) (xQ 1 d i) t q := fun t q => by
      cases t <;> cases q
      · exact tw_p00 ..
      · exact tw_p01 ..
      · exact tw_p10 ..
      · exact tw_p11 ..
    refine SimC.run (B' := twB k l (aQ 0 a d i) (wrA (n43 (aQ 1 b d i)) (d i)) (xQ 0 d i) (xQ 1 d i ++ d i)) gt_ok (by decide) (hr (decide (i = 1)) (p i)) ?_ (by decide) (idD 4 6) (by decide) (by simp) hgl
    refine allC_append.2 ⟨hst, allC_append.2 ⟨wr2_ok B (decide_eq_false c) (by omega), allC_append.2 ⟨?_, allC_append.2 ⟨ask2_ok hk hl A1 B1 hx1 (by omega) rfl, F1⟩⟩⟩⟩
    by_cases c2 : i = 1
    · rw [decide_eq_true c2]
      simp only [th2, allC_cons, allC_nil, and_true]
      exact ⟨decide_eq_true (by omega), by decide, by decide⟩
    · rw [decide_eq_false c2]
      simp only [th2, allC_cons, allC_nil, and_true]
      exact decide_eq_false (by omega)
end Go.Proofs.Ytejcjdhplpjpjaa
