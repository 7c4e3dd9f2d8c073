/- Accounts of this seat's functions: lemmas, no statement of their own. No conditions. -/
import Derived.Test.YtejcjdhplpjpjaaTQp
namespace Go.Proofs.Ytejcjdhplpjpjaa
open Go Go.Vx
/-! ### MacTwo: a round -/
abbrev kk (k : Nat → Int) : Nat → Int := atL (listF 32 k 0)
abbrev Tg (a : Nat → Int) : List Int := listF 16 (tgN (n43 a)) 0
abbrev Dg (k : Nat → Int) (x : List Int) : List Int := listF 16 (atL (dTag (kT (kk k)) (atL (hiK (kk k))) x)) 0
abbrev st2 (m i : Nat) (x y e : List Int) (b : Bool) : List Prop := [Fits .i64 (m : Int), decide ((i : Int) < (m : Int)) = true, (0 : Int) ≤ (i : Int) ∧ (i : Int) < (m : Int), Fits .i64 (131072 - (x.length : Int) - (y.length : Int)), Fits .i64 (y.length : Int), Fits .i64 (131072 - (x.length : Int)), Fits .i64 (x.length : Int), Fits .i64 (e.length : Int), decide (131072 - (x.length : Int) - (y.length : Int) < (e.length : Int)) = b]
noncomputable abbrev wr2 (i : Nat) (b : Bool) (a : Nat → Int) (x e : List Int) : List Prop := [decide ((i : Int).tmod 2 = 0) = b, 0 ≤ n43 a 42 ∧ n43 a 42 < 16, e.length ≤ 140737488355328, (x ++ e).length * 1 ≤ 2 ^ 47]
abbrev th2 (i : Nat) : Bool → List Prop
  | true => [decide ((i : Int) = 1) = true, (0 : Int) = 0, (0 : Int) ≤ 1 ∧ (1 : Int) < 16]
  | false => [decide ((i : Int) = 1) = false]
noncomputable abbrev ask2 (m i : Nat) (p : Nat → Bool) (k l a b : Nat → Int) (x y : List Int) : Bool → List Prop
  | true => [y.length = y.length, y.length ≤ 140737488355328, 0 ≤ n43 b 42 ∧ n43 b 42 < 16, (!decide (Tg a = Dg k x)) = false, x.length = x.length, x.length ≤ 140737488355328, 0 ≤ n43 a 42 ∧ n43 a 42 < 16, p i = true, (0 : Int) ≤ (i : Int) ∧ (i : Int) < (m : Int), (!decide (Tg b = Dg l y)) = false]
  | false => [p i = false, (0 : Int) ≤ (i : Int) ∧ (i : Int) < (m : Int)]
noncomputable abbrev twE (p : Nat → Bool) (d : Nat → List Int) (m i : Nat) (k l a b : Nat → Int) (x y : List Int) (q : Bool) : Prop :=
  runC gt 300 109 (bif q then [.br true, .br false, .br true, .br false, .br true, .br false, .br false, .br false] else [.br true, .br false, .br true, .br false, .br false]) twBody (twS p d m i) (twB k l a b x y) twKeep [0, 1, 2, 3, 6, 5] =
    some (.normal, twO p d m ((i : Int) + 1), (twB k l (wrA (n43 a) (d i)) b (x ++ d i) y).map some, st2 m i x y (d i) false ++ (wr2 i true a x (d i) ++ (th2 i false ++ (ask2 m i p k l (wrA (n43 a) (d i)) b (x ++ d i) y q ++ [Fits .i64 ((i : Int) + 1)]))))
theorem tw_e0 (p : Nat → Bool) (d : Nat → List Int) (m i : Nat) (k l a b : Nat → Int) (x y : List Int) : twE p d m i k l a b x y false := r3_parts4 (by kernel_rfl) (by kernel_rfl) (by kernel_rfl) (by kernel_rfl)
theorem tw_e1 (p : Nat → Bool) (d : Nat → List Int) (m i : Nat) (k l a b : Nat → Int) (x y : List Int) : twE p d m i k l a b x y true := r3_parts4 (by kernel_rfl) (by kernel_rfl) (by kernel_rfl) (by kernel_rfl)
noncomputable abbrev twP (p : Nat → Bool) (d : Nat → List Int) (m i : Nat) (k l a b : Nat → Int) (x y : List Int) (t q : Bool) : Prop :=
  runC gt 300 109 ([.br true, .br false, .br false, .br t] ++ (bif q then [.br true, .br false, .br false, .br false] else [.br false])) twBody (twS p d m i) (twB k l a b x y) twKeep [0, 1, 2, 3, 4, 6] =
    some (.normal, twO p d m ((i : Int) + 1), (twB k l a (wrA (n43 b) (d i)) x (y ++ d i)).map some, st2 m i x y (d i) false ++ (wr2 i false b y (d i) ++ (th2 i t ++ (ask2 m i p k l a (wrA (n43 b) (d i)) x (y ++ d i) q ++ [Fits .i64 ((i : Int) + 1)]))))
theorem tw_p00 (p : Nat → Bool) (d : Nat → List Int) (m i : Nat) (k l a b : Nat → Int) (x y : List Int) : twP p d m i k l a b x y false false := r3_parts4 (by kernel_rfl) (by kernel_rfl) (by kernel_rfl) (by kernel_rfl)
theorem tw_p01 (p : Nat → Bool) (d : Nat → List Int) (m i : Nat) (k l a b : Nat → Int) (x y : List Int) : twP p d m i k l a b x y false true := r3_parts4 (by kernel_rfl) (by kernel_rfl) (by kernel_rfl) (by kernel_rfl)
theorem tw_p10 (p : Nat → Bool) (d : Nat → List Int) (m i : Nat) (k l a b : Nat → Int) (x y : List Int) : twP p d m i k l a b x y true false := r3_parts4 (by kernel_rfl) (by kernel_rfl) (by kernel_rfl) (by kernel_rfl)
theorem tw_p11 (p : Nat → Bool) (d : Nat → List Int) (m i : Nat) (k l a b : Nat → Int) (x y : List Int) : twP p d m i k l a b x y true true := r3_parts4 (by kernel_rfl) (by kernel_rfl) (by kernel_rfl) (by kernel_rfl)
theorem tw_long (p : Nat → Bool) (d : Nat → List Int) (m i : Nat) (k l a b : Nat → Int) (x y : List Int) : runC gt 300 109 [.br true, .br true] twBody (twS p d m i) (twB k l a b x y) [6] [0, 1, 2, 3, 4, 5] =
    some (.ret, [.bool true], (twB k l a b x y).map some, st2 m i x y (d i) true) := r3_parts4 (by kernel_rfl) (by kernel_rfl) (by kernel_rfl) (by kernel_rfl)
theorem tw_end (p : Nat → Bool) (d : Nat → List Int) (m i : Nat) (k l a b : Nat → Int) (x y : List Int) : runC gt 300 109 [.br false] twBody (twS p d m i) (twB k l a b x y) twKeep [0, 1, 2, 3, 4, 5] =
    some (.exit 0, twO p d m (i : Int), (twB k l a b x y).map some, [Fits .i64 (m : Int), decide ((i : Int) < (m : Int)) = false]) := r3_parts4 (by kernel_rfl) (by kernel_rfl) (by kernel_rfl) (by kernel_rfl)
end Go.Proofs.Ytejcjdhplpjpjaa

namespace Go.Proofs.Ytejcjdhplpjpjaa
open Go Go.Vx
/-! ### MacTwo: the loop -/
def xQ (q : Nat) (d : Nat → List Int) : Nat → List Int
  | 0 => []
  | i + 1 => if i % 2 = q then xQ q d i ++ d i else xQ q d i
noncomputable def aQ (q : Nat) (a : Nat → Int) (d : Nat → List Int) : Nat → (Nat → Int)
  | 0 => a
  | i + 1 => if i % 2 = q then wrA (n43 (aQ q a d i)) (d i) else aQ q a d i
theorem MS_Q {T : Int} {mk : Nat → Int} {d : Nat → List Int} {m : Nat} {a : Nat → Int} (q : Nat) (h0 : MS T mk [] a) (hd : YB d m) : ∀ i, i ≤ m → MS T mk (xQ q d i) (aQ q a d i)
  | 0, _ => h0
  | i + 1, h => by
    have ih := MS_Q q h0 hd i (by omega)
    simp only [xQ, aQ]
    split
    · exact MS_write (MS_43 ih) (hd i (by omega))
    · exact ih
def sp2 (d : Nat → List Int) (m : Nat) : Nat := firstI (fun i => decide (131072 < (xQ 0 d i).length + (xQ 1 d i).length + (d i).length)) m
theorem sp2_le (d : Nat → List Int) (m : Nat) : sp2 d m ≤ m := (firstI_spec _ m).1
theorem sp2_lt {d : Nat → List Int} {m i : Nat} (h : i < sp2 d m) : (xQ 0 d i).length + (xQ 1 d i).length + (d i).length ≤ 131072 := by
  have := (firstI_spec _ m).2.1 i h
  have := of_decide_eq_false this
  omega
theorem sp2_at {d : Nat → List Int} {m : Nat} (h : sp2 d m < m) : 131072 < (xQ 0 d (sp2 d m)).length + (xQ 1 d (sp2 d m)).length + (d (sp2 d m)).length := of_decide_eq_true ((firstI_spec _ m).2.2 h)
theorem xQ_len {d : Nat → List Int} {m : Nat} : ∀ i, i ≤ sp2 d m → (xQ 0 d i).length + (xQ 1 d i).length ≤ 131072
  | 0, _ => by simp [xQ]
  | i + 1, h => by
    have := sp2_lt (show i < sp2 d m by omega)
    have h2 : i % 2 < 2 := Nat.mod_lt _ (by decide)
    by_cases c : i % 2 = 0
    · simp only [xQ, if_pos c, if_neg (show ¬ i % 2 = 1 by omega), List.length_append]; omega
    · simp only [xQ, if_neg c, if_pos (show i % 2 = 1 by omega), List.length_append]; omega
theorem st2_ok {m i : Nat} {x y e : List Int} {b : Bool} (Fm : Fits .i64 (m : Int)) (hi : i < m) (hx : x.length + y.length ≤ 131072) (he : Fits .i64 (e.length : Int)) (hb : decide (131072 < x.length + y.length + e.length) = b) : AllC (st2 m i x y e b) := by
  simp only [st2, allC_cons, allC_nil, and_true]
  refine ⟨Fm, decide_eq_true (by omega), ⟨by omega, by omega⟩, fits_of (by omega) (by omega), fits_of (by omega) (by omega), fits_of (by omega) (by omega), fits_of (by omega) (by omega), he, ?_⟩
  rw [← hb]
  exact decide_eq_decide.2 (by omega)
abbrev KB (k : Nat → Int) : Prop := ∀ j, j < 32 → Byte (k j)
theorem hiB {k : Nat → Int} (h : KB k) : ∀ j, j < 16 → Byte (atL (hiK (kk k)) j) := fun j hj => by
  rw [show atL (hiK (kk k)) j = kk k (16 + j) from atLF hj, show kk k (16 + j) = k (16 + j) from atLF (by omega)]; exact h _ (by omega)
abbrev MK (k : Nat → Int) (x : List Int) (a : Nat → Int) : Prop := MS (kT (kk k)) (atL (hiK (kk k))) x a
theorem tag_eq {k : Nat → Int} {x : List Int} {a : Nat → Int} (hk : KB k) (h : MK k x a) : (!decide (Tg a = Dg k x)) = false := by
  have : Tg a = Dg k x := by
    show listF 16 (tgN (n43 a)) 0 = listF 16 (atL (dTag _ _ x)) 0
    rw [dTag_L]; exact MS_tag (MS_43 h) (hiB hk)
  rw [decide_eq_true this]; rfl
theorem ask2_ok {m i : Nat} {p : Nat → Bool} {k l a b : Nat → Int} {x y : List Int} {q : Bool} (hk : KB k) (hl : KB l) (ha : MK k x a) (hb : MK l y b) (hx : x.length + y.length ≤ 131072) (hi : i < m) (hp : p i = q) : AllC (ask2 m i p k l a b x y q) := by
  cases q with
  | false => simp only [ask2, allC_cons, allC_nil, and_true]; exact ⟨hp, by omega, by omega⟩
  | true =>
    simp only [ask2, allC_cons, allC_nil, and_true]
    exact ⟨trivial, by omega, MS_h (MS_43 hb), tag_eq hk ha, trivial, by omega, MS_h (MS_43 ha), hp, ⟨by omega, by omega⟩, tag_eq hl hb⟩
theorem wr2_ok {i : Nat} {b : Bool} {a : Nat → Int} {x e : List Int} {T : Int} {mk : Nat → Int} (h : MS T mk x a) (hb : decide (i % 2 = 0) = b) (hx : x.length + e.length ≤ 131072) : AllC (wr2 i b a x e) := by
  have hap : (x ++ e).length = x.length + e.length := List.length_append
  simp only [wr2, allC_cons, allC_nil, and_true]
  refine ⟨?_, MS_h (MS_43 h), by omega, by omega⟩
  rw [← hb]
  have e : (i : Int).tmod 2 = ((i % 2 : Nat) : Int) := rfl
  rw [e]
  exact decide_eq_decide.2 (by omega)
noncomputable abbrev twZ (d : Nat → List Int) (k l a b : Nat → Int) (i : Nat) : List Body := twB k l (aQ 0 a d i) (aQ 1 b d i) (xQ 0 d i) (xQ 1 d i)
theorem idD (k l : Nat) : ∀ j : Nat, j < 4 → ([0, 1, 2, 3, k, l] : List Nat)[j]? = some j := fun j hj => by
  match j, hj with
  | 0, _ => rfl
  | 1, _ => rfl
  | 2, _ => rfl
  | 3, _ => rfl
theorem tw_round {w0 : World} {O : Go.Vx.Own} (hgl : GlobOk gt w0 O) (p : Nat → Bool) (d : Nat → List Int) (m : Nat) (k l a b : Nat → Int) (hk : KB k) (hl : KB l) (h0 : MK k [] a) (h1 : MK l [] b) (hd : YB d m) (Fm : Fits .i64 (m : Int)) (hm : m ≤ 400) (i : Nat) (hi : i < sp2 d m) :
    SimC gt.P w0 O 109 twBody (twS p d m i) (twZ d k l a b i) .normal (twS p d m (i + 1)) (twZ d k l a b (i + 1)) 4 := by
  have hle := sp2_le d m
  have hs := sp2_lt hi
  have hx := xQ_len (d := d) (m := m) i (by omega)
  have hx1 := xQ_len (d := d) (m := m) (i + 1) (by omega)
  have F1 : AllC [Fits .i64 ((i : Int) + 1)] := by simp only [allC_cons, allC_nil, and_true]; exact fits_of (by omega) (by omega)
  have A := MS_Q 0 h0 hd i (by omega)
  have B := MS_Q 1 h1 hd i (by omega)
  have A1 := MS_Q 0 h0 hd (i + 1) (by omega)
  have B1 := MS_Q 1 h1 hd (i + 1) (by omega)
  have hst : AllC (st2 m i (xQ 0 d i) (xQ 1 d i) (d i) false) := st2_ok Fm (by omega) hx (fits_of (by omega) (by omega)) (decide_eq_false (by omega))
  by_cases c : i % 2 = 0
  · have c1 : ¬ i % 2 = 1 := by omega
    have eB : twZ d k l a b (i + 1) = twB k l (wrA (n43 (aQ 0 a d i)) (d i)) (aQ 1 b d i) (xQ 0 d i ++ d i) (xQ 1 d i) := by
      simp only [twZ, aQ, xQ, if_pos c, if_neg c1]
    simp only [xQ, aQ, if_pos c, if_neg c1] at A1 B1 hx1
    rw [eB]
    have hr : ∀ q, twE p d m i k l (aQ 0 a d i) (aQ 1 b d i) (xQ 0 d i) (xQ 1 d i) q := fun q => by
      cases q with
      | false => exact tw_e0 ..
      | true => exact tw_e1 ..
    refine SimC.run (B' := twB k l (wrA (n43 (aQ 0 a d i)) (d i)) (aQ 1 b d i) (xQ 0 d i ++ d i) (xQ 1 d i)) gt_ok (by decide) (hr (p i)) ?_ (by decide) (idD 6 5) (by decide) (by simp) hgl
    refine allC_append.2 ⟨hst, allC_append.2 ⟨wr2_ok A (decide_eq_true c) (by omega), allC_append.2 ⟨?_, allC_append.2 ⟨ask2_ok hk hl A1 B1 hx1 (by omega) rfl, F1⟩⟩⟩⟩
    simp only [th2, allC_cons, allC_nil, and_true]; exact decide_eq_false (by omega)
  · have c1 : i % 2 = 1 := by omega
    have eB : twZ d k l a b (i + 1) = twB k l (aQ 0 a d i) (wrA (n43 (aQ 1 b d i)) (d i)) (xQ 0 d i) (xQ 1 d i ++ d i) := by
      simp only [twZ, aQ, xQ, if_pos c1, if_neg c]
    simp only [xQ, aQ, if_pos c1, if_neg c] at A1 B1 hx1
    rw [eB]
    have hr : ∀ t q, twP p d m i k l (aQ 0 a d i) (aQ 1 b d i) (xQ 0 d i) (xQ 1 d i) t q := fun t q => by
      cases t <;> cases q
      · exact tw_p00 ..
      · exact tw_p01 ..
      · exact tw_p10 ..
      · exact tw_p11 ..
    refine SimC.run (B' := twB k l (aQ 0 a d i) (wrA (n43 (aQ 1 b d i)) (d i)) (xQ 0 d i) (xQ 1 d i ++ d i)) gt_ok (by decide) (hr (decide (i = 1)) (p i)) ?_ (by decide) (idD 4 6) (by decide) (by simp) hgl
    refine allC_append.2 ⟨hst, allC_append.2 ⟨wr2_ok B (decide_eq_false c) (by omega), allC_append.2 ⟨?_, allC_append.2 ⟨ask2_ok hk hl A1 B1 hx1 (by omega) rfl, F1⟩⟩⟩⟩
    by_cases c2 : i = 1
    · rw [decide_eq_true c2]
      simp only [th2, allC_cons, allC_nil, and_true]
      exact ⟨decide_eq_true (by omega), by decide, by decide⟩
    · rw [decide_eq_false c2]
      simp only [th2, allC_cons, allC_nil, and_true]
      exact decide_eq_false (by omega)
end Go.Proofs.Ytejcjdhplpjpjaa

namespace Go.Proofs.Ytejcjdhplpjpjaa
open Go Go.Vx
noncomputable abbrev twC (f : Nat → SV) (m : Nat) (lk ll la lb : List Int) : List Prop := [f = rowY (pOf f) (dOf f), Fits .i64 (m : Int), ∀ i, i < m → factsC (f i), m ≤ 400, KB (atL lk), KB (atL ll), MK (atL lk) [] (atL la), MK (atL ll) [] (atL lb)]
noncomputable def twG0 : LoopF := fun vals B => match vals, B with
  | [.ro 2 m f, .ptr 0 0, .ptr 1 0, .ptr 2 0, .ptr 3 0, .raw (.slice none 0 0), .raw (.slice none 0 0), .int .i64 0], [.cells c1, .cells c2, .cells m1, .cells m2] =>
    match numsAs (List.replicate 32 .u8) c1, numsAs (List.replicate 32 .u8) c2, macAs m1, headK (m1.take 1), macAs m2, headK (m2.take 1) with
    | some lk, some ll, some la, .nil, some lb, .nil => some ([(3, .ptr 0 0), (4, .ptr 1 0), (7, .ptr 2 0), (8, .ptr 3 0), (9, .own 4), (10, .own 5)], twZ (dOf f) (atL lk) (atL ll) (atL la) (atL lb) m, twC f m lk ll la lb ++ [sp2 (dOf f) m = m])
    | _, _, _, _, _, _ => none
  | _, _ => none
noncomputable def twG1 : LoopF := fun vals B => match vals, B with
  | [.ro 2 m f, .ptr 0 0, .ptr 1 0, .ptr 2 0, .ptr 3 0, .raw (.slice none 0 0), .raw (.slice none 0 0), .int .i64 0], [.cells c1, .cells c2, .cells m1, .cells m2] =>
    match numsAs (List.replicate 32 .u8) c1, numsAs (List.replicate 32 .u8) c2, macAs m1, headK (m1.take 1), macAs m2, headK (m2.take 1) with
    | some lk, some ll, some la, .nil, some lb, .nil => some ([(6, .bool true)], twZ (dOf f) (atL lk) (atL ll) (atL la) (atL lb) (sp2 (dOf f) m), twC f m lk ll la lb ++ [sp2 (dOf f) m < m, Fits .i64 ((dOf f (sp2 (dOf f) m)).length : Int)])
    | _, _, _, _, _, _ => none
  | _, _ => none
theorem tw_loop0 : LoopGood gt 109 (.loop twBody) twKeep 4 (.exit 0) (mkLoopN twG0) := by
  refine LoopGood.mkN (by decide) fun vals B S' B' C hG hC hlen w0 O hgl => ?_
  clear hlen
  unfold twG0 at hG
  split at hG
  · rename_i m f c1 c2 m1 m2
    split at hG
    · rename_i lk ll la lb h1 h2 h3 r3 h4 r4
      have r3 := head_nil r3
      have r4 := head_nil r4
      simp only [Option.some.injEq, Prod.mk.injEq] at hG
      obtain ⟨rfl, rfl, rfl⟩ := hG
      simp only [twC, allC_append, allC_cons, allC_nil, and_true] at hC
      obtain ⟨⟨hf, Fm, hff, hm, k1, k2, a1, a2⟩, hN⟩ := hC
      have hd := rowY_bytes hf hff
      generalize pOf f = p at *
      generalize hdd : dOf f = d at *
      rw [hf]
      clear hf hff hdd
      refine SimC.preI (B1 := [.cells (svF (List.replicate 32 .u8) (atL lk) 0), .cells (svF (List.replicate 32 .u8) (atL ll) 0), macV nilR (atL la), macV nilR (atL lb)]) ?_ ⟨cells_nums h1, cells_nums h2, cells_mac h3 r3 rfl, cells_mac h4 r4 rfl, trivial⟩
      refine SimC.adoptS (.ints .u8 []) 9 rfl rfl (by simp) (by simp) ?_
      show SimC _ _ _ _ _ (twKeep.zip [.ro 2 m (rowY p d), .ptr 0 0, .ptr 1 0, .ptr 2 0, .ptr 3 0, .own 4, .raw (.slice none 0 0), .int .i64 0]) _ _ _ _ _
      refine SimC.adoptS (.ints .u8 []) 10 rfl rfl (by simp) (by simp) ?_
      show SimC _ _ _ _ _ (twS p d m 0) (twZ d (atL lk) (atL ll) (atL la) (atL lb) 0) _ _ _ _
      refine SimC.iter (g := gt) (e := .exit 0) (S := fun i => twS p d m i) (B := fun i => twZ d (atL lk) (atL ll) (atL la) (atL lb) i) (N := m) (fun i hi => tw_round hgl p d m _ _ _ _ k1 k2 a1 a2 hd Fm hm i (by omega)) ?_ (by simp) 0 (by omega)
      exact SimC.weaken (SimC.run (B' := twZ d (atL lk) (atL ll) (atL la) (atL lb) m) gt_ok (by decide) (tw_end p d m m _ _ _ _ _ _) (by simp only [allC_cons, allC_nil, and_true]; exact ⟨Fm, decide_eq_false (by omega)⟩) (by decide) (idD 4 5) (by decide) (by simp) hgl) (sub_mkT (by simp; exact ⟨rfl, rfl, rfl, rfl, rfl, rfl⟩))
    · simp at hG
  · simp at hG
theorem tw_loop1 : LoopGood gt 109 (.loop twBody) twKeep 4 .ret (mkLoopN twG1) := by
  refine LoopGood.mkN (by decide) fun vals B S' B' C hG hC hlen w0 O hgl => ?_
  clear hlen
  unfold twG1 at hG
  split at hG
  · rename_i m f c1 c2 m1 m2
    split at hG
    · rename_i lk ll la lb h1 h2 h3 r3 h4 r4
      have r3 := head_nil r3
      have r4 := head_nil r4
      simp only [Option.some.injEq, Prod.mk.injEq] at hG
      obtain ⟨rfl, rfl, rfl⟩ := hG
      simp only [twC, allC_append, allC_cons, allC_nil, and_true] at hC
      obtain ⟨⟨hf, Fm, hff, hm, k1, k2, a1, a2⟩, hN, Fl⟩ := hC
      have hd := rowY_bytes hf hff
      generalize pOf f = p at *
      generalize hdd : dOf f = d at *
      rw [hf]
      clear hf hff hdd
      refine SimC.preI (B1 := [.cells (svF (List.replicate 32 .u8) (atL lk) 0), .cells (svF (List.replicate 32 .u8) (atL ll) 0), macV nilR (atL la), macV nilR (atL lb)]) ?_ ⟨cells_nums h1, cells_nums h2, cells_mac h3 r3 rfl, cells_mac h4 r4 rfl, trivial⟩
      refine SimC.adoptS (.ints .u8 []) 9 rfl rfl (by simp) (by simp) ?_
      show SimC _ _ _ _ _ (twKeep.zip [.ro 2 m (rowY p d), .ptr 0 0, .ptr 1 0, .ptr 2 0, .ptr 3 0, .own 4, .raw (.slice none 0 0), .int .i64 0]) _ _ _ _ _
      refine SimC.adoptS (.ints .u8 []) 10 rfl rfl (by simp) (by simp) ?_
      show SimC _ _ _ _ _ (twS p d m 0) (twZ d (atL lk) (atL ll) (atL la) (atL lb) 0) _ _ _ _
      refine SimC.iter (g := gt) (e := .ret) (S := fun i => twS p d m i) (B := fun i => twZ d (atL lk) (atL ll) (atL la) (atL lb) i) (N := sp2 d m) (fun i hi => tw_round hgl p d m _ _ _ _ k1 k2 a1 a2 hd Fm hm i hi) ?_ (by simp) 0 (by omega)
      exact SimC.weaken (SimC.run (B' := twZ d (atL lk) (atL ll) (atL la) (atL lb) (sp2 d m)) gt_ok (by decide) (tw_long p d m (sp2 d m) _ _ _ _ _ _) (st2_ok Fm hN (xQ_len _ (Nat.le_refl _)) Fl (decide_eq_true (sp2_at hN))) (by decide) (idD 4 5) (by decide) (by simp) hgl) (sub_mkT (by simp; exact rfl))
    · simp at hG
  · simp at hG
/-! what New makes -/
def nwL (k : Nat → Int) : List Int := listF 5 (clampN (loK k)) 0 ++ (List.replicate 5 0 ++ (listF 16 (fun j => k (16 + j)) 0 ++ (List.replicate 16 0 ++ [0])))
theorem kk_kk (k : Nat → Int) : kk (kk k) = kk k := by
  show atL (listF 32 (atL (listF 32 k 0)) 0) = atL (listF 32 k 0)
  congr 1
theorem MS_new {k : Nat → Int} (h : KB k) : MS (kT k) (atL (hiK k)) [] (atL (nwL k)) := by
  have hb : ∀ j, j < 16 → Byte (atL (loK k) j) := fun j hj => by rw [atLF hj]; exact h j (by omega)
  refine ⟨?_, ?_, fun j hj => ?_, fun j hj => ?_, ?_, fun j => ⟨Int.le_refl 0, by show (0 : Int) < 256; decide⟩⟩
  · have e : byL (atL (nwL k)) = L5 (clampN (loK k)) := rfl
    rw [e]
    have hi := is_block (l := clampL (atL (loK k))) (clamp_bytes hb)
    have e2 : leN 17 (atL (clampL (atL (loK k)))) 0 = kT k := leN_congr 17 0 fun j hj => by rw [Nat.zero_add]; exact clampL_at hb j hj
    rw [e2] at hi
    exact hi
  · have e : smL (atL (nwL k)) = L5 (fun _ => 0) := rfl
    rw [e]
    have hz : Is (L5 fun _ => 0) 0 := ⟨⟨by decide, by decide, by decide, by decide, by decide⟩, by decide⟩
    exact hz
  · have e : listF 16 (fun j => atL (nwL k) (10 + j)) 0 = hiK k := rfl
    rw [show atL (hiK k) j = atL (listF 16 (fun j => atL (nwL k) (10 + j)) 0) j by rw [e], atLF hj]
  · rw [if_neg (by simp)]
    have e : listF 16 (fun j => atL (nwL k) (26 + j)) 0 = List.replicate 16 0 := rfl
    have e2 := atLF (n := 16) (a := fun j => atL (nwL k) (26 + j)) hj
    rw [e] at e2
    rw [← e2]
    show (List.replicate 16 (0 : Int)).getD j 0 = 0
    rw [List.getD_eq_getElem?_getD, List.getElem?_replicate, if_pos hj]; rfl
  · rfl
theorem MK_new {k : Nat → Int} (h : KB k) : MK (kk k) [] (atL (nwL (kk k))) := by
  have h2 : KB (kk k) := fun j hj => by rw [show kk k j = k j from atLF hj]; exact h j hj
  show MS (kT (kk (kk k))) (atL (hiK (kk (kk k)))) [] _
  rw [kk_kk]
  exact MS_new h2
end Go.Proofs.Ytejcjdhplpjpjaa

namespace Go.Proofs.Ytejcjdhplpjpjaa
open Go Go.Vx
/-! ### pieces: long, Of -/
noncomputable abbrev rowL (d : Nat → List Int) : Nat → SV := fun i => .roi .u8 (d i)
def lOf (f : Nat → SV) (i : Nat) : List Int := match f i with | .roi _ l => l | _ => []
abbrev lgKeep : List Nat := [0, 3, 4]
noncomputable abbrev lgBody : Code := bodyAt Try.prog 17 5
noncomputable abbrev lgO (d : Nat → List Int) (m : Nat) (n i : Int) : List SV := [.ro 1 m (rowL d), .int .i64 n, .int .i64 i]
noncomputable abbrev lgS (d : Nat → List Int) (m : Nat) (n : Int) (i : Nat) : List (Nat × SV) := lgKeep.zip (lgO d m n (i : Int))
abbrev lgC (m i : Nat) (n : Int) (e : List Int) (b : Bool) : List Prop := [Fits .i64 (m : Int), decide ((i : Int) < (m : Int)) = true, Fits .i64 (n + (e.length : Int)), Fits .i64 (e.length : Int), (0 : Int) ≤ (i : Int) ∧ (i : Int) < (m : Int), decide (131072 < n + (e.length : Int)) = b]
theorem lg_go (d : Nat → List Int) (m i : Nat) (n : Int) : runC gn 300 23 [.br true, .br false] lgBody (lgS d m n i) [] lgKeep [] =
    some (.normal, lgO d m (n + ((d i).length : Int)) ((i : Int) + 1), [], lgC m i n (d i) false ++ [Fits .i64 ((i : Int) + 1)]) :=
  r3_parts4 (by kernel_rfl) (by kernel_rfl) (by kernel_rfl) (by kernel_rfl)
theorem lg_long (d : Nat → List Int) (m i : Nat) (n : Int) : runC gn 300 23 [.br true, .br true] lgBody (lgS d m n i) [] [2] [] =
    some (.ret, [.bool true], [], lgC m i n (d i) true) :=
  r3_parts4 (by kernel_rfl) (by kernel_rfl) (by kernel_rfl) (by kernel_rfl)
theorem lg_end (d : Nat → List Int) (m i : Nat) (n : Int) : runC gn 300 23 [.br false] lgBody (lgS d m n i) [] lgKeep [] =
    some (.exit 0, lgO d m n (i : Int), [], [Fits .i64 (m : Int), decide ((i : Int) < (m : Int)) = false]) :=
  r3_parts4 (by kernel_rfl) (by kernel_rfl) (by kernel_rfl) (by kernel_rfl)
abbrev ofKeep : List Nat := [0, 2, 6, 7, 8]
noncomputable abbrev ofBody : Code := bodyAt Try.prog 16 3
noncomputable abbrev ofO (d : Nat → List Int) (m : Nat) (i : Int) : List SV := [nilR, .ro 1 m (rowL d), .ptr 0 0, .ptr 1 0, .int .i64 i]
noncomputable abbrev ofB (z a : Nat → Int) : List Body := [.cells (svF (List.replicate 16 .u8) z 0), macV nilR a]
noncomputable abbrev ofS (d : Nat → List Int) (m i : Nat) : List (Nat × SV) := ofKeep.zip (ofO d m (i : Int))
theorem of_go (d : Nat → List Int) (m i : Nat) (z a : Nat → Int) : runC gn 300 30 [.br true] ofBody (ofS d m i) (ofB z a) ofKeep [0, 1] =
    some (.normal, ofO d m ((i : Int) + 1), (ofB z (wrA (n43 a) (d i))).map some, [Fits .i64 (m : Int), decide ((i : Int) < (m : Int)) = true, 0 ≤ n43 a 42 ∧ n43 a 42 < 16, (d i).length ≤ 140737488355328, (0 : Int) ≤ (i : Int) ∧ (i : Int) < (m : Int), Fits .i64 ((i : Int) + 1)]) :=
  r3_parts4 (by kernel_rfl) (by kernel_rfl) (by kernel_rfl) (by kernel_rfl)
theorem of_end (d : Nat → List Int) (m i : Nat) (z a : Nat → Int) : runC gn 300 30 [.br false] ofBody (ofS d m i) (ofB z a) ofKeep [0, 1] =
    some (.exit 0, ofO d m (i : Int), (ofB z a).map some, [Fits .i64 (m : Int), decide ((i : Int) < (m : Int)) = false]) :=
  r3_parts4 (by kernel_rfl) (by kernel_rfl) (by kernel_rfl) (by kernel_rfl)
end Go.Proofs.Ytejcjdhplpjpjaa

namespace Go.Proofs.Ytejcjdhplpjpjaa
open Go Go.Vx
/-! ### long -/
abbrev LB (d : Nat → List Int) (m : Nat) : Prop := ∀ i, i < m → (d i).length ≤ 140737488351232
noncomputable abbrev lC (f : Nat → SV) (m : Nat) : List Prop := [f = rowL (lOf f), Fits .i64 (m : Int), LB (lOf f) m]
noncomputable def lgG0 : LoopF := fun vals B => match vals, B with
  | [.ro 1 m f, .int .i64 0, .int .i64 0], [] => some ([], [], lC f m ++ [stp (lOf f) m = m])
  | _, _ => none
noncomputable def lgG1 : LoopF := fun vals B => match vals, B with
  | [.ro 1 m f, .int .i64 0, .int .i64 0], [] => some ([(2, .bool true)], [], lC f m ++ [stp (lOf f) m < m])
  | _, _ => none
theorem lgC_ok {m i : Nat} {x e : List Int} {b : Bool} (Fm : Fits .i64 (m : Int)) (hi : i < m) (hx : x.length ≤ 131072) (he : e.length ≤ 140737488351232) (hb : decide (131072 < x.length + e.length) = b) : AllC (lgC m i (x.length : Int) e b) := by
  simp only [lgC, allC_cons, allC_nil, and_true]
  refine ⟨Fm, decide_eq_true (by omega), fits_of (by omega) (by omega), fits_of (by omega) (by omega), ⟨by omega, by omega⟩, ?_⟩
  rw [← hb]
  exact decide_eq_decide.2 (by omega)
theorem q00 (k : List Nat) : ∀ j : Nat, j < 0 → k[j]? = some j := fun j hj => absurd hj (Nat.not_lt_zero j)
theorem lg_round {w0 : World} {O : Go.Vx.Own} (hgl : GlobOk gn w0 O) (d : Nat → List Int) (m : Nat) (Fm : Fits .i64 (m : Int)) (hl : LB d m) (i : Nat) (hi : i < stp d m) :
    SimC gn.P w0 O 23 lgBody (lgS d m ((xZ d i).length : Int) i) [] .normal (lgS d m ((xZ d (i + 1)).length : Int) (i + 1)) [] 0 := by
  have hle := stp_le d m
  have hs := stp_lt hi
  have hx := xZ_len (d := d) (m := m) i (by omega)
  have hm : (m : Int) ≤ 9223372036854775807 := Fm.2
  have e : ((xZ d (i + 1)).length : Int) = ((xZ d i).length : Int) + ((d i).length : Int) := by
    simp only [xZ, List.length_append]; omega
  rw [e]
  refine SimC.run (B' := []) gn_ok (by decide) (lg_go d m i _) (allC_append.2 ⟨lgC_ok Fm (by omega) hx (hl i (by omega)) (decide_eq_false (by omega)), ?_⟩) (by decide) (q00 _) (by decide) (by simp) hgl
  simp only [allC_cons, allC_nil, and_true]
  exact fits_of (by omega) (by omega)
theorem lg_loop0 : LoopGood gn 23 (.loop lgBody) lgKeep 0 (.exit 0) (mkLoopN lgG0) := by
  refine LoopGood.mkN (by decide) fun vals B S' B' C hG hC hlen w0 O hgl => ?_
  clear hlen
  unfold lgG0 at hG
  split at hG
  · rename_i m f
    simp only [Option.some.injEq, Prod.mk.injEq] at hG
    obtain ⟨rfl, rfl, rfl⟩ := hG
    simp only [lC, allC_append, allC_cons, allC_nil, and_true] at hC
    obtain ⟨⟨hf, Fm, hl⟩, hN⟩ := hC
    generalize lOf f = d at *
    rw [hf]
    clear hf
    show SimC _ _ _ _ _ (lgS d m ((xZ d 0).length : Int) 0) [] _ _ _ _
    refine SimC.iter (g := gn) (e := .exit 0) (S := fun i => lgS d m ((xZ d i).length : Int) i) (B := fun _ => []) (N := m) (fun i hi => lg_round hgl d m Fm hl i (by omega)) ?_ (by simp) 0 (by omega)
    exact SimC.weaken (SimC.run (B' := []) gn_ok (by decide) (lg_end d m m _) (by simp only [allC_cons, allC_nil, and_true]; exact ⟨Fm, decide_eq_false (by omega)⟩) (by decide) (q00 _) (by decide) (by simp) hgl) (sub_mkT (by simp))
  · simp at hG
theorem lg_loop1 : LoopGood gn 23 (.loop lgBody) lgKeep 0 .ret (mkLoopN lgG1) := by
  refine LoopGood.mkN (by decide) fun vals B S' B' C hG hC hlen w0 O hgl => ?_
  clear hlen
  unfold lgG1 at hG
  split at hG
  · rename_i m f
    simp only [Option.some.injEq, Prod.mk.injEq] at hG
    obtain ⟨rfl, rfl, rfl⟩ := hG
    simp only [lC, allC_append, allC_cons, allC_nil, and_true] at hC
    obtain ⟨⟨hf, Fm, hl⟩, hN⟩ := hC
    generalize lOf f = d at *
    rw [hf]
    clear hf
    show SimC _ _ _ _ _ (lgS d m ((xZ d 0).length : Int) 0) [] _ _ _ _
    refine SimC.iter (g := gn) (e := .ret) (S := fun i => lgS d m ((xZ d i).length : Int) i) (B := fun _ => []) (N := stp d m) (fun i hi => lg_round hgl d m Fm hl i hi) ?_ (by simp) 0 (by omega)
    exact SimC.weaken (SimC.run (B' := []) gn_ok (by decide) (lg_long d m (stp d m) _) (lgC_ok Fm hN (xZ_len _ (Nat.le_refl _)) (hl _ hN) (decide_eq_true (stp_at hN))) (by decide) (q00 _) (by decide) (by simp) hgl) (sub_mkT (by simp; exact rfl))
  · simp at hG
theorem long_run0 (d : Nat → List Int) (m : Nat) : runF gn 900 [.br false, .loop 5 lgKeep 0 (.exit 0) (mkLoopN lgG0)] 17 [.ro 1 m (rowL d)] [] [] =
    some (.bool false, [], [Fits .i64 (m : Int), decide ((400 : Int) < (m : Int)) = false, LoopGood gn 23 (.loop lgBody) lgKeep 0 (.exit 0) (mkLoopN lgG0)] ++ (lC (rowL d) m ++ [stp d m = m])) :=
  run_parts (by kernel_rfl) (by kernel_rfl) (by kernel_rfl)
theorem long_run1 (d : Nat → List Int) (m : Nat) : runF gn 900 [.br false, .loop 5 lgKeep 0 .ret (mkLoopN lgG1)] 17 [.ro 1 m (rowL d)] [] [] =
    some (.bool true, [], [Fits .i64 (m : Int), decide ((400 : Int) < (m : Int)) = false, LoopGood gn 23 (.loop lgBody) lgKeep 0 .ret (mkLoopN lgG1)] ++ (lC (rowL d) m ++ [stp d m < m])) :=
  run_parts (by kernel_rfl) (by kernel_rfl) (by kernel_rfl)
theorem long_run2 (d : Nat → List Int) (m : Nat) : runF gn 900 [.br true] 17 [.ro 1 m (rowL d)] [] [] =
    some (.bool true, [], [Fits .i64 (m : Int), decide ((400 : Int) < (m : Int)) = true]) :=
  run_parts (by kernel_rfl) (by kernel_rfl) (by kernel_rfl)
noncomputable def F17 : SumF := fun args B => match args, B with
  | [.ro 1 m f], [] => some { val := .sbool (decide (400 < m ∨ stp (lOf f) m < m)), C := lC f m }
  | _, _ => none
theorem acc17 : Acc gn 17 F17 := by
  intro args B out h hC
  unfold F17 at h
  split at h
  · rename_i m f
    simp only [Option.some.injEq] at h; subst h
    have hC2 := hC
    simp only [lC, allC_cons, allC_nil, and_true] at hC2
    obtain ⟨hf, Fm, hl⟩ := hC2
    generalize hd : lOf f = d at *
    have hc : AllC (lC (rowL d) m) := by
      simp only [lC, allC_cons, allC_nil, and_true]; exact ⟨rfl, Fm, hl⟩
    have hL0 := lg_loop0
    have hL1 := lg_loop1
    rw [hf]
    have hle := stp_le d m
    by_cases h4 : 400 < m
    · exact FnOk.toSb (b := true) (FnOk.pure gn_ok (long_run2 d m) (by simp only [allC_cons, allC_nil, and_true]; exact ⟨Fm, decide_eq_true (by omega)⟩)) (decide_eq_true (.inl h4)).symm
    · have h0 : decide ((400 : Int) < (m : Int)) = false := decide_eq_false (by omega)
      by_cases hs : stp d m < m
      · refine FnOk.toSb (b := true) (FnOk.pure gn_ok (long_run1 d m) ?_) (decide_eq_true (.inr hs)).symm
        refine allC_append.2 ⟨?_, allC_append.2 ⟨hc, ?_⟩⟩
        · simp only [allC_cons, allC_nil, and_true]; exact ⟨Fm, h0, hL1⟩
        · simp only [allC_cons, allC_nil, and_true]; exact hs
      · refine FnOk.toSb (b := false) (FnOk.pure gn_ok (long_run0 d m) ?_) (decide_eq_false (by omega)).symm
        refine allC_append.2 ⟨?_, allC_append.2 ⟨hc, ?_⟩⟩
        · simp only [allC_cons, allC_nil, and_true]; exact ⟨Fm, h0, hL0⟩
        · simp only [allC_cons, allC_nil, and_true]; omega
  · simp at h
end Go.Proofs.Ytejcjdhplpjpjaa

namespace Go.Proofs.Ytejcjdhplpjpjaa
open Go Go.Vx
/-! ### EventsTag; EventsWrite's loop -/
abbrev bI (b : Bool) : Int := if b = true then 1 else 0
abbrev evK : List IntKind := [.i64, .i64]
theorem et_run1 (h : Int) : runF ge 300 [.br true] 21 [.int .i64 h] [] [5] = some (.own 0, [some (.rows evK [[1, bI (decide (0 < h))], [2, h], [3, 11], [3, 12]])], [(1 : Nat) * 16 ≤ 2 ^ 47, decide (0 < h) = true, (2 : Nat) * 16 ≤ 2 ^ 47, (4 : Nat) * 16 ≤ 2 ^ 47]) :=
  run_parts (by kernel_rfl) (by kernel_rfl) (by kernel_rfl)
theorem et_run0 (h : Int) : runF ge 300 [.br false] 21 [.int .i64 h] [] [1] = some (.own 0, [some (.rows evK [[1, bI (decide (0 < h))]])], [(1 : Nat) * 16 ≤ 2 ^ 47, decide (0 < h) = false]) :=
  run_parts (by kernel_rfl) (by kernel_rfl) (by kernel_rfl)
def evT (h : Int) : List (List Int) := if 0 < h then [[1, 1], [2, h], [3, 11], [3, 12]] else [[1, 0]]
def F21 : SumF := fun args B => match args, B with
  | [.int .i64 h], [] => some { val := .own 0, new := [.rows evK (evT h)] }
  | _, _ => none
theorem acc21 : Acc ge 21 F21 := by
  intro args B out h hC
  unfold F21 at h
  split at h
  · rename_i n
    simp only [Option.some.injEq] at h; subst h
    by_cases c : 0 < n
    · have hr := et_run1 n
      have e : bI (decide (0 < n)) = 1 := by rw [decide_eq_true c]; rfl
      rw [e] at hr
      have e2 : evT n = [[1, 1], [2, n], [3, 11], [3, 12]] := if_pos c
      rw [e2]
      exact FnOk.run (out := { val := .own 0, new := [.rows evK [[1, 1], [2, n], [3, 11], [3, 12]]] }) (new := [5]) ge_ok hr (by simp only [allC_cons, allC_nil, and_true]; exact ⟨by decide, decide_eq_true c, by decide, by decide⟩) (by simp [upto]) rfl (by simp) (by simp) (fun j hj => by
        match j, hj with
        | 0, _ => rfl)
    · have hr := et_run0 n
      have e : bI (decide (0 < n)) = 0 := by rw [decide_eq_false c]; rfl
      rw [e] at hr
      have e2 : evT n = [[1, 0]] := if_neg c
      rw [e2]
      exact FnOk.run (out := { val := .own 0, new := [.rows evK [[1, 0]]] }) (new := [1]) ge_ok hr (by simp only [allC_cons, allC_nil, and_true]; exact ⟨by decide, decide_eq_false c⟩) (by simp [upto]) rfl (by simp) (by simp) (fun j hj => by
        match j, hj with
        | 0, _ => rfl)
  · simp at h
abbrev ewKeep : List Nat := [0, 1, 6]
noncomputable abbrev ewBody : Code := bodyAt Try.prog 24 14
abbrev ewS (h : Int) (n : Int) : List (Nat × SV) := ewKeep.zip [.int .i64 h, .int .i64 n, .own 0]
theorem ew_go (h n : Int) (l : List (List Int)) : runC ge 300 67 [.br true] ewBody (ewS h n) [.rows evK l] ewKeep [4] =
    some (.normal, [.int .i64 h, .int .i64 (n - 16), .own 0], [some (.rows evK ((l ++ [[1, 1]]) ++ [[3, 11], [3, 12]]))], [decide ((16 : Int) ≤ n) = true, (l ++ [[1, 1]]).length * 16 ≤ 2 ^ 47, ((l ++ [[1, 1]]) ++ [[3, 11], [3, 12]]).length * 16 ≤ 2 ^ 47, Fits .i64 (n - 16)]) :=
  r3_parts4 (by kernel_rfl) (by kernel_rfl) (by kernel_rfl) (by kernel_rfl)
theorem ew_end (h n : Int) (l : List (List Int)) : runC ge 300 67 [.br false] ewBody (ewS h n) [.rows evK l] ewKeep [0] =
    some (.exit 0, [.int .i64 h, .int .i64 n, .own 0], [some (.rows evK l)], [decide ((16 : Int) ≤ n) = false]) :=
  r3_parts4 (by kernel_rfl) (by kernel_rfl) (by kernel_rfl) (by kernel_rfl)
/-- so many whole blocks -/
def evB (l : List (List Int)) : Nat → List (List Int)
  | 0 => l
  | i + 1 => (evB l i ++ [[1, 1]]) ++ [[3, 11], [3, 12]]
theorem evB_len (l : List (List Int)) : ∀ i, (evB l i).length = l.length + 3 * i
  | 0 => rfl
  | i + 1 => by simp only [evB, List.length_append, List.length_cons, List.length_nil, evB_len l i]; omega
def ewG : LoopF := fun vals B => match vals, B with
  | [.int .i64 h, .int .i64 n, .own 0], [.rows K l] => match sameKs K evK with
    | true => some ([(0, .int .i64 h), (1, .int .i64 (n - 16 * (n.toNat / 16 : Nat))), (6, .own 0)], [.rows evK (evB l (n.toNat / 16))], [0 ≤ n ∧ n ≤ 131072, l.length ≤ 1000])
    | false => none
  | _, _ => none
theorem ew_loop : LoopGood ge 67 (.loop ewBody) ewKeep 0 (.exit 0) (mkLoopN ewG) := by
  refine LoopGood.mkN (by decide) fun vals B S' B' C hG hC hlen w0 O hgl => ?_
  clear hlen
  unfold ewG at hG
  split at hG
  · rename_i h n K l
    split at hG
    · rename_i hK
      obtain rfl := sameKs_eq hK
      simp only [Option.some.injEq, Prod.mk.injEq] at hG
      obtain ⟨rfl, rfl, rfl⟩ := hG
      simp only [allC_cons, allC_nil, and_true] at hC
      obtain ⟨hn, hl⟩ := hC
      have e0 : ewKeep.zip [.int .i64 h, .int .i64 n, .own 0] = ewS h (n - 16 * ((0 : Nat) : Int)) := by
        rw [show n - 16 * ((0 : Nat) : Int) = n by omega]
      rw [e0]
      refine SimC.iter (g := ge) (e := .exit 0) (S := fun i => ewS h (n - 16 * (i : Int))) (B := fun i => [.rows evK (evB l i)]) (N := n.toNat / 16) (fun i hi => ?_) ?_ (by simp) 0 (by omega)
      · have hb := evB_len l i
        have hr := ew_go h (n - 16 * (i : Int)) (evB l i)
        rw [show n - 16 * (i : Int) - 16 = n - 16 * ((i + 1 : Nat) : Int) by omega] at hr
        refine SimC.run (B' := [.rows evK (evB l (i + 1))]) ge_ok (by decide) hr ?_ (by decide) (q00 _) (by decide) (by simp) hgl
        simp only [allC_cons, allC_nil, and_true, List.length_append, List.length_cons, List.length_nil, hb]
        exact ⟨decide_eq_true (by omega), by omega, by omega, fits_of (by omega) (by omega)⟩
      · exact SimC.weaken (SimC.run (B' := [.rows evK (evB l (n.toNat / 16))]) ge_ok (by decide) (ew_end h _ _) (by simp only [allC_cons, allC_nil, and_true]; exact decide_eq_false (by omega)) (by decide) (q00 _) (by decide) (by simp) hgl) (sub_mkT (by simp; exact ⟨rfl, rfl, rfl⟩))
    · simp at hG
  · simp at hG
end Go.Proofs.Ytejcjdhplpjpjaa

namespace Go.Proofs.Ytejcjdhplpjpjaa
open Go Go.Vx
/-! ### EventsWrite -/
abbrev rI (n : Int) : Int := n - 16 * ((n.toNat / 16 : Nat) : Int)
abbrev evE (l : List (List Int)) (n : Int) : List (List Int) := evB l (n.toNat / 16) ++ [[1, bI false], [1, bI (decide (0 < rI n))]]
noncomputable abbrev ewL : Plan := .loop 14 ewKeep 0 (.exit 0) (mkLoopN ewG)
abbrev evA (h : Int) : List (List Int) := [[1, bI (decide (0 < h))]]
abbrev evP (h n : Int) : List (List Int) := [[1, bI (decide (0 < h))], [2, h], [2, n], [1, bI (decide (h + n = 16))]]
abbrev ewT (l : List (List Int)) (k : Nat) (n : Int) (t : Bool) : List Prop := [LoopGood ge 67 (.loop ewBody) ewKeep 0 (.exit 0) (mkLoopN ewG), 0 ≤ n ∧ n ≤ 131072, k ≤ 1000, (evE l n).length * 16 ≤ 2 ^ 47, decide (0 < rI n) = t]
theorem ew_a0 (h n : Int) : runF ge 300 [.br false, ewL, .br false] 24 [.int .i64 h, .int .i64 n] [] [4] = some (.tuple [.own 0, .int .i64 h], [some (.rows evK (evE (evA h) n))], [(1 : Nat) * 16 ≤ 2 ^ 47, decide (0 < h) = false] ++ ewT (evA h) 1 n false) :=
  run_parts (by kernel_rfl) (by kernel_rfl) (by kernel_rfl)
theorem ew_a1 (h n : Int) : runF ge 300 [.br false, ewL, .br true] 24 [.int .i64 h, .int .i64 n] [] [4] = some (.tuple [.own 0, .int .i64 (rI n)], [some (.rows evK (evE (evA h) n))], [(1 : Nat) * 16 ≤ 2 ^ 47, decide (0 < h) = false] ++ ewT (evA h) 1 n true) :=
  run_parts (by kernel_rfl) (by kernel_rfl) (by kernel_rfl)
theorem ew_b (h n : Int) : runF ge 300 [.br true, .br true, .br false, ewL, .br false] 24 [.int .i64 h, .int .i64 n] [] [8] = some (.tuple [.own 0, .int .i64 (h + n)], [some (.rows evK (evE (evP h n) (n - n)))], [(1 : Nat) * 16 ≤ 2 ^ 47, decide (0 < h) = true, Fits .i64 (16 - h), decide (n < 16 - h) = true, (3 : Nat) * 16 ≤ 2 ^ 47, Fits .i64 (h + n), Fits .i64 (n - n), (4 : Nat) * 16 ≤ 2 ^ 47, decide (h + n = 16) = false] ++ ewT (evP h n) 4 (n - n) false) :=
  run_parts (by kernel_rfl) (by kernel_rfl) (by kernel_rfl)
abbrev evF (h : Int) : List (List Int) := evP h (16 - h) ++ [[3, 11], [3, 12]]
theorem ew_c0 (h n : Int) : runF ge 300 [.br true, .br false, .br true, ewL, .br false] 24 [.int .i64 h, .int .i64 n] [] [10] = some (.tuple [.own 0, .int .i64 0], [some (.rows evK (evE (evF h) (n - (16 - h))))], [(1 : Nat) * 16 ≤ 2 ^ 47, decide (0 < h) = true, Fits .i64 (16 - h), decide (n < 16 - h) = false, (3 : Nat) * 16 ≤ 2 ^ 47, Fits .i64 (h + (16 - h)), Fits .i64 (n - (16 - h)), (4 : Nat) * 16 ≤ 2 ^ 47, decide (h + (16 - h) = 16) = true, (6 : Nat) * 16 ≤ 2 ^ 47] ++ ewT (evF h) 6 (n - (16 - h)) false) :=
  run_parts (by kernel_rfl) (by kernel_rfl) (by kernel_rfl)
theorem ew_c1 (h n : Int) : runF ge 300 [.br true, .br false, .br true, ewL, .br true] 24 [.int .i64 h, .int .i64 n] [] [10] = some (.tuple [.own 0, .int .i64 (rI (n - (16 - h)))], [some (.rows evK (evE (evF h) (n - (16 - h))))], [(1 : Nat) * 16 ≤ 2 ^ 47, decide (0 < h) = true, Fits .i64 (16 - h), decide (n < 16 - h) = false, (3 : Nat) * 16 ≤ 2 ^ 47, Fits .i64 (h + (16 - h)), Fits .i64 (n - (16 - h)), (4 : Nat) * 16 ≤ 2 ^ 47, decide (h + (16 - h) = 16) = true, (6 : Nat) * 16 ≤ 2 ^ 47] ++ ewT (evF h) 6 (n - (16 - h)) true) :=
  run_parts (by kernel_rfl) (by kernel_rfl) (by kernel_rfl)
end Go.Proofs.Ytejcjdhplpjpjaa

namespace Go.Proofs.Ytejcjdhplpjpjaa
open Go Go.Vx
/-! ### EventsWrite: the account -/
def evW (h n : Int) : List (List Int) :=
  if 0 < h then (if n < 16 - h then evE [[1, 1], [2, h], [2, n], [1, 0]] 0 else evE [[1, 1], [2, h], [2, 16 - h], [1, 1], [3, 11], [3, 12]] (n - (16 - h))) else evE [[1, 0]] n
def ewH (h n : Int) : Int :=
  if 0 < h then (if n < 16 - h then h + n else if 0 < rI (n - (16 - h)) then rI (n - (16 - h)) else 0) else if 0 < rI n then rI n else h
def F24 : SumF := fun args B => match args, B with
  | [.int .i64 h, .int .i64 n], [] => some { val := .tuple [.own 0, .int .i64 (ewH h n)], new := [.rows evK (evW h n)], C := [0 ≤ h ∧ h < 16, 0 ≤ n ∧ n ≤ 131072] }
  | _, _ => none
theorem evE_len (l : List (List Int)) (n : Int) : (evE l n).length = l.length + 3 * (n.toNat / 16) + 2 := by
  simp only [evE, List.length_append, evB_len, List.length_cons, List.length_nil]
theorem ewT_ok {l : List (List Int)} {k : Nat} {n : Int} {t : Bool} (hn : 0 ≤ n ∧ n ≤ 131072) (hk : k ≤ 6) (hl : l.length ≤ 6) (ht : decide (0 < rI n) = t) : AllC (ewT l k n t) := by
  have hL := ew_loop
  have he := evE_len l n
  simp only [ewT, allC_cons, allC_nil, and_true]
  exact ⟨hL, hn, by omega, by omega, ht⟩
theorem bI_t {p : Prop} [Decidable p] (h : p) : bI (decide p) = 1 := by rw [decide_eq_true h]; rfl
theorem bI_f {p : Prop} [Decidable p] (h : ¬ p) : bI (decide p) = 0 := by rw [decide_eq_false h]; rfl
theorem ew_fin {h n g : Int} {l : List (List Int)} {pl : List Plan} {k : Nat} {C : List Prop} (hr : runF ge 300 pl 24 [.int .i64 h, .int .i64 n] [] [k] = some (.tuple [.own 0, .int .i64 g], [some (.rows evK l)], C)) (hC : AllC C) : FnOk ge 24 [.int .i64 h, .int .i64 n] [] { val := .tuple [.own 0, .int .i64 g], new := [.rows evK l] } :=
  FnOk.run (out := { val := .tuple [.own 0, .int .i64 g], new := [.rows evK l] }) (new := [k]) ge_ok hr hC (by simp [upto]) rfl (by simp) (by simp) (fun j hj => by
    match j, hj with
    | 0, _ => rfl)
theorem acc24 : Acc ge 24 F24 := by
  intro args B out hh hC
  unfold F24 at hh
  split at hh
  · rename_i h n
    simp only [Option.some.injEq] at hh; subst hh
    simp only [allC_cons, allC_nil, and_true] at hC
    obtain ⟨h1, h2⟩ := hC
    refine FnOk.val (v := .tuple [.own 0, .int .i64 (ewH h n)]) (C := []) (rd := []) ?_ (fun _ _ _ _ h => h)
    unfold evW ewH
    by_cases c : 0 < h
    · rw [if_pos c, if_pos c]
      by_cases c2 : n < 16 - h
      · rw [if_pos c2, if_pos c2]
        have hr := ew_b h n
        have e1 : evP h n = [[1, 1], [2, h], [2, n], [1, 0]] := by rw [evP, bI_t c, bI_f (show ¬ h + n = 16 by omega)]
        have e0 : n - n = 0 := by omega
        rw [e0] at hr
        rw [e1] at hr
        refine ew_fin hr (allC_append.2 ⟨?_, ewT_ok ⟨by omega, by omega⟩ (by omega) (by simp) (by decide)⟩)
        simp only [allC_cons, allC_nil, and_true]
        exact ⟨by decide, decide_eq_true c, fits_of (by omega) (by omega), decide_eq_true c2, by decide, fits_of (by omega) (by omega), fits_of (by omega) (by omega), by decide, decide_eq_false (by omega)⟩
      · rw [if_neg c2, if_neg c2]
        have e1 : evF h = [[1, 1], [2, h], [2, 16 - h], [1, 1], [3, 11], [3, 12]] := by
          show evP h (16 - h) ++ [[3, 11], [3, 12]] = _
          rw [evP, bI_t c, bI_t (show h + (16 - h) = 16 by omega)]
          rfl
        have hc : AllC [(1 : Nat) * 16 ≤ 2 ^ 47, decide (0 < h) = true, Fits .i64 (16 - h), decide (n < 16 - h) = false, (3 : Nat) * 16 ≤ 2 ^ 47, Fits .i64 (h + (16 - h)), Fits .i64 (n - (16 - h)), (4 : Nat) * 16 ≤ 2 ^ 47, decide (h + (16 - h) = 16) = true, (6 : Nat) * 16 ≤ 2 ^ 47] := by
          simp only [allC_cons, allC_nil, and_true]
          exact ⟨by decide, decide_eq_true c, fits_of (by omega) (by omega), decide_eq_false c2, by decide, fits_of (by omega) (by omega), fits_of (by omega) (by omega), by decide, decide_eq_true (by omega), by decide⟩
        by_cases c3 : 0 < rI (n - (16 - h))
        · rw [if_pos c3]
          have hr := ew_c1 h n
          rw [e1] at hr
          exact ew_fin hr (allC_append.2 ⟨hc, ewT_ok ⟨by omega, by omega⟩ (by omega) (by simp) (decide_eq_true c3)⟩)
        · rw [if_neg c3]
          have hr := ew_c0 h n
          rw [e1] at hr
          exact ew_fin hr (allC_append.2 ⟨hc, ewT_ok ⟨by omega, by omega⟩ (by omega) (by simp) (decide_eq_false c3)⟩)
    · rw [if_neg c, if_neg c]
      have e1 : evA h = [[1, 0]] := by rw [evA, bI_f c]
      have hc : AllC [(1 : Nat) * 16 ≤ 2 ^ 47, decide (0 < h) = false] := by
        simp only [allC_cons, allC_nil, and_true]
        exact ⟨by decide, decide_eq_false c⟩
      by_cases c3 : 0 < rI n
      · rw [if_pos c3]
        have hr := ew_a1 h n
        rw [e1] at hr
        exact ew_fin hr (allC_append.2 ⟨hc, ewT_ok h2 (by omega) (by simp) (decide_eq_true c3)⟩)
      · rw [if_neg c3]
        have hr := ew_a0 h n
        rw [e1] at hr
        exact ew_fin hr (allC_append.2 ⟨hc, ewT_ok h2 (by omega) (by simp) (decide_eq_false c3)⟩)
  · simp at hh
end Go.Proofs.Ytejcjdhplpjpjaa
