/- A symbolic executor over the model's code, and that it is sound, part 4: lemmas for the proofs of this seat, no statement of their own. No conditions. -/
import Derived.Test.YthciddlfnajchaaDoorV3

set_option linter.unusedVariables false
/- Arguments that are slices of structs. -/
namespace Go.Vx
open Go.ChangeShapes Go.WideShapes Go.RowKit

/-- kinds of cells: numbers and truth values -/
inductive CK where
  | i (k : IntKind)
  | b
def kindsX (P : Program) : Nat → TypeId → Option (List CK)
  | 0, _ => none
  | d + 1, t =>
    let r : Option (List CK) := match P.underlying t with
      | some (.int k) => some [.i k]
      | some .bool => some [.b]
      | some (.array n e) => match kindsX P d e with
        | some l => some (List.replicate n l).flatten
        | none => none
      | some (.struct fs) => match tightFields P fs.toList 0, fs.all (·.name != "_") with
        | some _, true => match fs.toList.mapM fun f => kindsX P d f.type with
          | some ls => some ls.flatten
          | none => none
        | _, _ => none
      | _ => none
    match r with
    | some l => match Nat.beq l.length (P.cellsOf t) with
      | true => some l
      | false => none
    | none => none
theorem kindsX_len {P : Program} {d : Nat} {t : TypeId} {ks : List CK} (h : kindsX P d t = some ks) : ks.length = P.cellsOf t := by
  cases d with
  | zero => simp [kindsX] at h
  | succ d =>
    simp only [kindsX] at h
    split at h
    · split at h
      · rename_i hb
        simp only [Option.some.injEq] at h; subst h
        exact Nat.eq_of_beq_eq_true hb
      · simp at h
    · simp at h

def OkX : CK → Option Value → Prop
  | .i k, v => ∃ n, v = some (.int k n) ∧ Fits k n
  | .b, v => ∃ b, v = some (.bool b)
def FlatX (ks : List CK) (cs : List Value) : Prop := cs.length = ks.length ∧ ∀ (i : Nat) (k : CK), ks[i]? = some k → OkX k cs[i]?
theorem FlatX.append {ks ks' : List CK} {cs cs' : List Value} (h : FlatX ks cs) (h' : FlatX ks' cs') : FlatX (ks ++ ks') (cs ++ cs') := by
  refine ⟨by simp [h.1, h'.1], fun i k hk => ?_⟩
  by_cases hi : i < ks.length
  · rw [List.getElem?_append_left hi] at hk
    have := h.2 i k hk
    rwa [List.getElem?_append_left (by rw [h.1]; exact hi)]
  · rw [List.getElem?_append_right (by omega)] at hk
    have := h'.2 _ k hk
    rwa [List.getElem?_append_right (by rw [h.1]; omega), h.1]

section
variable {H : Type} {enc : TypeId × Value → H} {P : Program} {w : World} {base : Nat} {spare : Nat → Bool} {held : Bool}
theorem flat_chunksX {ks : List CK} {cs : List Value} {sz : Nat} (hsz : ks.length = sz) : ∀ (n : Nat), (∀ i, i < n → FlatX ks ((cs.drop (i * sz)).take sz)) → FlatX (List.replicate n ks).flatten (cs.take (n * sz))
  | 0, _ => by simp [FlatX]
  | n + 1, h => by
    have h1 := flat_chunksX hsz n fun i hi => h i (by omega)
    have h2 := h n (by omega)
    have e1 : (List.replicate (n + 1) ks).flatten = (List.replicate n ks).flatten ++ ks := by
      rw [List.replicate_succ']; simp
    have e2 : cs.take ((n + 1) * sz) = cs.take (n * sz) ++ (cs.drop (n * sz)).take sz := by
      rw [Nat.succ_mul, List.take_add]
    rw [e1, e2]; exact h1.append h2

theorem trod_kindsX : ∀ (d : Nat) (t : TypeId) (ks : List CK), kindsX P d t = some ks → ∀ (fuel : Nat) (cs : List Value) (x : DataW H × List MemPlace), DataW.trod enc P w base spare held fuel t cs = some x → FlatX ks cs
  | 0, t, ks, h, _, _, _, _ => by simp [kindsX] at h
  | d + 1, t, ks, h, 0, _, _, hx => by simp [DataW.trod] at hx
  | d + 1, t, ks, h, fuel + 1, cs, x, hx => by
    simp only [kindsX] at h
    split at h
    · rename_i l hl
      split at h
      · rename_i hlen
        have hlen := Nat.eq_of_beq_eq_true hlen
        simp only [Option.some.injEq] at h; subst h
        split at hl
        · rename_i k hu
          simp only [Option.some.injEq] at hl; subst hl
          simp only [DataW.trod, hu] at hx
          split at hx <;> rename_i e <;> first | (simp at e; done) | skip
          all_goals first | (simp at hx; done) | skip
          simp only [Option.some.injEq, TypeDesc.int.injEq] at e
          subst e
          split at hx
          · rename_i hw
            refine ⟨rfl, fun i k' hk' => ?_⟩
            cases i with
            | zero => simp at hk'; subst hk'; exact ⟨_, by rw [hw.1]; rfl, fits_of_wf hw.2⟩
            | succ i => simp at hk'
          · simp at hx
        · rename_i hu
          simp only [Option.some.injEq] at hl; subst hl
          simp only [DataW.trod, hu] at hx
          split at hx <;> rename_i e <;> first | (simp at e; done) | skip
          all_goals first | (simp at hx; done) | skip
          refine ⟨rfl, fun i k' hk' => ?_⟩
          cases i with
          | zero => simp at hk'; subst hk'; exact ⟨_, rfl⟩
          | succ i => simp at hk'
        · rename_i n e hu
          split at hl
          · rename_i l0 hl0
            simp only [Option.some.injEq] at hl; subst hl
            simp only [DataW.trod, hu] at hx
            split at hx
            · rename_i hcs
              cases hm : (List.range n).mapM (fun i => DataW.trod enc P w base spare held fuel e ((cs.drop (i * P.cellsOf e)).take (P.cellsOf e))) with
              | none => simp [hm] at hx
              | some ys =>
                obtain ⟨_, g2⟩ := mapM_got hm
                have each : ∀ i, i < n → FlatX l0 ((cs.drop (i * P.cellsOf e)).take (P.cellsOf e)) := fun i hi => by
                  obtain ⟨y, _, q⟩ := g2 i i (by simp [hi])
                  exact trod_kindsX d e l0 hl0 fuel _ y q
                by_cases hn : n = 0
                · subst hn
                  simp only [List.replicate_zero, List.flatten_nil, List.length_nil] at hlen ⊢
                  exact ⟨by rw [hcs, ← hlen]; rfl, by simp⟩
                · have hsz := kindsX_len hl0
                  have := flat_chunksX hsz n each
                  have e3 : cs.take (n * P.cellsOf e) = cs := List.take_of_length_le (by rw [hcs, ← hlen, ← hsz]; simp)
                  rwa [e3] at this
            · simp at hx
          · simp at hl
        · rename_i fs hu
          split at hl
          · rename_i n0 hnf ht
            split at hl
            · rename_i ls hls
              simp only [Option.some.injEq] at hl; subst hl
              simp only [DataW.trod, hu] at hx
              split at hx
              · rename_i hcs
                cases hm : fs.toList.mapM (fun f => DataW.trod enc P w base spare held fuel f.type ((cs.drop f.offset).take (P.cellsOf f.type))) with
                | none => simp [hm] at hx
                | some ys =>
                  obtain ⟨_, g2⟩ := mapM_got hm
                  obtain ⟨k1, k2⟩ := mapM_got hls
                  -- field by field
                  have key : ∀ (fl : List Field) (ll : List (List CK)) (n : Nat), tightFields P fl n = some n0 → ll.length = fl.length →
                      (∀ (i : Nat) (f : Field), fl[i]? = some f → ∃ l, ll[i]? = some l ∧ kindsX P d f.type = some l ∧ FlatX l ((cs.drop f.offset).take (P.cellsOf f.type))) →
                      FlatX ll.flatten ((cs.drop n).take ll.flatten.length) := by
                    intro fl
                    induction fl with
                    | nil =>
                      intro ll n _ hl _
                      have : ll = [] := by simpa using hl
                      subst this; simp [FlatX]
                    | cons f fl ih =>
                      intro ll n htf hl hf
                      cases ll with
                      | nil => simp at hl
                      | cons l ll =>
                        simp only [tightFields] at htf
                        split at htf
                        · rename_i hoff
                          obtain ⟨l', h1, h2, h3⟩ := hf 0 f (by simp)
                          simp at h1; subst h1
                          rw [hoff] at h3
                          have hlen2 := kindsX_len h2
                          have hr := ih ll (n + P.cellsOf f.type) htf (by simpa using hl) fun i f' hf' => by
                            obtain ⟨l'', q1, q2⟩ := hf (i + 1) f' (by simpa using hf')
                            exact ⟨l'', by simpa using q1, q2⟩
                          have e : (cs.drop n).take (l :: ll).flatten.length = (cs.drop n).take (P.cellsOf f.type) ++ (cs.drop (n + P.cellsOf f.type)).take ll.flatten.length := by
                            rw [List.flatten_cons, List.length_append, hlen2, List.take_add, List.drop_drop]
                          rw [e, List.flatten_cons]
                          exact h3.append hr
                        · simp at htf
                  have := key fs.toList ls 0 hnf k1 fun i f hf => by
                    obtain ⟨y, _, q⟩ := g2 i f hf
                    obtain ⟨l, q1, q2⟩ := k2 i f hf
                    exact ⟨l, q1, q2, trod_kindsX d f.type l q2 fuel _ y q⟩
                  rw [List.drop_zero, List.take_of_length_le (by rw [hcs, hlen]; exact Nat.le_refl _)] at this
                  exact this
              · simp at hx
            · simp at hl
          · simp at hl
        · simp at hl
      · simp at h
    · simp at h


/-- cells of these kinds -/
def svX : List CK → (Nat → Int) → Nat → List SV
  | [], _, _ => []
  | .i k :: ks, a, i => .int k (a i) :: svX ks a (i + 1)
  | .b :: ks, a, i => .sbool (decide (a i = 1)) :: svX ks a (i + 1)
def numX (cs : List Value) (i : Nat) : Int := match cs[i]? with | some (.int _ n) => n | some (.bool true) => 1 | _ => 0
theorem denX {w0 : World} {O : Own} {ρ : Rho} {a : Nat → Int} : ∀ {ks : List CK} {cs : List Value} {i : Nat}, cs.length = ks.length → (∀ (j : Nat) (k : CK), ks[j]? = some k → OkX k cs[j]?) → (∀ j, a (i + j) = numX cs j) → DenL w0 O ρ (svX ks a i) cs
  | [], cs, i, hl, _, _ => by simp [svX, DenL]; simpa using hl
  | k :: ks, [], i, hl, _, _ => by simp at hl
  | k :: ks, c :: cs, i, hl, h, ha => by
    have h0 := h 0 k (by simp)
    have a0 : a i = numX (c :: cs) 0 := ha 0
    have hr := denX (w0 := w0) (O := O) (ρ := ρ) (a := a) (ks := ks) (cs := cs) (i := i + 1) (by simpa using hl) (fun j k' hj => by simpa using h (j + 1) k' (by simpa using hj)) (fun j => by
      rw [show i + 1 + j = i + (j + 1) by omega, ha (j + 1)]; simp [numX])
    cases k with
    | i k =>
      obtain ⟨n, h1, h2⟩ := h0
      simp at h1; subst h1
      have e : a i = n := by rw [a0]; rfl
      simp only [svX, DenL]
      exact ⟨_, cs, rfl, by simp only [DenC]; rw [e]; exact ⟨rfl, h2⟩, rfl, hr⟩
    | b =>
      obtain ⟨b, h1⟩ := h0
      simp at h1; subst h1
      have e : decide (a i = 1) = b := by rw [a0]; cases b <;> rfl
      simp only [svX, DenL]
      exact ⟨_, cs, rfl, by simp only [DenC]; rw [e], rfl, hr⟩

theorem cells_mem {W : World} {a : Addr} {n : Nat} {cs : List Value} {base : Nat} (h : W.cells? base a n = some cs) : cs.length = n ∧ ∀ j v, cs[j]? = some v → W.cell? (a.add j) = some v := by
  unfold World.cells? at h
  split at h
  · obtain ⟨g1, g2⟩ := mapM_got h
    refine ⟨by simpa using g1, fun j v hj => ?_⟩
    have hjn : j < n := by have := (List.getElem?_eq_some_iff.1 hj).1; simp at g1; omega
    obtain ⟨y, q1, q2⟩ := g2 j j (by simp [hjn])
    rw [hj] at q1; simp at q1; subst q1; exact q2
  · simp at h

theorem spot_none {W : World} {a : Addr} {v : Value} (h : W.cell? (a.add 0) = some v) : a.spot = none := by
  unfold World.cell? at h
  cases hs : a.spot with
  | none => rfl
  | some s =>
    have hsa : (a.add 0).spot.isSome = true := by unfold Addr.add; simp [hs]
    split at h
    · rw [if_pos hsa] at h; simp at h
    · simp at h

/-- a slice of structs -/
theorem open_rows {W : World} {t e : TypeId} {ks : List CK} {v : Value} {d : DataW H} {ps : List MemPlace} {r : Reach} {b0 : Nat} (ht : P.underlying t = some (.slice e)) (hk : kindsX P 8 e = some ks) (hpos : 0 < ks.length)
    (hval : Value.okWide P W r b0 t v) (hd : DataW.Trod enc P W base spare held t v d ps) (ρ : Rho) :
    ∃ (n : Nat) (a : Nat → Nat → Int), n ≤ maxLen ∧ DenV W (O0 W) ρ (.ro ks.length n fun i => .agg (svX ks (a i) 0)) v := by
  obtain ⟨fuel, hf⟩ := hd
  have hv : isAggV v = false := by
    unfold Value.okWide at hval
    rw [ht] at hval
    simp only at hval
    unfold Cell.okWide at hval
    rw [ht] at hval
    simp only at hval
    cases v <;> simp [isAggV]
    all_goals (simp [Cell.ok, ht] at hval)
  rw [not_agg_cells hv] at hf
  rcases DataW.trod_slice ht hf with h0 | ⟨a, len, cap, elems, rest, n, _, h1, _, hb, hl, hm, hlen, hel, hsp, hns⟩
  · have h1 := h0.1
    simp at h1; subst h1
    refine ⟨0, fun _ _ => 0, Nat.zero_le _, den_cell rfl rfl ?_⟩
    simp only [DenC]
    exact ⟨none, 0, rfl, Nat.le_refl _, by simp⟩
  · simp at h1; subst h1
    have hsz := kindsX_len hk
    have each : ∀ i, i < len → ∃ cs, W.cells? base (a.add (i * P.cellsOf e)) (P.cellsOf e) = some cs ∧ FlatX ks cs := fun i hi => by
      have h2 := hel i hi
      rw [List.getElem?_eq_getElem (by omega)] at h2
      obtain ⟨cs, q1, q2⟩ := Option.bind_eq_some_iff.1 h2
      exact ⟨cs, q1, trod_kindsX 8 e ks hk n cs _ q2⟩
    refine ⟨len, fun i => numX ((W.cells? base (a.add (i * P.cellsOf e)) (P.cellsOf e)).getD []), by omega, den_cell rfl rfl ?_⟩
    simp only [DenC]
    refine ⟨some a, cap, rfl, hl, fun hpos2 => ?_⟩
    have hspot : a.spot = none := by
      obtain ⟨cs, q1, q2⟩ := each 0 hpos2
      obtain ⟨g1, g2⟩ := cells_mem q1
      have hc0 : 0 < cs.length := by rw [g1, ← hsz]; exact hpos
      have := g2 0 _ (List.getElem?_eq_getElem hc0)
      rw [Nat.zero_mul] at this
      have e0 : a.add 0 = a := by simp [Addr.add]
      rw [e0] at this
      exact spot_none this
    obtain ⟨b, o, sp⟩ := a
    simp only at hspot; subst hspot
    refine ⟨b, o, rfl, fun i hi => ?_⟩
    obtain ⟨cs, q1, q2⟩ := each i hi
    obtain ⟨g1, g2⟩ := cells_mem q1
    refine ⟨cs, by rw [g1, hsz], fun j u hj => ?_, ?_⟩
    · have := g2 j u hj
      have e1 : (Addr.add ⟨b, o, none⟩ (i * P.cellsOf e)) = adr b (o + i * P.cellsOf e) := adr_add b o _
      rw [e1, adr_add] at this
      show W.cell? (adr b (o + i * ks.length + j)) = some u
      rw [hsz]; exact this
    · refine denX q2.1 q2.2 fun j => ?_
      rw [Nat.zero_add]
      have : (W.cells? base (Addr.add ⟨b, o, none⟩ (i * P.cellsOf e)) (P.cellsOf e)).getD [] = cs := by rw [q1]; rfl
      show numX ((W.cells? base (Addr.add ⟨b, o, none⟩ (i * P.cellsOf e)) (P.cellsOf e)).getD []) j = numX cs j
      rw [this]
end
end Go.Vx

/- A nil slice as a slice of its own; logs of no events yet. -/
namespace Go.Vx
open Go

def emptyB : Body → Prop
  | .ints _ l => l = []
  | .rows _ l => l = []
  | .lists _ _ l => l = []
  | _ => False

section
variable {w0 : World} {O : Own} {ρ : Rho} {w : World} {H : Nat → Option Body} {Φ : Nat → Foot}

theorem RelH.adopt (x : RelH w0 O ρ H w Φ) {j : Nat} (hj : ρ j = none) {bd : Body} (hb : emptyB bd) : RelH w0 O (upR ρ j (.sl none 0 0)) (upH H j (some bd)) w (upF Φ j fun _ _ => False) := by
  refine (x.mono (Ext.up hj (.sl none 0 0))).put (hd := .sl none 0 0) (by simp [upR]) ?_ (fun i b o _ _ _ h => h.elim) (fun b o h => h.elim)
  cases bd with
  | cells cs => exact hb.elim
  | log l => exact hb.elim
  | grow ks l => exact hb.elim
  | ints k l => obtain rfl : l = [] := hb; exact ⟨rfl, Nat.le_refl _, trivial, rfl, fun _ _ h => h⟩
  | lists q k l => obtain rfl : l = [] := hb; exact ⟨rfl, Nat.le_refl _, trivial, rfl, fun _ _ h => h⟩
  | rows ks l => obtain rfl : l = [] := hb; exact ⟨rfl, Nat.le_refl _, by simp [bodyOk], rfl, fun _ _ h => h⟩

theorem den_nil {j : Nat} {v : Value} (h : DenV w0 O ρ (.raw (.slice none 0 0)) v) : DenV w0 O (upR ρ j (.sl none 0 0)) (.own j) v := by
  have h := (denV_cell h (by simp) rfl).1
  simp only [DenC] at h
  obtain ⟨h, _⟩ := h
  simp at h; subst h
  refine den_cell rfl rfl ?_
  simp only [DenC]
  exact ⟨none, 0, 0, by simp [upR], rfl⟩

theorem BH_append (B : List Body) (b : Body) (j : Nat) : BH (B ++ [b]) j = upH (BH B) B.length (some b) j := by
  unfold BH upH
  by_cases h : j = B.length
  · subst h; simp
  · rw [if_neg h]
    rcases Nat.lt_or_ge j B.length with h1 | h1
    · rw [List.getElem?_append_left h1]
    · show (B ++ [b])[j]? = B[j]?
      rw [List.getElem?_eq_none (by simp; omega), List.getElem?_eq_none h1]

theorem SimC.adopt {P : Program} {nT m : Nat} {c : Code} {S S' S1 : List (Nat × SV)} {B B1 : List Body} {e : Ex} {bd : Body} (t : Nat) (hb : emptyB bd) (ht : tget (mkT S) t = .raw (.slice none 0 0)) (hS : ∀ t', tget (mkT S') t' = if t' = t then .own B.length else tget (mkT S) t')
    (h : SimC P w0 O nT c S' (B ++ [bd]) e S1 B1 m) : SimC P w0 O nT c S B e S1 B1 m := by
  intro ρ Φ a w r hr
  have hn := hr B.length (Nat.le_refl _)
  have x := relH_funext (fun j => (BH_append B bd j).symm) (r.heap.adopt hn hb)
  have r2 : RelA nT w0 O (upR ρ B.length (.sl none 0 0)) (tget (mkT S')) (BH (B ++ [bd])) (upF Φ B.length fun _ _ => False) a w := by
    refine ⟨r.size, r.defers, fun t' => ?_, x⟩
    rw [hS]
    split
    · rename_i e; subst e
      have := r.tmps t'
      rw [ht] at this
      exact den_nil this
    · exact DenV.mono (Ext.up hn _) (r.tmps t')
  refine wpL_mono (h _ _ a w r2 fun j hj => by
    simp at hj
    simp [upR, show j ≠ B.length by omega]; exact hr j (by omega)) fun e' a' w' ⟨he, ρ', Φ', q1, q2, q3⟩ => ⟨he, ρ', Φ', fun j hd hj hh => q1 j hd hj (Ext.up hn _ j hd hh), q2, q3⟩

def setS (S : List (Nat × SV)) (t : Nat) (v : SV) : List (Nat × SV) := S.map fun y => if y.1 = t then (y.1, v) else y
theorem tget_setS {t : Nat} {v : SV} : ∀ {S : List (Nat × SV)}, (∀ y ∈ S, y.1 < 65535) → ∀ t', tget (mkT (setS S t v)) t' = if t' = t then (if t ∈ S.map (·.1) then v else .any) else tget (mkT S) t'
  | [], _, t' => by simp [setS, mkT, tget, Tr.get_lf]
  | y :: S, h, t' => by
    have ih := tget_setS (t := t) (v := v) (S := S) (fun z hz => h z (by simp [hz])) t'
    have e1 : tget (mkT (y :: S)) t' = if t' = y.1 then y.2 else tget (mkT S) t' := Tr.get_set _ _ _ _ _ (h y (by simp))
    have e2 : tget (mkT (setS (y :: S) t v)) t' = if t' = y.1 then (if y.1 = t then v else y.2) else tget (mkT (setS S t v)) t' := by
      have : setS (y :: S) t v = (if y.1 = t then (y.1, v) else y) :: setS S t v := rfl
      rw [this]
      by_cases hy : y.1 = t
      · rw [if_pos hy, if_pos hy]; exact Tr.get_set _ _ _ _ _ (h y (by simp))
      · rw [if_neg hy, if_neg hy]; exact Tr.get_set _ _ _ _ _ (h y (by simp))
    rw [e1, e2, ih]
    by_cases a : t' = y.1
    · subst a
      by_cases b : y.1 = t
      · subst b; simp
      · simp [b]
    · by_cases b : t' = t
      · subst b
        rw [if_neg a, if_pos rfl, if_pos rfl]
        have : t' ∈ List.map (fun x => x.fst) (y :: S) ↔ t' ∈ List.map (fun x => x.fst) S := by rw [List.map_cons, List.mem_cons]; exact ⟨fun h => h.resolve_left a, .inr⟩
        simp only [this]
      · simp [a, b]
theorem SimC.adoptS {P : Program} {nT m : Nat} {c : Code} {S S1 : List (Nat × SV)} {B B1 : List Body} {e : Ex} (bd : Body) (t : Nat) (hb : emptyB bd) (ht : tget (mkT S) t = .raw (.slice none 0 0)) (hk : ∀ y ∈ S, y.1 < 65535) (hm : t ∈ S.map (·.1))
    (h : SimC P w0 O nT c (setS S t (.own B.length)) (B ++ [bd]) e S1 B1 m) : SimC P w0 O nT c S B e S1 B1 m :=
  SimC.adopt t hb ht (fun t' => by rw [tget_setS hk, if_pos hm]) h

/-- nothing, as a slice of its own -/
theorem FnOk.adopt {g : Ctx} {f : FuncId} {args : List SV} {B : List Body} {upd : List (Nat × Option Body)} {C : List Prop} {bd : Body} (hb : emptyB bd) (hu : ∀ y ∈ upd, y.1 < B.length) (h : FnOk g f args B { val := .raw (.slice none 0 0), upd }) : FnOk g f args B { val := .own B.length, upd, new := [bd], C } := by
  intro w0 O hG ρ Φ vs w d x hr
  refine (h w0 O hG ρ Φ vs w d x hr).mono fun u w' ⟨ρ', Φ', q1, q2, q3, q4⟩ => ?_
  have hn := q3 B.length (by simp)
  refine ⟨upR ρ' B.length (.sl none 0 0), _, den_nil q1, fun j hd hh => Ext.up hn _ j hd (q2 j hd hh), fun j hj => ?_, relH_funext (fun j => ?_) (q4.adopt hn hb)⟩
  · simp at hj; simp [upR, show j ≠ B.length by omega]; exact q3 j (by simp; omega)
  · unfold afterH newH
    simp only [newAll]

/-- a log of cells that hold nothing yet -/
theorem relH_log0 {B : List Body} {k : Nat} {n : Int} {l : Bool} (x : RelH w0 O ρ (BH B) w Φ) (hk : B[k]? = some (.cells [bif l then .lit .i64 0 else .int .i64 0, .raw (.slice none 0 0)])) : RelH w0 O ρ (BH (B.set k (.log []))) w Φ := by
  obtain ⟨hd, h1, h2⟩ := x.holds k _ hk
  cases hd with
  | sl a b c => exact h2.elim
  | «at» b base =>
    obtain ⟨q1, q2, q3⟩ := h2
    obtain ⟨v0, a1, a2, _, a4⟩ := q3 0 (bif l then .lit .i64 0 else .int .i64 0) (by simp [cellsOf])
    obtain ⟨v1, b1, b2, _, b4⟩ := q3 1 (.raw (.slice none 0 0)) (by simp [cellsOf])
    have e0 : v0 = .int .i64 0 ∧ Fits .i64 0 := by
      cases l <;> (simp only [cond_true, cond_false, DenC] at a2; obtain ⟨e, f⟩ := a2; simp at e; exact ⟨e, f⟩)
    simp only [DenC] at b2
    obtain ⟨e1, _⟩ := b2
    simp at e1; subst e1
    obtain ⟨rfl, f0⟩ := e0
    have hl : (cellsOf (.cells [bif l then SV.lit .i64 0 else .int .i64 0, .raw (.slice none 0 0)])).length = 2 := rfl
    rw [hl] at q2
    have hin : BH B k ≠ none := by show B[k]? ≠ none; rw [hk]; simp
    have hF : ∀ j, j < 2 → Φ k b (base + j) := fun j hj => (q2 b (base + j)).2 ⟨rfl, by omega, by omega⟩
    have y := x.put (id := k) (bd := .log []) (hd := .at b base) (F := Φ k) h1 ⟨none, 0, 0, fun _ _ => False, a1, a4, b1, b4, f0, ⟨rfl, Nat.le_refl _, by simp [bodyOk], rfl, fun _ _ h => h⟩, fun o q => q.elim, fun b' o => by
      rw [q2 b' o]
      constructor
      · rintro ⟨rfl, h, h'⟩; left; exact ⟨rfl, by omega⟩
      · rintro (⟨rfl, h⟩ | h)
        · exact ⟨rfl, by omega, by omega⟩
        · exact h.elim⟩ (fun i b' o hi hn g1 g2 => x.disj i k b' o hi hn hin g1 g2) (fun b' o q => x.mine k b' o hin q)
    rw [upF_self] at y
    refine relH_funext (fun j => ?_) y
    unfold upH BH
    by_cases e : j = k
    · subst e
      have : j < B.length := (List.getElem?_eq_some_iff.1 hk).1
      simp [this]
    · rw [if_neg e, List.getElem?_set_ne (Ne.symm e)]

theorem SimC.log0 {P : Program} {nT m : Nat} {c : Code} {S S1 : List (Nat × SV)} {B B1 : List Body} {e : Ex} (k : Nat) {l : Bool} (hk : B[k]? = some (.cells [bif l then .lit .i64 0 else .int .i64 0, .raw (.slice none 0 0)]))
    (h : SimC P w0 O nT c S (B.set k (.log [])) e S1 B1 m) : SimC P w0 O nT c S B e S1 B1 m :=
  fun ρ Φ a w r hr => h ρ Φ a w ⟨r.size, r.defers, r.tmps, relH_log0 (n := 0) r.heap hk⟩ (by simpa using hr)
end

/-! ### more summaries -/
def lookS : List (Nat × SumF) → Nat → Option SumF
  | [], _ => none
  | x :: r, f => match Nat.beq x.1 f with
    | true => some x.2
    | false => lookS r f
noncomputable def Ctx.add (g : Ctx) (l : List (Nat × SumF)) : Ctx := { P := g.P, sum := fun f => match lookS l f with | some F => some (mkSumN F) | none => g.sum f, glob := g.glob }
theorem lookS_mem : ∀ {l : List (Nat × SumF)} {f : Nat} {F : SumF}, lookS l f = some F → (f, F) ∈ l
  | [], f, F, h => by simp [lookS] at h
  | x :: r, f, F, h => by
    simp only [lookS] at h
    split at h
    · rename_i hb
      have := Nat.eq_of_beq_eq_true hb
      simp only [Option.some.injEq] at h
      subst h; subst this; simp
    · exact .tail _ (lookS_mem h)
theorem CtxU.add {g : Ctx} {l : List (Nat × SumF)} (hU : CtxU g) (hm : g.P.follows .mixedOrders = true)
    (hn : ∀ (f : FuncId) (fn : Func) (c : Code), g.P.funcs[f]? = some fn → fn.body = some c → (fn.name == "runtime.NumGoroutine") = false)
    (h : ∀ x ∈ l, Acc g x.1 x.2) : CtxU (g.add l) := by
  refine CtxU.mk (fun f σ hs => ?_) hm hn
  simp only [Ctx.add] at hs
  split at hs
  · rename_i F hF
    simp only [Option.some.injEq] at hs; subst hs
    exact Acc.lift (g := g) rfl rfl (h _ (lookS_mem hF))
  · exact fun w0 O hG => (hU w0 O hG).sums f σ hs
/-- what a function of no summaries but these does -/
theorem Acc.of {g g' : Ctx} (hP : g.P = g'.P) (hg : g.glob = g'.glob) {f : FuncId} {F : SumF} (h : Acc g f F) : Acc g' f F := by
  obtain ⟨P, s, gl⟩ := g
  obtain ⟨P', s', gl'⟩ := g'
  simp only at hP hg; subst hP; subst hg
  exact h
theorem FnOk.of {g g' : Ctx} (hP : g.P = g'.P) (hg : g.glob = g'.glob) {f : FuncId} {args : List SV} {B : List Body} {out : OpOut} (h : FnOk g f args B out) : FnOk g' f args B out := by
  obtain ⟨P, s, gl⟩ := g
  obtain ⟨P', s', gl'⟩ := g'
  simp only at hP hg; subst hP; subst hg
  exact h
end Go.Vx

/- Rows of numbers, looked at through slices. -/
namespace Go.Vx
open Go

/-- a part of a list -/
def sub (l : List (List Int)) (o n : Nat) : List (List Int) := (l.drop o).take n
theorem sub_all (l : List (List Int)) : sub l 0 l.length = l := by simp [sub]
theorem sub_length {l : List (List Int)} {o n : Nat} (h : o + n ≤ l.length) : (sub l o n).length = n := by simp [sub]; omega
theorem sub_get {l : List (List Int)} {o n i : Nat} (hi : i < n) : (sub l o n)[i]? = l[o + i]? := by simp [sub, List.getElem?_take, hi, List.getElem?_drop]
theorem sub_eq {la lb : List (List Int)} {oa ob n : Nat} (ha : oa + n ≤ la.length) (hb : ob + n ≤ lb.length) : sub la oa n = sub lb ob n ↔ ∀ i, i < n → la.getD (oa + i) [] = lb.getD (ob + i) [] := by
  constructor
  · intro h i hi
    have h1 := congrArg (·[i]?) h
    simp only [sub_get hi] at h1
    rw [List.getD_eq_getElem?_getD, List.getD_eq_getElem?_getD, h1]
  · intro h
    apply List.ext_getElem?
    intro i
    by_cases hi : i < n
    · rw [sub_get hi, sub_get hi]
      have := h i hi
      rw [List.getD_eq_getElem?_getD, List.getD_eq_getElem?_getD, List.getElem?_eq_getElem (show oa + i < la.length by omega), List.getElem?_eq_getElem (show ob + i < lb.length by omega)] at this
      simp only [Option.getD_some] at this
      rw [List.getElem?_eq_getElem (show oa + i < la.length by omega), List.getElem?_eq_getElem (show ob + i < lb.length by omega), this]
    · rw [List.getElem?_eq_none (by rw [sub_length ha]; omega), List.getElem?_eq_none (by rw [sub_length hb]; omega)]
theorem row2 {l : List (List Int)} (h : ∀ r ∈ l, r.length = 2) {i : Nat} (hi : i < l.length) : [(l.getD i []).getD 0 0, (l.getD i []).getD 1 0] = l.getD i [] := by
  have := h l[i] (List.getElem_mem hi)
  have e : l.getD i [] = l[i] := by simp [hi]
  rw [e]
  match hl : l[i], this with
  | [a, b], _ => simp
theorem row3 {l : List (List Int)} (h : ∀ r ∈ l, r.length = 3) {i : Nat} (hi : i < l.length) : [(l.getD i []).getD 0 0, (l.getD i []).getD 1 0, (l.getD i []).getD 2 0] = l.getD i [] := by
  have := h l[i] (List.getElem_mem hi)
  have e : l.getD i [] = l[i] := by simp [hi]
  rw [e]
  match hl : l[i], this with
  | [a, b, c], _ => simp

/-- a slice of chunk id, as a part of its rows -/
def vw (id sz : Nat) (l : List (List Int)) : SV → Option (Nat × Nat)
  | .own j => match Nat.beq j id with
    | true => some (0, l.length)
    | false => none
  | .sl j _ off s 0 len _ => match (Nat.beq j id).and (Nat.beq s sz) with
    | true => some (off, len)
    | false => none
  | _ => none

section
variable {w0 : World} {O : Own} {ρ : Rho} {w : World} {H : Nat → Option Body} {Φ : Nat → Foot}
theorem vw_den {id sz : Nat} {ks : List IntKind} {l : List (List Int)} {x : SV} {o n : Nat} (h : vw id sz l x = some (o, n)) (hks : ks.length = sz) (r : RelH w0 O ρ H w Φ) (hb : H id = some (.rows ks l)) {v : Value} (d : DenV w0 O ρ x v) : DenV w0 O ρ (.sl id 0 o sz 0 n false) v := by
  unfold vw at h
  split at h
  · rename_i j
    split at h
    · rename_i hj
      have hj := Nat.eq_of_beq_eq_true hj
      subst hj
      simp only [Option.some.injEq, Prod.mk.injEq] at h
      obtain ⟨rfl, rfl⟩ := h
      obtain ⟨d, _⟩ := denV_cell (c := .own j) d (by simp) rfl
      simp only [DenC] at d
      obtain ⟨loc, len, cap, e1, e2⟩ := d
      simp at e2; subst e2
      obtain ⟨hd, f1, f2⟩ := r.holds j _ hb
      rw [e1] at f1; cases f1
      obtain ⟨g1, g2, g3, g4⟩ := f2
      have g1 : len = l.length := g1
      subst g1
      refine den_cell rfl rfl ?_
      simp only [DenC]
      refine ⟨_, cap, rfl, g2, ⟨by simp, ?_⟩, fun hpos => ?_⟩
      · cases loc with
        | none => exact .inl rfl
        | some y => exact .inr ⟨y.1, y.2, rfl⟩
      · cases loc with
        | none => have := g4.1; omega
        | some y => exact ⟨_, y.1, y.2, e1, rfl, by simp⟩
    · simp at h
  · rename_i j m off s len kn
    split at h
    · rename_i hj
      simp only [Bool.and_eq_true] at hj
      have hj1 := Nat.eq_of_beq_eq_true hj.1
      have hj2 := Nat.eq_of_beq_eq_true hj.2
      subst hj1; subst hj2
      simp only [Option.some.injEq, Prod.mk.injEq] at h
      obtain ⟨rfl, rfl⟩ := h
      obtain ⟨d, _⟩ := denV_cell (c := .sl j m off s 0 len kn) d (by simp) rfl
      simp only [DenC] at d
      obtain ⟨a, cap, e1, e2, ⟨_, e3⟩, e4⟩ := d
      simp at e1; subst e1
      refine den_cell rfl rfl ?_
      simp only [DenC]
      exact ⟨a, cap, rfl, e2, ⟨by simp, e3⟩, e4⟩
    · simp at h
  · simp at h
end

/-- arguments that say less, in that memory -/
theorem FnOk.argsH {g : Ctx} {f : FuncId} {args args' : List SV} {B : List Body} {out : OpOut} (h : FnOk g f args' B out) (hd : ∀ w0 O ρ Φ w vs, RelH w0 O ρ (BH B) w Φ → DenT w0 O ρ args vs → DenT w0 O ρ args' vs) : FnOk g f args B out :=
  fun w0 O hG ρ Φ vs w d x hr => h w0 O hG ρ Φ vs w (hd _ _ _ _ _ _ x d) x hr

theorem FnOk.toSb {g : Ctx} {f : FuncId} {args : List SV} {B : List Body} {upd : List (Nat × Option Body)} {new : List Body} {b b' : Bool} {C : List Prop} (h : FnOk g f args B { val := .bool b, upd, new }) (e : b = b') : FnOk g f args B { val := .sbool b', upd, new, C } := by
  refine FnOk.val h fun _ _ _ _ d => ?_
  subst e
  have := denV_bool (l := true) (b := b) d (by cases b <;> rfl)
  exact den_cell rfl (by rw [this]; rfl) (by rw [this]; simp [DenC])
theorem FnOk.ofSb {g : Ctx} {f : FuncId} {args : List SV} {B : List Body} {upd : List (Nat × Option Body)} {new : List Body} {b b' : Bool} {C : List Prop} (h : FnOk g f args B { val := .sbool b, upd, new }) (e : b = b') : FnOk g f args B { val := .bool b', upd, new, C } := by
  refine FnOk.val h fun _ _ _ _ d => ?_
  subst e
  have := denV_bool (l := false) (b := b) d rfl
  exact den_cell rfl (by rw [this]; rfl) (by rw [this]; simp [DenC])
/-- the first i below n that isn't so -/
theorem first_not {p : Nat → Prop} [DecidablePred p] : ∀ n, (∀ i, i < n → p i) ∨ ∃ k, k < n ∧ (∀ i, i < k → p i) ∧ ¬ p k
  | 0 => .inl fun i h => absurd h (by omega)
  | n + 1 => by
    rcases first_not (p := p) n with h | ⟨k, hk, h1, h2⟩
    · by_cases hp : p n
      · left; intro i hi
        rcases Nat.lt_succ_iff_lt_or_eq.1 hi with e | e
        · exact h i e
        · subst e; exact hp
      · exact .inr ⟨n, by omega, h, hp⟩
    · exact .inr ⟨k, by omega, h1, h2⟩
theorem fits_of {n : Int} (h1 : -9223372036854775808 ≤ n) (h2 : n ≤ 9223372036854775807) : Fits .i64 n := ⟨h1, h2⟩
theorem fits_small {n : Nat} (h : n ≤ 140737488355328) : Fits .i64 (n : Int) := by
  simp [Fits, IntKind.min, IntKind.max, IntKind.signed, IntKind.bits]; omega

/-- are two parts of rows one? -/
def scanF (K : List IntKind) : SumF := fun args B => match args, B with
  | [x, y], [.rows K1 la, .rows K2 lb] => match sameKs K1 K, sameKs K2 K, vw 0 K.length la x, vw 1 K.length lb y with
    | true, true, some (oa, na), some (ob, nb) => some { val := .sbool (decide (sub la oa na = sub lb ob nb)), C := [oa + na ≤ la.length, ob + nb ≤ lb.length, la.length ≤ 140737488355328, lb.length ≤ 140737488355328] }
    | _, _, _, _ => none
  | _, _ => none
theorem scan_acc {g : Ctx} {f : FuncId} {K : List IntKind} (h : ∀ la lb oa ob na nb, oa + na ≤ la.length → ob + nb ≤ lb.length → la.length ≤ 140737488355328 → lb.length ≤ 140737488355328 → (∀ r ∈ la, r.length = K.length) → (∀ r ∈ lb, r.length = K.length) →
    FnOk g f [.sl 0 0 oa K.length 0 na false, .sl 1 0 ob K.length 0 nb false] [.rows K la, .rows K lb] { val := .sbool (decide (sub la oa na = sub lb ob nb)) }) : Acc g f (scanF K) := by
  intro args B out ho hC
  unfold scanF at ho
  split at ho
  · rename_i x y K1 la K2 lb
    split at ho
    · rename_i oa na ob nb h1 h2 h3 h4
      simp only [Option.some.injEq] at ho; subst ho
      obtain rfl := sameKs_eq h1
      obtain rfl := sameKs_eq h2
      simp only [allC_cons, allC_nil, and_true] at hC
      refine FnOk.factsB fun hb => ?_
      have ha := hb (.rows _ la) (.head _)
      have hb := hb (.rows _ lb) (.tail _ (.head _))
      refine FnOk.argsH (h la lb oa ob na nb hC.1 hC.2.1 hC.2.2.1 hC.2.2.2 (fun r hr => (ha r hr).1) (fun r hr => (hb r hr).1)) fun w0 O ρ Φ w vs x d => ?_
      simp only [DenT] at d ⊢
      obtain ⟨v1, r1, rfl, d1, v2, r2, rfl, d2, rfl⟩ := d
      exact ⟨_, _, rfl, vw_den h3 rfl x rfl d1, _, _, rfl, vw_den h4 rfl x rfl d2, rfl⟩
    · simp at ho
  · simp at ho
end Go.Vx

/- Logs as cells and rows, among other chunks. -/
namespace Go.Vx
open Go

theorem upto_len (n : Nat) : (upto n).length = n := upto_length n
theorem fits_max {n : Nat} (h : n ≤ maxLen) : Fits .i64 (n : Int) := by
  have : maxLen = 9223372036854775807 := rfl
  exact fits_of (by omega) (by omega)
theorem DenImp.lit {k : IntKind} {n : Int} : DenImp (.int k n) (.lit k n) := fun w0 O ρ v d => by
  obtain ⟨d, h⟩ := denV_cell d (by simp) rfl
  exact den_cell rfl h (by simpa [DenC] using d)
theorem SimC.weakenI {P : Program} {w0 : World} {O : Own} {nT m : Nat} {c : Code} {S S1 S1' : List (Nat × SV)} {B B1 : List Body} {e : Ex} (h1 : SimC P w0 O nT c S B e S1 B1 m) (h : ∀ y ∈ S1', y.1 < 65535 ∧ DenImp (tget (mkT S1) y.1) y.2) : SimC P w0 O nT c S B e S1' B1 m :=
  fun ρ Φ a w r hr => wpL_mono (h1 ρ Φ a w r hr) fun _ _ _ ⟨he, ρ', Φ', q1, q2, q3⟩ => ⟨he, ρ', Φ', q1, q2, q3.size, q3.defers, fun t => by
    rcases tget_mkT S1' t fun y hy => (h y hy).1 with e | ⟨y, g1, g2, g3⟩
    · rw [e]; exact .inl rfl
    · rw [g3]
      have := q3.tmps t
      rw [← g2] at this ⊢
      exact (h y g1).2 _ _ _ _ this, q3.heap⟩
def skipIds (n m : Nat) : List Nat := upto n ++ (upto m).map (· + (n + 1))
theorem skipIds_lo {n m j : Nat} (h : j < n) : (skipIds n m)[j]? = some j := by
  unfold skipIds
  rw [List.getElem?_append_left (by rw [upto_len]; exact h), upto_get, if_pos h]
theorem skipIds_hi {n m j : Nat} (h : n ≤ j) (h2 : j < n + m) : (skipIds n m)[j]? = some (j + 1) := by
  unfold skipIds
  rw [List.getElem?_append_right (by rw [upto_len]; exact h), upto_len, List.getElem?_map, upto_get, if_pos (by omega)]
  simp; omega
theorem skipIds_out {n m j : Nat} (h2 : n + m ≤ j) : (skipIds n m)[j]? = none := by
  unfold skipIds
  rw [List.getElem?_append_right (by rw [upto_len]; omega), upto_len, List.getElem?_map, upto_get, if_neg (by omega)]
  rfl
theorem skipIds_nd {n m : Nat} : (skipIds n m).Nodup := by
  have hl : (skipIds n m).length = n + m := by simp [skipIds, upto_len]
  refine List.pairwise_iff_getElem.2 fun i j hi hj hij e => ?_
  have e : (skipIds n m)[i]? = (skipIds n m)[j]? := by rw [List.getElem?_eq_getElem hi, List.getElem?_eq_getElem hj, e]
  rw [hl] at hj
  rcases Nat.lt_or_ge i n with h1 | h1
  · rcases Nat.lt_or_ge j n with h2 | h2
    · rw [skipIds_lo h1, skipIds_lo h2] at e; simp at e; omega
    · rw [skipIds_lo h1, skipIds_hi h2 hj] at e; simp at e; omega
  · rw [skipIds_hi h1 (by omega), skipIds_hi (by omega) hj] at e; simp at e; omega

section
variable {w0 : World} {O : Own} {ρ : Rho} {w : World} {H : Nat → Option Body} {Φ : Nat → Foot}
/-- a function that reads a log, told of with the log as cells and rows -/
theorem FnOk.unlogAt {g : Ctx} {f : FuncId} {args : List SV} {B : List Body} {k : Nat} {l : List (List Int)} (hk : B[k]? = some (.log l)) {v v' : SV} {new : List Body} {C : List Prop}
    (h : FnOk g f args (B.set k (.cells [.int .i64 l.length, .own B.length]) ++ [Body.rows [.i64, .i64] l]) { val := v, new })
    (hv : mapC (idx (skipIds B.length new.length)) v = v') (hB : ∀ b ∈ B, mapB (idx (skipIds B.length new.length)) b = b) (hn : ∀ b ∈ new, mapB (idx (skipIds B.length new.length)) b = b) :
    FnOk g f args B { val := v', new, C } := by
  have hkl : k < B.length := (List.getElem?_eq_some_iff.1 hk).1
  intro w0 O hG ρ Φ vs w d x hr
  have h1 : ρ B.length = none := hr _ (Nat.le_refl _)
  obtain ⟨loc, len, cap, Φ1, x1⟩ := x.unlog (id := k) (k := B.length) (l := l) hk h1
  obtain ⟨hd, hr0, hh⟩ := x.holds k (.log l) hk
  obtain ⟨b, base, rfl, _⟩ := holds_log hh
  have x1 := relH_funext (H' := BH (B.set k (.cells [.int .i64 l.length, .own B.length]) ++ [Body.rows [.i64, .i64] l])) (fun j => by
    rw [BH_append, List.length_set]
    unfold upH
    split
    · rfl
    · split
      · rename_i e; subst e; simp [BH, hkl]
      · rename_i e; simp [BH, List.getElem?_set_ne (Ne.symm e)]) x1
  have hext : Ext ρ (upR ρ B.length (.sl loc len cap)) := Ext.up h1 _
  have hlen : (B.set k (.cells [.int .i64 l.length, .own B.length]) ++ [Body.rows [.i64, .i64] l]).length = B.length + 1 := by simp
  refine (h w0 O hG _ Φ1 vs w (DenT.mono hext _ _ d) x1 (fun j hj => by
    rw [hlen] at hj; simp [upR, show j ≠ B.length by omega]; exact hr j (by omega))).mono fun u w' ⟨ρ2, Φ2, q1, q2, q3, q4⟩ => ?_
  rw [hlen] at q3
  have hr2 : ρ2 k = some (.at b base) := q2 k _ (hext k _ hr0)
  have hA : ∀ j, afterH (B.set k (.cells [.int .i64 l.length, .own B.length]) ++ [Body.rows [.i64, .i64] l]) { val := v, new } j = if B.length + 1 ≤ j ∧ j < B.length + 1 + new.length then new[j - (B.length + 1)]? else BH (B.set k (.cells [.int .i64 l.length, .own B.length]) ++ [Body.rows [.i64, .i64] l]) j := fun j => by
    unfold afterH newH; rw [hlen]; simp only [updAll]; rw [newAll_get]
  have x2 := q4.tolog (id := k) (k := B.length) (l := l) (by rw [hA, if_neg (by omega)]; simp [BH, List.getElem?_append, hkl]) (by rw [hA, if_neg (by omega)]; simp [BH]) hr2
  refine ⟨inR ρ2 (skipIds B.length new.length), _, ?_, fun j hd hj => ?_, fun j hj => ?_, relH_funext (fun j => ?_) (relH_ren x2 (ids := skipIds B.length new.length) skipIds_nd)⟩
  · subst hv; exact denV_map (w0 := w0) (O := O) (inR_idx ρ2 _) q1
  · by_cases e : j < B.length
    · simp [inR, skipIds_lo e, q2 j _ (hext j _ hj)]
    · rw [hr j (by omega)] at hj; simp at hj
  · simp [inR, skipIds_out hj]
  · have hA' : afterH B { val := v', new, C } j = if B.length ≤ j ∧ j < B.length + new.length then new[j - B.length]? else BH B j := by
      unfold afterH newH; simp only [updAll]; rw [newAll_get]
    rw [hA']
    unfold renH
    by_cases e1 : j < B.length
    · rw [skipIds_lo e1, if_neg (by omega)]
      have hb := hB B[j] (List.getElem_mem e1)
      simp only [Option.bind_some]
      unfold upH
      by_cases e2 : j = k
      · subst e2
        have : B[j] = .log l := by have := List.getElem?_eq_getElem e1; rw [hk] at this; exact (Option.some.inj this).symm
        simp [BH, hk, mapB]
      · rw [if_neg e2, if_neg (by omega), hA, if_neg (by omega)]
        simp only [BH]
        rw [List.getElem?_append_left (by simp; omega), List.getElem?_set_ne (Ne.symm e2), List.getElem?_eq_getElem e1, Option.map_some, hb]
    · by_cases e2 : j < B.length + new.length
      · rw [skipIds_hi (by omega) e2, if_pos (by omega)]
        simp only [Option.bind_some]
        unfold upH
        rw [if_neg (by omega), if_neg (by omega), hA, if_pos (by omega), show j + 1 - (B.length + 1) = j - B.length by omega]
        rw [List.getElem?_eq_getElem (by omega), Option.map_some, hn _ (List.getElem_mem _)]
      · rw [skipIds_out (by omega), if_neg (by omega)]
        simp [BH, List.getElem?_eq_none (show B.length ≤ j by omega)]
/-- nothing, as a slice of its own, within what is handed back -/
theorem FnOk.adoptV {g : Ctx} {f : FuncId} {args : List SV} {B : List Body} {upd : List (Nat × Option Body)} {C : List Prop} {bd : Body} {v v' : SV} (hb : emptyB bd) (h : FnOk g f args B { val := v, upd })
    (hv : ∀ (w0 : World) (O : Own) (ρ : Rho) (u : Value), ρ B.length = none → DenV w0 O ρ v u → DenV w0 O (upR ρ B.length (.sl none 0 0)) v' u) : FnOk g f args B { val := v', upd, new := [bd], C } := by
  intro w0 O hG ρ Φ vs w d x hr
  refine (h w0 O hG ρ Φ vs w d x hr).mono fun u w' ⟨ρ', Φ', q1, q2, q3, q4⟩ => ?_
  have hn := q3 B.length (by simp)
  refine ⟨upR ρ' B.length (.sl none 0 0), _, hv _ _ _ _ hn q1, fun j hd hh => Ext.up hn _ j hd (q2 j hd hh), fun j hj => ?_, relH_funext (fun j => ?_) (q4.adopt hn hb)⟩
  · simp at hj; simp [upR, show j ≠ B.length by omega]; exact q3 j (by simp; omega)
  · unfold afterH newH
    simp only [newAll]
theorem den_nil_bool {ρ : Rho} {j : Nat} {b : Bool} {u : Value} (hn : ρ j = none) (h : DenV w0 O ρ (.tuple [.raw (.slice none 0 0), .bool b]) u) : DenV w0 O (upR ρ j (.sl none 0 0)) (.tuple [.own j, .sbool b]) u := by
  obtain ⟨h, hu⟩ := denV_cell h (by simp) rfl
  simp only [DenC] at h
  obtain ⟨arr, h1, h2⟩ := h
  simp only [DenT] at h2
  obtain ⟨v1, r1, e1, d1, v2, r2, rfl, d2, rfl⟩ := h2
  have d1' := den_nil (j := j) d1
  have d2' := DenV.mono (Ext.up hn (.sl none 0 0)) d2
  refine den_cell rfl hu ?_
  simp only [DenC, DenT]
  refine ⟨arr, h1, v1, _, e1, d1', v2, [], rfl, ?_, rfl⟩
  have := denV_bool (l := true) (b := b) d2' (by cases b <;> rfl)
  have : DenV w0 O (upR ρ j (.sl none 0 0)) (.sbool b) v2 := den_cell rfl (by rw [this]; rfl) (by rw [this]; simp [DenC])
  exact this
end
end Go.Vx

/- Numbers, looked at through slices. -/
namespace Go.Vx
open Go

/-- a part of a list of numbers -/
def subI (l : List Int) (o n : Nat) : List Int := (l.drop o).take n
theorem subI_all (l : List Int) : subI l 0 l.length = l := by simp [subI]
theorem subI_length {l : List Int} {o n : Nat} (h : o + n ≤ l.length) : (subI l o n).length = n := by simp [subI]; omega
theorem subI_get {l : List Int} {o n i : Nat} (hi : i < n) : (subI l o n).getD i 0 = l.getD (o + i) 0 := by
  unfold subI
  rw [List.getD_eq_getElem?_getD, List.getElem?_take, if_pos hi, List.getElem?_drop, ← List.getD_eq_getElem?_getD]
/-- a slice of chunk id, as a part of its numbers -/
def vwI (id : Nat) (l : List Int) : SV → Option (Nat × Nat)
  | .own j => match Nat.beq j id with
    | true => some (0, l.length)
    | false => none
  | .sl j _ off s 0 len _ => match (Nat.beq j id).and (Nat.beq s 1) with
    | true => some (off, len)
    | false => none
  | _ => none

section
variable {w0 : World} {O : Own} {ρ : Rho} {w : World} {H : Nat → Option Body} {Φ : Nat → Foot}
theorem vwI_den {id : Nat} {k : IntKind} {l : List Int} {x : SV} {o n : Nat} (h : vwI id l x = some (o, n)) (r : RelH w0 O ρ H w Φ) (hb : H id = some (.ints k l)) {v : Value} (d : DenV w0 O ρ x v) : DenV w0 O ρ (.sl id 0 o 1 0 n false) v := by
  unfold vwI at h
  split at h
  · rename_i j
    split at h
    · rename_i hj
      have hj := Nat.eq_of_beq_eq_true hj
      subst hj
      simp only [Option.some.injEq, Prod.mk.injEq] at h
      obtain ⟨rfl, rfl⟩ := h
      obtain ⟨d, _⟩ := denV_cell (c := .own j) d (by simp) rfl
      simp only [DenC] at d
      obtain ⟨loc, len, cap, e1, e2⟩ := d
      simp at e2; subst e2
      obtain ⟨hd, f1, f2⟩ := r.holds j _ hb
      rw [e1] at f1; cases f1
      obtain ⟨g1, g2, g3, g4⟩ := f2
      have g1 : len = l.length := g1
      subst g1
      refine den_cell rfl rfl ?_
      simp only [DenC]
      refine ⟨_, cap, rfl, g2, ⟨by simp, ?_⟩, fun hpos => ?_⟩
      · cases loc with
        | none => exact .inl rfl
        | some y => exact .inr ⟨y.1, y.2, rfl⟩
      · cases loc with
        | none => have := g4.1; omega
        | some y => exact ⟨_, y.1, y.2, e1, rfl, by simp⟩
    · simp at h
  · rename_i j m off s len kn
    split at h
    · rename_i hj
      simp only [Bool.and_eq_true] at hj
      have hj1 := Nat.eq_of_beq_eq_true hj.1
      have hj2 := Nat.eq_of_beq_eq_true hj.2
      subst hj1; subst hj2
      simp only [Option.some.injEq, Prod.mk.injEq] at h
      obtain ⟨rfl, rfl⟩ := h
      obtain ⟨d, _⟩ := denV_cell (c := .sl j m off 1 0 len kn) d (by simp) rfl
      simp only [DenC] at d
      obtain ⟨a, cap, e1, e2, ⟨_, e3⟩, e4⟩ := d
      simp at e1; subst e1
      refine den_cell rfl rfl ?_
      simp only [DenC]
      exact ⟨a, cap, rfl, e2, ⟨by simp, e3⟩, e4⟩
    · simp at h
  · simp at h
end
/-- the marks behind a list's end -/
def markN (i : Nat) : Int := scut .u8 (161 + (i : Int).tmod 7)
def roomL (la : List Int) : List Int := (List.range (la.length + 70)).map fun i => if i < la.length then la.getD i 0 else markN i
theorem roomL_len (la : List Int) : (roomL la).length = la.length + 70 := by simp [roomL]
theorem roomL_get (la : List Int) {i : Nat} (h : i < la.length + 70) : (roomL la).getD i 0 = if i < la.length then la.getD i 0 else markN i := by
  unfold roomL
  rw [List.getD_eq_getElem?_getD, List.getElem?_map, List.getElem?_range h]; rfl
/-- the first i of n numbers, behind them noughts -/
def partF (f : Nat → Int) (n i : Nat) : List Int := (List.range n).map fun j => if j < i then f j else 0
theorem partF_len (f : Nat → Int) (n i : Nat) : (partF f n i).length = n := by simp [partF]
theorem partF_get (f : Nat → Int) {n i p : Nat} (h : p < n) : (partF f n i).getD p 0 = if p < i then f p else 0 := by
  unfold partF
  rw [List.getD_eq_getElem?_getD, List.getElem?_map, List.getElem?_range h]; rfl
theorem extI {l l' : List Int} (h : l.length = l'.length) (h2 : ∀ p, p < l.length → l.getD p 0 = l'.getD p 0) : l = l' := by
  apply List.ext_getElem h
  intro p h1 h3
  have := h2 p h1
  rw [List.getD_eq_getElem?_getD, List.getD_eq_getElem?_getD, List.getElem?_eq_getElem h1, List.getElem?_eq_getElem h3] at this
  simpa using this
theorem setI {l : List Int} {k p : Nat} {v : Int} (hp : p < l.length) : (l.set k v).getD p 0 = if k = p then v else l.getD p 0 := by
  rw [List.getD_eq_getElem?_getD, List.getElem?_set, List.getD_eq_getElem?_getD]
  split
  · rename_i e; subst e; simp [hp]
  · rfl
theorem partF_zero (f : Nat → Int) (n : Nat) : partF f n 0 = List.replicate n 0 := by
  refine extI (by simp [partF_len]) fun p hp => ?_
  rw [partF_len] at hp
  rw [partF_get f hp, if_neg (by omega), List.getD_eq_getElem?_getD, List.getElem?_replicate, if_pos hp]; rfl
theorem partF_set (f : Nat → Int) {n i : Nat} (h : i < n) : (partF f n i).set i (f i) = partF f n (i + 1) := by
  refine extI (by simp [partF_len]) fun p hp => ?_
  rw [List.length_set, partF_len] at hp
  rw [setI (by rw [partF_len]; exact hp), partF_get f hp, partF_get f hp]
  by_cases e : i = p
  · subst e; rw [if_pos rfl, if_pos (by omega)]
  · rw [if_neg e]
    by_cases e2 : p < i
    · rw [if_pos e2, if_pos (by omega)]
    · rw [if_neg e2, if_neg (by omega)]
theorem partF_all (f : Nat → Int) (l : List Int) (h : ∀ p, p < l.length → f p = l.getD p 0) : partF f l.length l.length = l := by
  refine extI (by simp [partF_len]) fun p hp => ?_
  rw [partF_len] at hp
  rw [partF_get f hp, if_pos hp, h p hp]
theorem set_set (l : List Int) (i : Nat) (a b : Int) : (l.set i a).set i b = l.set i b := by simp
section
variable {w0 : World} {O : Own} {ρ : Rho} {w : World} {H : Nat → Option Body} {Φ : Nat → Foot}
theorem cellsOf_ints (k : IntKind) (l : List Int) : cellsOf (.ints k l) = svF (List.replicate l.length k) (atL l) 0 := by
  apply List.ext_getElem?
  intro j
  rw [svF_get]
  simp only [cellsOf, List.getElem?_map, List.getElem?_replicate]
  by_cases h : j < l.length
  · rw [if_pos h, List.getElem?_eq_getElem h]
    simp [atL, h]
  · rw [if_neg h, List.getElem?_eq_none (by omega)]; rfl
theorem holds_asInts {n : Nat} {k : IntKind} {cs : List SV} {ns : List Int} (hn : numsAs (List.replicate n k) cs = some ns) {b base : Nat} {F : Foot} (h : Holds w0 O ρ w (.cells cs) (.at b base) F) : Holds w0 O ρ w (.ints k ns) (.at b base) F := by
  have hi := cells_nums hn
  have h2 := holds_imp hi.1 (fun l hl => hi.2 l hl) h
  obtain ⟨h3, h4, h5⟩ := h2
  have e : cellsOf (.ints k ns) = cellsOf (.cells (svF (List.replicate n k) (atL ns) 0)) := by
    rw [cellsOf_ints]
    have := (numsAs_len hn).1
    rw [List.length_replicate] at this
    rw [this]; rfl
  refine ⟨trivial, ?_, ?_⟩
  · rw [e]; exact h4
  · rw [e]; exact h5
theorem holds_asCells {k : IntKind} {ns : List Int} {b base : Nat} {F : Foot} (h : Holds w0 O ρ w (.ints k ns) (.at b base) F) : Holds w0 O ρ w (.cells (svF (List.replicate ns.length k) (atL ns) 0)) (.at b base) F := by
  obtain ⟨h3, h4, h5⟩ := h
  rw [cellsOf_ints] at h4 h5
  exact ⟨trivial, h4, h5⟩
/-- one chunk, told of in other words -/
theorem RelH.swap (x : RelH w0 O ρ H w Φ) {i : Nat} {bd bd' : Body} (hb : H i = some bd) (h : ∀ hd, ρ i = some hd → Holds w0 O ρ w bd hd (Φ i) → Holds w0 O ρ w bd' hd (Φ i)) : RelH w0 O ρ (upH H i (some bd')) w Φ := by
  have hn : ∀ id, upH H i (some bd') id ≠ none → H id ≠ none := fun id hid => by
    unfold upH at hid
    split at hid
    · rename_i e; subst e; rw [hb]; simp
    · exact hid
  refine ⟨x.frame, fun id b0 h0 => ?_, fun id id' b o hne h1 h2 => x.disj id id' b o hne (hn _ h1) (hn _ h2), fun id b o h1 => x.mine id b o (hn _ h1)⟩
  unfold upH at h0
  split at h0
  · rename_i e; subst e
    simp only [Option.some.injEq] at h0; subst h0
    obtain ⟨hd, q1, q2⟩ := x.holds id bd hb
    exact ⟨hd, q1, h hd q1 q2⟩
  · exact x.holds id b0 h0
/-- cells that are numbers, as a list of them -/
theorem FnOk.asInts {g : Ctx} {f : FuncId} {args : List SV} {B : List Body} {i n : Nat} {k : IntKind} {cs : List SV} {ns ns' : List Int} {out out' : OpOut} (hB : B[i]? = some (.cells cs)) (hn : numsAs (List.replicate n k) cs = some ns)
    (h : FnOk g f args (B.set i (.ints k ns)) out) (h1 : afterH (B.set i (.ints k ns)) out i = some (.ints k ns')) (hnew : out'.new.length = out.new.length) (hval : out'.val = out.val)
    (hA : ∀ j, afterH B out' j = upH (afterH (B.set i (.ints k ns)) out) i (some (.cells (svF (List.replicate ns'.length k) (atL ns') 0))) j) : FnOk g f args B out' := by
  have hi : i < B.length := (List.getElem?_eq_some_iff.1 hB).1
  intro w0 O hG ρ Φ vs w d x hr
  obtain ⟨hd, r1, r2⟩ := x.holds i _ hB
  cases hd with
  | sl a b c => exact r2.elim
  | «at» b base =>
    have x1 := x.swap (i := i) (bd' := .ints k ns) hB fun hd hh hq => by
      rw [r1] at hh; cases hh
      exact holds_asInts hn hq
    have x1 := relH_funext (H' := BH (B.set i (.ints k ns))) (fun j => by
      unfold upH BH
      by_cases e : j = i
      · subst e; simp [hi]
      · rw [if_neg e, List.getElem?_set_ne (Ne.symm e)]) x1
    refine (h w0 O hG ρ Φ vs w d x1 (fun j hj => hr j (by simpa using hj))).mono fun u w' ⟨ρ', Φ', q1, q2, q3, q4⟩ => ?_
    refine ⟨ρ', Φ', by rw [hval]; exact q1, q2, fun j hj => q3 j (by simpa [hnew] using hj), relH_funext (fun j => (hA j).symm) ?_⟩
    exact q4.swap h1 fun hd hh hq => by
      rw [q2 i _ r1] at hh; cases hh
      exact holds_asCells hq
end
theorem run_parts {α β γ : Type} {x : Option (α × β × γ)} {a : α} {b : β} {c : γ} (h1 : x.map (·.1) = some a) (h2 : x.map (·.2.1) = some b) (h3 : x.map (·.2.2) = some c) : x = some (a, b, c) := by
  cases x with
  | none => simp at h1
  | some y =>
    obtain ⟨y1, y2, y3⟩ := y
    simp at h1 h2 h3
    subst h1; subst h2; subst h3; rfl
end Go.Vx

/- Plain law of the numbers modulo 2^130 - 5. -/
namespace Go.Vx
open Go

theorem uadd64 {a b : Int} (ha : 0 ≤ a) (hb : 0 ≤ b) (h : a + b < 18446744073709551616) : uadd .u64 a b = a + b := by
  obtain ⟨x, rfl⟩ := Int.eq_ofNat_of_zero_le ha
  obtain ⟨y, rfl⟩ := Int.eq_ofNat_of_zero_le hb
  show Int.ofNat (((x : Int).toNat + (y : Int).toNat) % 18446744073709551616) = _
  simp only [Int.toNat_natCast, Int.ofNat_eq_natCast]
  omega
theorem umul64 {a b : Int} (ha : 0 ≤ a) (hb : 0 ≤ b) (h : a * b < 18446744073709551616) : umul .u64 a b = a * b := by
  obtain ⟨x, rfl⟩ := Int.eq_ofNat_of_zero_le ha
  obtain ⟨y, rfl⟩ := Int.eq_ofNat_of_zero_le hb
  show Int.ofNat (((x : Int).toNat * (y : Int).toNat) % 18446744073709551616) = _
  simp only [Int.toNat_natCast, Int.ofNat_eq_natCast]
  rw [← Int.natCast_mul] at h ⊢
  rw [Nat.mod_eq_of_lt (by omega)]
theorem umaskE (a : Int) (m : Nat) (ha : 0 ≤ a) : umask a (m : Int) = a % ((m + 1 : Nat) : Int) := by
  obtain ⟨x, rfl⟩ := Int.eq_ofNat_of_zero_le ha
  show Int.ofNat ((x : Int).toNat % ((m : Int).toNat + 1)) = _
  simp only [Int.toNat_natCast, Int.ofNat_eq_natCast]
  rw [Int.natCast_emod]
theorem ushrE (a : Int) (m : Nat) (ha : 0 ≤ a) : ushr a (m : Int) = a / ((2 ^ m : Nat) : Int) := by
  obtain ⟨x, rfl⟩ := Int.eq_ofNat_of_zero_le ha
  show Int.ofNat ((x : Int).toNat / 2 ^ (m : Int).toNat) = _
  simp only [Int.toNat_natCast, Int.ofNat_eq_natCast]
  rw [Int.natCast_ediv]
theorem umask26 {a : Int} (ha : 0 ≤ a) : umask a 67108863 = a % 67108864 := umaskE a 67108863 ha
theorem ushr26 {a : Int} (ha : 0 ≤ a) : ushr a 26 = a / 67108864 := ushrE a 26 ha

/-! ### carries -/
def passL (a : Nat → Int) : List Int :=
  let t1 := uadd .u64 (a 1) (ushr (a 0) 26)
  let t2 := uadd .u64 (a 2) (ushr t1 26)
  let t3 := uadd .u64 (a 3) (ushr t2 26)
  let t4 := uadd .u64 (a 4) (ushr t3 26)
  [uadd .u64 (umask (a 0) 67108863) (umul .u64 5 (ushr t4 26)), umask t1 67108863, umask t2 67108863, umask t3 67108863, umask t4 67108863]
def settledL (a : Nat → Int) : List Int := passL (atL (passL a))
def settledN (la : List Int) (i : Nat) : Int := (settledL (atL la)).getD i 0

/-- the number of five limbs -/
def V5 (a : Nat → Int) : Int := a 0 + 67108864 * a 1 + 4503599627370496 * a 2 + 302231454903657293676544 * a 3 + 20282409603651670423947251286016 * a 4
def P5 : Int := 1361129467683753853853498429727072845819

theorem pass_spec {a : Nat → Int} (h : ∀ i, i < 5 → 0 ≤ a i ∧ a i < 4611686018427387904) : ∃ c0 c1 c2 c3 c4 : Int,
    c0 = a 0 / 67108864 ∧ c1 = (a 1 + c0) / 67108864 ∧ c2 = (a 2 + c1) / 67108864 ∧ c3 = (a 3 + c2) / 67108864 ∧ c4 = (a 4 + c3) / 67108864 ∧
    passL a = [a 0 % 67108864 + 5 * c4, (a 1 + c0) % 67108864, (a 2 + c1) % 67108864, (a 3 + c2) % 67108864, (a 4 + c3) % 67108864] := by
  have h0 := h 0 (by decide)
  have h1 := h 1 (by decide)
  have h2 := h 2 (by decide)
  have h3 := h 3 (by decide)
  have h4 := h 4 (by decide)
  have e0 := ushr26 h0.1
  have e1 : uadd .u64 (a 1) (ushr (a 0) 26) = a 1 + a 0 / 67108864 := by rw [e0]; exact uadd64 h1.1 (by omega) (by omega)
  obtain ⟨c0, hc0⟩ : ∃ c, c = a 0 / 67108864 := ⟨_, rfl⟩
  rw [← hc0] at e1
  have f1 := ushr26 (a := a 1 + c0) (by omega)
  obtain ⟨c1, hc1⟩ : ∃ c, c = (a 1 + c0) / 67108864 := ⟨_, rfl⟩
  rw [← hc1] at f1
  have e2 : uadd .u64 (a 2) c1 = a 2 + c1 := uadd64 h2.1 (by omega) (by omega)
  have f2 := ushr26 (a := a 2 + c1) (by omega)
  obtain ⟨c2, hc2⟩ : ∃ c, c = (a 2 + c1) / 67108864 := ⟨_, rfl⟩
  rw [← hc2] at f2
  have e3 : uadd .u64 (a 3) c2 = a 3 + c2 := uadd64 h3.1 (by omega) (by omega)
  have f3 := ushr26 (a := a 3 + c2) (by omega)
  obtain ⟨c3, hc3⟩ : ∃ c, c = (a 3 + c2) / 67108864 := ⟨_, rfl⟩
  rw [← hc3] at f3
  have e4 : uadd .u64 (a 4) c3 = a 4 + c3 := uadd64 h4.1 (by omega) (by omega)
  have f4 := ushr26 (a := a 4 + c3) (by omega)
  obtain ⟨c4, hc4⟩ : ∃ c, c = (a 4 + c3) / 67108864 := ⟨_, rfl⟩
  rw [← hc4] at f4
  have e5 : umul .u64 5 c4 = 5 * c4 := umul64 (by decide) (by omega) (by omega)
  have e6 : uadd .u64 (a 0 % 67108864) (5 * c4) = a 0 % 67108864 + 5 * c4 := uadd64 (by omega) (by omega) (by omega)
  refine ⟨c0, c1, c2, c3, c4, hc0, hc1, hc2, hc3, hc4, ?_⟩
  simp only [passL, e1, f1, e2, f2, e3, f3, e4, f4, e5, umask26 h0.1, umask26 (a := a 1 + c0) (by omega), umask26 (a := a 2 + c1) (by omega), umask26 (a := a 3 + c2) (by omega), umask26 (a := a 4 + c3) (by omega), e6]

/-- limbs behind the carries -/
def Sett (la : List Int) : Prop := (0 ≤ atL la 0 ∧ atL la 0 < 67108869) ∧ (0 ≤ atL la 1 ∧ atL la 1 < 67108864) ∧ (0 ≤ atL la 2 ∧ atL la 2 < 67108864) ∧ (0 ≤ atL la 3 ∧ atL la 3 < 67108864) ∧ (0 ≤ atL la 4 ∧ atL la 4 < 67108864)
/-- limbs that may be settled -/
def Wide (la : List Int) : Prop := ∀ i, i < 5 → 0 ≤ atL la i ∧ atL la i < 4611686018427387904

theorem settled_spec {la : List Int} (h : Wide la) : Sett (listF 5 (settledN la) 0) ∧ ∃ q, V5 (settledN la) = V5 (atL la) - P5 * q := by
  obtain ⟨c0, c1, c2, c3, c4, k0, k1, k2, k3, k4, e⟩ := pass_spec h
  have h0 := h 0 (by decide)
  have h1 := h 1 (by decide)
  have h2 := h 2 (by decide)
  have h3 := h 3 (by decide)
  have h4 := h 4 (by decide)
  obtain ⟨b, hb⟩ : ∃ b, b = atL (passL (atL la)) := ⟨_, rfl⟩
  have b0 : b 0 = atL la 0 % 67108864 + 5 * c4 := by rw [hb, e]; rfl
  have b1 : b 1 = (atL la 1 + c0) % 67108864 := by rw [hb, e]; rfl
  have b2 : b 2 = (atL la 2 + c1) % 67108864 := by rw [hb, e]; rfl
  have b3 : b 3 = (atL la 3 + c2) % 67108864 := by rw [hb, e]; rfl
  have b4 : b 4 = (atL la 4 + c3) % 67108864 := by rw [hb, e]; rfl
  have hw : ∀ i, i < 5 → 0 ≤ b i ∧ b i < 4611686018427387904 := by
    intro i hi
    match i, hi with
    | 0, _ => omega
    | 1, _ => omega
    | 2, _ => omega
    | 3, _ => omega
    | 4, _ => omega
  obtain ⟨d0, d1, d2, d3, d4, m0, m1, m2, m3, m4, e'⟩ := pass_spec hw
  have s : ∀ i, settledN la i = (passL b).getD i 0 := fun i => by rw [hb]; rfl
  have s0 : settledN la 0 = b 0 % 67108864 + 5 * d4 := by rw [s, e']; rfl
  have s1 : settledN la 1 = (b 1 + d0) % 67108864 := by rw [s, e']; rfl
  have s2 : settledN la 2 = (b 2 + d1) % 67108864 := by rw [s, e']; rfl
  have s3 : settledN la 3 = (b 3 + d2) % 67108864 := by rw [s, e']; rfl
  have s4 : settledN la 4 = (b 4 + d3) % 67108864 := by rw [s, e']; rfl
  have q0 : 0 ≤ c0 := by omega
  have q1 : 0 ≤ c1 := by omega
  have q2 : 0 ≤ c2 := by omega
  have q3 : 0 ≤ c3 := by omega
  have q4 : 0 ≤ c4 := by omega
  have p0 : 0 ≤ d0 := by have := (hw 0 (by decide)).1; clear s0 s1 s2 s3 s4; omega
  have n0 : d0 ≤ 4194304 := by omega
  have n1 : d1 ≤ 1 := by omega
  have n2 : d2 ≤ 1 := by omega
  have n3 : d3 ≤ 1 := by omega
  have n4 : d4 ≤ 1 := by omega
  have p1 : 0 ≤ d1 := by omega
  have p2 : 0 ≤ d2 := by omega
  have p3 : 0 ≤ d3 := by omega
  have p4 : 0 ≤ d4 := by omega
  refine ⟨?_, c4 + d4, ?_⟩
  · show (0 ≤ settledN la 0 ∧ _) ∧ (0 ≤ settledN la 1 ∧ _) ∧ (0 ≤ settledN la 2 ∧ _) ∧ (0 ≤ settledN la 3 ∧ _) ∧ (0 ≤ settledN la 4 ∧ _)
    show (0 ≤ settledN la 0 ∧ settledN la 0 < _) ∧ (0 ≤ settledN la 1 ∧ settledN la 1 < _) ∧ (0 ≤ settledN la 2 ∧ settledN la 2 < _) ∧ (0 ≤ settledN la 3 ∧ settledN la 3 < _) ∧ (0 ≤ settledN la 4 ∧ settledN la 4 < _)
    rw [s0, s1, s2, s3, s4]
    omega
  · simp only [V5, P5, s0, s1, s2, s3, s4]
    omega

theorem Sett.wide {la : List Int} (h : Sett la) : Wide la := by
  obtain ⟨h0, h1, h2, h3, h4⟩ := h
  intro i hi
  match i, hi with
  | 0, _ => omega
  | 1, _ => omega
  | 2, _ => omega
  | 3, _ => omega
  | 4, _ => omega

/-! ### sum and product -/
def addL (a b : Nat → Int) : List Int := [uadd .u64 (a 0) (b 0), uadd .u64 (a 1) (b 1), uadd .u64 (a 2) (b 2), uadd .u64 (a 3) (b 3), uadd .u64 (a 4) (b 4)]
def sum2 (x y : Int) : Int := uadd .u64 x y
def mulL (a b : Nat → Int) : List Int :=
  let p := fun i j => umul .u64 (a i) (b j)
  let s := uadd .u64
  let f := umul .u64 5
  [s (s 0 (p 0 0)) (f (s (s (s (s 0 (p 1 4)) (p 2 3)) (p 3 2)) (p 4 1))),
   s (s (s 0 (p 0 1)) (p 1 0)) (f (s (s (s 0 (p 2 4)) (p 3 3)) (p 4 2))),
   s (s (s (s 0 (p 0 2)) (p 1 1)) (p 2 0)) (f (s (s 0 (p 3 4)) (p 4 3))),
   s (s (s (s (s 0 (p 0 3)) (p 1 2)) (p 2 1)) (p 3 0)) (f (s 0 (p 4 4))),
   s (s (s (s (s (s 0 (p 0 4)) (p 1 3)) (p 2 2)) (p 3 1)) (p 4 0)) 0]

theorem add_spec {la lb : List Int} (ha : Sett la) (hb : Sett lb) : Wide (addL (atL la) (atL lb)) ∧ V5 (atL (addL (atL la) (atL lb))) = V5 (atL la) + V5 (atL lb) := by
  obtain ⟨h0, h1, h2, h3, h4⟩ := ha
  obtain ⟨k0, k1, k2, k3, k4⟩ := hb
  have e : addL (atL la) (atL lb) = [atL la 0 + atL lb 0, atL la 1 + atL lb 1, atL la 2 + atL lb 2, atL la 3 + atL lb 3, atL la 4 + atL lb 4] := by
    unfold addL
    rw [uadd64 (a := atL la 0) h0.1 k0.1 (by omega), uadd64 (a := atL la 1) h1.1 k1.1 (by omega), uadd64 (a := atL la 2) h2.1 k2.1 (by omega), uadd64 (a := atL la 3) h3.1 k3.1 (by omega), uadd64 (a := atL la 4) h4.1 k4.1 (by omega)]
  rw [e]
  refine ⟨fun i hi => ?_, ?_⟩
  · match i, hi with
    | 0, _ => show 0 ≤ atL la 0 + atL lb 0 ∧ atL la 0 + atL lb 0 < _; omega
    | 1, _ => show 0 ≤ atL la 1 + atL lb 1 ∧ atL la 1 + atL lb 1 < _; omega
    | 2, _ => show 0 ≤ atL la 2 + atL lb 2 ∧ atL la 2 + atL lb 2 < _; omega
    | 3, _ => show 0 ≤ atL la 3 + atL lb 3 ∧ atL la 3 + atL lb 3 < _; omega
    | 4, _ => show 0 ≤ atL la 4 + atL lb 4 ∧ atL la 4 + atL lb 4 < _; omega
  · show (atL la 0 + atL lb 0) + 67108864 * (atL la 1 + atL lb 1) + _ * (atL la 2 + atL lb 2) + _ * (atL la 3 + atL lb 3) + _ * (atL la 4 + atL lb 4) = _
    simp only [V5]; omega

theorem prod_lt {a b : Int} (ha : 0 ≤ a ∧ a < 67108869) (hb : 0 ≤ b ∧ b < 67108869) : 0 ≤ a * b ∧ a * b < 4503600298459161 ∧ umul .u64 a b = a * b := by
  have h1 : 0 ≤ a * b := Int.mul_nonneg ha.1 hb.1
  have h2 : a * b ≤ 67108868 * 67108868 := Int.mul_le_mul (by omega) (by omega) hb.1 (by decide)
  have h3 : a * b < 4503600298459161 := by omega
  exact ⟨h1, h3, umul64 ha.1 hb.1 (by omega)⟩

theorem mul_ring (a0 a1 a2 a3 a4 b0 b1 b2 b3 b4 : Int) :
    (a0 * b0 + 5 * (a1 * b4 + a2 * b3 + a3 * b2 + a4 * b1)) + 67108864 * (a0 * b1 + a1 * b0 + 5 * (a2 * b4 + a3 * b3 + a4 * b2)) + 4503599627370496 * (a0 * b2 + a1 * b1 + a2 * b0 + 5 * (a3 * b4 + a4 * b3)) + 302231454903657293676544 * (a0 * b3 + a1 * b2 + a2 * b1 + a3 * b0 + 5 * (a4 * b4)) + 20282409603651670423947251286016 * (a0 * b4 + a1 * b3 + a2 * b2 + a3 * b1 + a4 * b0)
    = (a0 + 67108864 * a1 + 4503599627370496 * a2 + 302231454903657293676544 * a3 + 20282409603651670423947251286016 * a4) * (b0 + 67108864 * b1 + 4503599627370496 * b2 + 302231454903657293676544 * b3 + 20282409603651670423947251286016 * b4)
      - 1361129467683753853853498429727072845819 * ((a1 * b4 + a2 * b3 + a3 * b2 + a4 * b1) + 67108864 * (a2 * b4 + a3 * b3 + a4 * b2) + 4503599627370496 * (a3 * b4 + a4 * b3) + 302231454903657293676544 * (a4 * b4)) := by grind

theorem mul_spec {la lb : List Int} (ha : Sett la) (hb : Sett lb) : Wide (mulL (atL la) (atL lb)) ∧ ∃ q, V5 (atL (mulL (atL la) (atL lb))) = V5 (atL la) * V5 (atL lb) - P5 * q := by
  obtain ⟨h0, h1, h2, h3, h4⟩ := ha
  obtain ⟨k0, k1, k2, k3, k4⟩ := hb
  generalize atL la = a at *
  generalize atL lb = b at *
  have u : ∀ i, i < 5 → 0 ≤ a i ∧ a i < 67108869 := by
    intro i hi
    match i, hi with
    | 0, _ => omega
    | 1, _ => omega
    | 2, _ => omega
    | 3, _ => omega
    | 4, _ => omega
  have v : ∀ i, i < 5 → 0 ≤ b i ∧ b i < 67108869 := by
    intro i hi
    match i, hi with
    | 0, _ => omega
    | 1, _ => omega
    | 2, _ => omega
    | 3, _ => omega
    | 4, _ => omega
  have pr : ∀ i j, i < 5 → j < 5 → 0 ≤ a i * b j ∧ a i * b j < 4503600298459161 ∧ umul .u64 (a i) (b j) = a i * b j := fun i j hi hj => prod_lt (u i hi) (v j hj)
  have e00 := pr 0 0 (by decide) (by decide)
  have e01 := pr 0 1 (by decide) (by decide)
  have e02 := pr 0 2 (by decide) (by decide)
  have e03 := pr 0 3 (by decide) (by decide)
  have e04 := pr 0 4 (by decide) (by decide)
  have e10 := pr 1 0 (by decide) (by decide)
  have e11 := pr 1 1 (by decide) (by decide)
  have e12 := pr 1 2 (by decide) (by decide)
  have e13 := pr 1 3 (by decide) (by decide)
  have e14 := pr 1 4 (by decide) (by decide)
  have e20 := pr 2 0 (by decide) (by decide)
  have e21 := pr 2 1 (by decide) (by decide)
  have e22 := pr 2 2 (by decide) (by decide)
  have e23 := pr 2 3 (by decide) (by decide)
  have e24 := pr 2 4 (by decide) (by decide)
  have e30 := pr 3 0 (by decide) (by decide)
  have e31 := pr 3 1 (by decide) (by decide)
  have e32 := pr 3 2 (by decide) (by decide)
  have e33 := pr 3 3 (by decide) (by decide)
  have e34 := pr 3 4 (by decide) (by decide)
  have e40 := pr 4 0 (by decide) (by decide)
  have e41 := pr 4 1 (by decide) (by decide)
  have e42 := pr 4 2 (by decide) (by decide)
  have e43 := pr 4 3 (by decide) (by decide)
  have e44 := pr 4 4 (by decide) (by decide)
  have e : mulL a b = [a 0 * b 0 + 5 * (a 1 * b 4 + a 2 * b 3 + a 3 * b 2 + a 4 * b 1), a 0 * b 1 + a 1 * b 0 + 5 * (a 2 * b 4 + a 3 * b 3 + a 4 * b 2), a 0 * b 2 + a 1 * b 1 + a 2 * b 0 + 5 * (a 3 * b 4 + a 4 * b 3),
      a 0 * b 3 + a 1 * b 2 + a 2 * b 1 + a 3 * b 0 + 5 * (a 4 * b 4), a 0 * b 4 + a 1 * b 3 + a 2 * b 2 + a 3 * b 1 + a 4 * b 0] := by
    simp only [mulL, e00.2.2, e01.2.2, e02.2.2, e03.2.2, e04.2.2, e10.2.2, e11.2.2, e12.2.2, e13.2.2, e14.2.2, e20.2.2, e21.2.2, e22.2.2, e23.2.2, e24.2.2, e30.2.2, e31.2.2, e32.2.2, e33.2.2, e34.2.2, e40.2.2, e41.2.2, e42.2.2, e43.2.2, e44.2.2]
    have z : ∀ {x y : Int}, 0 ≤ x → x < 1000000000000000000 → 0 ≤ y → y < 1000000000000000000 → uadd .u64 x y = x + y := fun h1 h2 h3 h4 => uadd64 h1 h3 (by omega)
    have z5 : ∀ {x : Int}, 0 ≤ x → x < 1000000000000000000 → umul .u64 5 x = 5 * x := fun h1 h2 => umul64 (by decide) h1 (by omega)
    congr 1
    · rw [z (x := 0) (by omega) (by omega) e00.1 (by omega), z (x := 0) (by omega) (by omega) e14.1 (by omega), z (x := 0 + a 1 * b 4) (by omega) (by omega) e23.1 (by omega), z (x := 0 + a 1 * b 4 + a 2 * b 3) (by omega) (by omega) e32.1 (by omega), z (x := 0 + a 1 * b 4 + a 2 * b 3 + a 3 * b 2) (by omega) (by omega) e41.1 (by omega), z5 (by omega) (by omega), z (by omega) (by omega) (by omega) (by omega)]
      omega
    congr 1
    · rw [z (x := 0) (by omega) (by omega) e01.1 (by omega), z (x := 0 + a 0 * b 1) (by omega) (by omega) e10.1 (by omega), z (x := 0) (by omega) (by omega) e24.1 (by omega), z (x := 0 + a 2 * b 4) (by omega) (by omega) e33.1 (by omega), z (x := 0 + a 2 * b 4 + a 3 * b 3) (by omega) (by omega) e42.1 (by omega), z5 (by omega) (by omega), z (by omega) (by omega) (by omega) (by omega)]
      omega
    congr 1
    · rw [z (x := 0) (by omega) (by omega) e02.1 (by omega), z (x := 0 + a 0 * b 2) (by omega) (by omega) e11.1 (by omega), z (x := 0 + a 0 * b 2 + a 1 * b 1) (by omega) (by omega) e20.1 (by omega), z (x := 0) (by omega) (by omega) e34.1 (by omega), z (x := 0 + a 3 * b 4) (by omega) (by omega) e43.1 (by omega), z5 (by omega) (by omega), z (by omega) (by omega) (by omega) (by omega)]
      omega
    congr 1
    · rw [z (x := 0) (by omega) (by omega) e03.1 (by omega), z (x := 0 + a 0 * b 3) (by omega) (by omega) e12.1 (by omega), z (x := 0 + a 0 * b 3 + a 1 * b 2) (by omega) (by omega) e21.1 (by omega), z (x := 0 + a 0 * b 3 + a 1 * b 2 + a 2 * b 1) (by omega) (by omega) e30.1 (by omega), z (x := 0) (by omega) (by omega) e44.1 (by omega), z5 (by omega) (by omega), z (by omega) (by omega) (by omega) (by omega)]
      omega
    congr 1
    · rw [z (x := 0) (by omega) (by omega) e04.1 (by omega), z (x := 0 + a 0 * b 4) (by omega) (by omega) e13.1 (by omega), z (x := 0 + a 0 * b 4 + a 1 * b 3) (by omega) (by omega) e22.1 (by omega), z (x := 0 + a 0 * b 4 + a 1 * b 3 + a 2 * b 2) (by omega) (by omega) e31.1 (by omega), z (x := 0 + a 0 * b 4 + a 1 * b 3 + a 2 * b 2 + a 3 * b 1) (by omega) (by omega) e40.1 (by omega), z (by omega) (by omega) (by omega) (by omega)]
      omega
  rw [e]
  refine ⟨fun i hi => ?_, (a 1 * b 4 + a 2 * b 3 + a 3 * b 2 + a 4 * b 1) + 67108864 * (a 2 * b 4 + a 3 * b 3 + a 4 * b 2) + 4503599627370496 * (a 3 * b 4 + a 4 * b 3) + 302231454903657293676544 * (a 4 * b 4), ?_⟩
  · match i, hi with
    | 0, _ => simp only [atL, List.getD_cons_zero]; omega
    | 1, _ => simp only [atL, List.getD_cons_zero, List.getD_cons_succ]; omega
    | 2, _ => simp only [atL, List.getD_cons_zero, List.getD_cons_succ]; omega
    | 3, _ => simp only [atL, List.getD_cons_zero, List.getD_cons_succ]; omega
    | 4, _ => simp only [atL, List.getD_cons_zero, List.getD_cons_succ]; omega
  · simp only [V5, P5, atL, List.getD_cons_zero, List.getD_cons_succ]
    exact mul_ring ..
end Go.Vx

/- Plain law of the numbers' bytes. -/
namespace Go.Vx
open Go

/-! ### bits -/
theorem uor_add (k : Nat) {x y : Int} (hx : 0 ≤ x) (hk : x < ((2 ^ k : Nat) : Int)) (hy : 0 ≤ y) (hd : y % ((2 ^ k : Nat) : Int) = 0) : uor x y = x + y := by
  obtain ⟨a, rfl⟩ := Int.eq_ofNat_of_zero_le hx
  obtain ⟨b, rfl⟩ := Int.eq_ofNat_of_zero_le hy
  show Int.ofNat ((a : Int).toNat ||| (b : Int).toNat) = _
  simp only [Int.toNat_natCast, Int.ofNat_eq_natCast]
  have h1 : a < 2 ^ k := Int.ofNat_lt.1 hk
  have h2 : b % 2 ^ k = 0 := by
    have : ((b % 2 ^ k : Nat) : Int) = 0 := by rw [Int.natCast_emod]; exact hd
    exact_mod_cast this
  have h3 : b = 2 ^ k * (b / 2 ^ k) := by have := Nat.div_add_mod b (2 ^ k); omega
  have h4 := Nat.two_pow_add_eq_or_of_lt h1 (b / 2 ^ k)
  rw [Nat.or_comm, h3, ← h4, ← h3]
  omega
theorem ushlE (a : Int) (m : Nat) (ha : 0 ≤ a) : ushl .u64 a (m : Int) = a * ((2 ^ m : Nat) : Int) % 18446744073709551616 := by
  obtain ⟨x, rfl⟩ := Int.eq_ofNat_of_zero_le ha
  show Int.ofNat (((x : Int).toNat * 2 ^ (m : Int).toNat) % 18446744073709551616) = _
  simp only [Int.toNat_natCast, Int.ofNat_eq_natCast]
  rw [Int.natCast_emod, Int.natCast_mul]; rfl
theorem ucut8 {a : Int} (ha : 0 ≤ a) : ucut .u8 a = a % 256 := by
  obtain ⟨x, rfl⟩ := Int.eq_ofNat_of_zero_le ha
  show Int.ofNat ((x : Int).toNat % 256) = _
  simp only [Int.toNat_natCast, Int.ofNat_eq_natCast]
  omega

/-! ### words -/
def wordE (a b c d : Int) : Int := uor (uor (uor a (ushl .u64 b 8)) (ushl .u64 c 16)) (ushl .u64 d 24)
def Byte (x : Int) : Prop := 0 ≤ x ∧ x < 256
theorem word_spec {a b c d : Int} (ha : Byte a) (hb : Byte b) (hc : Byte c) (hd : Byte d) : wordE a b c d = a + 256 * b + 65536 * c + 16777216 * d := by
  unfold Byte at *
  unfold wordE
  rw [show ushl .u64 b 8 = b * 256 % 18446744073709551616 from ushlE b 8 hb.1, show ushl .u64 c 16 = c * 65536 % 18446744073709551616 from ushlE c 16 hc.1, show ushl .u64 d 24 = d * 16777216 % 18446744073709551616 from ushlE d 24 hd.1]
  rw [uor_add 8 (x := a) ha.1 (by show a < 256; omega) (by omega) (by show b * 256 % 18446744073709551616 % 256 = 0; omega)]
  rw [uor_add 16 (x := a + b * 256 % 18446744073709551616) (y := c * 65536 % 18446744073709551616) (by omega) (by show _ < (65536 : Int); omega) (by omega) (by show c * 65536 % 18446744073709551616 % 65536 = 0; omega)]
  rw [uor_add 24 (x := a + b * 256 % 18446744073709551616 + c * 65536 % 18446744073709551616) (y := d * 16777216 % 18446744073709551616) (by omega) (by show _ < (16777216 : Int); omega) (by omega) (by show d * 16777216 % 18446744073709551616 % 16777216 = 0; omega)]
  omega

def numL (f : Nat → Int) : List Int :=
  [umask (wordE (f 0) (f 1) (f 2) (f 3)) 67108863, umask (ushr (wordE (f 3) (f 4) (f 5) (f 6)) 2) 67108863, umask (ushr (wordE (f 6) (f 7) (f 8) (f 9)) 4) 67108863,
   ushr (wordE (f 9) (f 10) (f 11) (f 12)) 6, wordE (f 13) (f 14) (f 15) (f 16)]

/-- the number of bytes, the lowest first -/
def leN : Nat → (Nat → Int) → Nat → Int
  | 0, _, _ => 0
  | n + 1, f, i => f i + 256 * leN n f (i + 1)
def byteN (N : Int) (i : Nat) : Int := N / ((256 ^ i : Nat) : Int) % 256

theorem numL_spec {f : Nat → Int} (h : ∀ i, i < 17 → Byte (f i)) : Wide (numL f) ∧ V5 (atL (numL f)) = leN 17 f 0 := by
  have hh : ∀ i, i < 17 → 0 ≤ f i ∧ f i < 256 := h
  have h0 := hh 0 (by decide)
  have h1 := hh 1 (by decide)
  have h2 := hh 2 (by decide)
  have h3 := hh 3 (by decide)
  have h4 := hh 4 (by decide)
  have h5 := hh 5 (by decide)
  have h6 := hh 6 (by decide)
  have h7 := hh 7 (by decide)
  have h8 := hh 8 (by decide)
  have h9 := hh 9 (by decide)
  have h10 := hh 10 (by decide)
  have h11 := hh 11 (by decide)
  have h12 := hh 12 (by decide)
  have h13 := hh 13 (by decide)
  have h14 := hh 14 (by decide)
  have h15 := hh 15 (by decide)
  have h16 := hh 16 (by decide)
  have e0 : umask (wordE (f 0) (f 1) (f 2) (f 3)) 67108863 = f 0 + 256 * f 1 + 65536 * f 2 + 16777216 * (f 3 % 4) := by
    rw [word_spec h0 h1 h2 h3, umask26 (by omega)]; omega
  have e1 : umask (ushr (wordE (f 3) (f 4) (f 5) (f 6)) 2) 67108863 = f 3 / 4 + 64 * f 4 + 16384 * f 5 + 4194304 * (f 6 % 16) := by
    rw [word_spec h3 h4 h5 h6, show ushr (f 3 + 256 * f 4 + 65536 * f 5 + 16777216 * f 6) 2 = (f 3 + 256 * f 4 + 65536 * f 5 + 16777216 * f 6) / 4 from ushrE _ 2 (by omega), umask26 (by omega)]; omega
  have e2 : umask (ushr (wordE (f 6) (f 7) (f 8) (f 9)) 4) 67108863 = f 6 / 16 + 16 * f 7 + 4096 * f 8 + 1048576 * (f 9 % 64) := by
    rw [word_spec h6 h7 h8 h9, show ushr (f 6 + 256 * f 7 + 65536 * f 8 + 16777216 * f 9) 4 = (f 6 + 256 * f 7 + 65536 * f 8 + 16777216 * f 9) / 16 from ushrE _ 4 (by omega), umask26 (by omega)]; omega
  have e3 : ushr (wordE (f 9) (f 10) (f 11) (f 12)) 6 = f 9 / 64 + 4 * f 10 + 1024 * f 11 + 262144 * f 12 := by
    rw [word_spec h9 h10 h11 h12, show ushr (f 9 + 256 * f 10 + 65536 * f 11 + 16777216 * f 12) 6 = (f 9 + 256 * f 10 + 65536 * f 11 + 16777216 * f 12) / 64 from ushrE _ 6 (by omega)]; omega
  have e4 : wordE (f 13) (f 14) (f 15) (f 16) = f 13 + 256 * f 14 + 65536 * f 15 + 16777216 * f 16 := word_spec h13 h14 h15 h16
  have e : numL f = [f 0 + 256 * f 1 + 65536 * f 2 + 16777216 * (f 3 % 4), f 3 / 4 + 64 * f 4 + 16384 * f 5 + 4194304 * (f 6 % 16), f 6 / 16 + 16 * f 7 + 4096 * f 8 + 1048576 * (f 9 % 64), f 9 / 64 + 4 * f 10 + 1024 * f 11 + 262144 * f 12, f 13 + 256 * f 14 + 65536 * f 15 + 16777216 * f 16] := by
    unfold numL; rw [e0, e1, e2, e3, e4]
  rw [e]
  refine ⟨fun i hi => ?_, ?_⟩
  · match i, hi with
    | 0, _ => simp only [atL, List.getD_cons_zero]; omega
    | 1, _ => simp only [atL, List.getD_cons_zero, List.getD_cons_succ]; omega
    | 2, _ => simp only [atL, List.getD_cons_zero, List.getD_cons_succ]; omega
    | 3, _ => simp only [atL, List.getD_cons_zero, List.getD_cons_succ]; omega
    | 4, _ => simp only [atL, List.getD_cons_zero, List.getD_cons_succ]; omega
  · simp only [V5, leN, atL, List.getD_cons_zero, List.getD_cons_succ, Nat.reduceAdd]
    omega

/-! ### the least -/
def leastL (t : Nat → Int) : List Int :=
  let g0 := uadd .u64 (t 0) 5
  let g1 := uadd .u64 (t 1) (ushr g0 26)
  let g2 := uadd .u64 (t 2) (ushr g1 26)
  let g3 := uadd .u64 (t 3) (ushr g2 26)
  let g4 := uadd .u64 (t 4) (ushr g3 26)
  let o := ushr g4 26
  [if o % 2 = 1 then umask g0 67108863 else t 0, if o % 2 = 1 then umask g1 67108863 else t 1, if o % 2 = 1 then umask g2 67108863 else t 2, if o % 2 = 1 then umask g3 67108863 else t 3, if o % 2 = 1 then umask g4 67108863 else t 4]
def leastN (la : List Int) (i : Nat) : Int := (leastL (settledN la)).getD i 0

/-- below 2^26 all -/
def Full (a : Nat → Int) : Prop := (0 ≤ a 0 ∧ a 0 < 67108864) ∧ (0 ≤ a 1 ∧ a 1 < 67108864) ∧ (0 ≤ a 2 ∧ a 2 < 67108864) ∧ (0 ≤ a 3 ∧ a 3 < 67108864) ∧ (0 ≤ a 4 ∧ a 4 < 67108864)

theorem pass_full {a : Nat → Int} (h : Full a) : passL a = [a 0, a 1, a 2, a 3, a 4] := by
  obtain ⟨h0, h1, h2, h3, h4⟩ := h
  obtain ⟨c0, c1, c2, c3, c4, k0, k1, k2, k3, k4, e⟩ := pass_spec (a := a) (fun i hi => by
    match i, hi with
    | 0, _ => omega
    | 1, _ => omega
    | 2, _ => omega
    | 3, _ => omega
    | 4, _ => omega)
  have z0 : c0 = 0 := by omega
  have z1 : c1 = 0 := by omega
  have z2 : c2 = 0 := by omega
  have z3 : c3 = 0 := by omega
  have z4 : c4 = 0 := by omega
  rw [e, z0, z1, z2, z3, z4]
  congr 1
  · omega
  congr 1
  · omega
  congr 1
  · omega
  congr 1
  · omega
  congr 1
  omega

theorem settled_full {la : List Int} (h : Sett la) : Full (settledN la) := by
  have hw := h.wide
  obtain ⟨h0, h1, h2, h3, h4⟩ := h
  obtain ⟨c0, c1, c2, c3, c4, k0, k1, k2, k3, k4, e⟩ := pass_spec hw
  obtain ⟨b, hb⟩ : ∃ b, b = atL (passL (atL la)) := ⟨_, rfl⟩
  have b0 : b 0 = atL la 0 % 67108864 + 5 * c4 := by rw [hb, e]; rfl
  have b1 : b 1 = (atL la 1 + c0) % 67108864 := by rw [hb, e]; rfl
  have b2 : b 2 = (atL la 2 + c1) % 67108864 := by rw [hb, e]; rfl
  have b3 : b 3 = (atL la 3 + c2) % 67108864 := by rw [hb, e]; rfl
  have b4 : b 4 = (atL la 4 + c3) % 67108864 := by rw [hb, e]; rfl
  have q0 : 0 ≤ c0 ∧ c0 ≤ 1 := by omega
  have q1 : 0 ≤ c1 ∧ c1 ≤ c0 := by omega
  have q2 : 0 ≤ c2 ∧ c2 ≤ c1 := by omega
  have q3 : 0 ≤ c3 ∧ c3 ≤ c2 := by omega
  have q4 : 0 ≤ c4 ∧ c4 ≤ c3 := by omega
  have r0 : 0 ≤ b 0 ∧ b 0 < 67108864 := by
    rw [b0]
    clear b0 b1 b2 b3 b4 k1 k2 k3 k4 e hb
    omega
  have hF : Full b := ⟨r0, by omega, by omega, by omega, by omega⟩
  have s : ∀ i, settledN la i = (passL b).getD i 0 := fun i => by rw [hb]; rfl
  have e' := pass_full hF
  have s0 : settledN la 0 = b 0 := by rw [s, e']; rfl
  have s1 : settledN la 1 = b 1 := by rw [s, e']; rfl
  have s2 : settledN la 2 = b 2 := by rw [s, e']; rfl
  have s3 : settledN la 3 = b 3 := by rw [s, e']; rfl
  have s4 : settledN la 4 = b 4 := by rw [s, e']; rfl
  unfold Full
  rw [s0, s1, s2, s3, s4]
  exact hF

theorem least_spec {t : Nat → Int} (h : Full t) : Full (atL (leastL t)) ∧ 0 ≤ V5 (atL (leastL t)) ∧ V5 (atL (leastL t)) < P5 ∧ (V5 (atL (leastL t)) = V5 t ∨ V5 (atL (leastL t)) = V5 t - P5) := by
  obtain ⟨h0, h1, h2, h3, h4⟩ := h
  have e0 : uadd .u64 (t 0) 5 = t 0 + 5 := uadd64 h0.1 (by decide) (by omega)
  obtain ⟨c0, hc0⟩ : ∃ c, c = (t 0 + 5) / 67108864 := ⟨_, rfl⟩
  have f0 : ushr (t 0 + 5) 26 = c0 := by rw [hc0]; exact ushr26 (by omega)
  have q0 : 0 ≤ c0 ∧ c0 ≤ 1 := by omega
  have e1 : uadd .u64 (t 1) c0 = t 1 + c0 := uadd64 h1.1 q0.1 (by omega)
  obtain ⟨c1, hc1⟩ : ∃ c, c = (t 1 + c0) / 67108864 := ⟨_, rfl⟩
  have f1 : ushr (t 1 + c0) 26 = c1 := by rw [hc1]; exact ushr26 (by omega)
  have q1 : 0 ≤ c1 ∧ c1 ≤ 1 := by omega
  have e2 : uadd .u64 (t 2) c1 = t 2 + c1 := uadd64 h2.1 q1.1 (by omega)
  obtain ⟨c2, hc2⟩ : ∃ c, c = (t 2 + c1) / 67108864 := ⟨_, rfl⟩
  have f2 : ushr (t 2 + c1) 26 = c2 := by rw [hc2]; exact ushr26 (by omega)
  have q2 : 0 ≤ c2 ∧ c2 ≤ 1 := by omega
  have e3 : uadd .u64 (t 3) c2 = t 3 + c2 := uadd64 h3.1 q2.1 (by omega)
  obtain ⟨c3, hc3⟩ : ∃ c, c = (t 3 + c2) / 67108864 := ⟨_, rfl⟩
  have f3 : ushr (t 3 + c2) 26 = c3 := by rw [hc3]; exact ushr26 (by omega)
  have q3 : 0 ≤ c3 ∧ c3 ≤ 1 := by omega
  have e4 : uadd .u64 (t 4) c3 = t 4 + c3 := uadd64 h4.1 q3.1 (by omega)
  obtain ⟨c4, hc4⟩ : ∃ c, c = (t 4 + c3) / 67108864 := ⟨_, rfl⟩
  have f4 : ushr (t 4 + c3) 26 = c4 := by rw [hc4]; exact ushr26 (by omega)
  have q4 : 0 ≤ c4 ∧ c4 ≤ 1 := by omega
  obtain ⟨m0, hm0⟩ : ∃ m, m = t 0 + 5 - 67108864 * c0 := ⟨_, rfl⟩
  obtain ⟨m1, hm1⟩ : ∃ m, m = t 1 + c0 - 67108864 * c1 := ⟨_, rfl⟩
  obtain ⟨m2, hm2⟩ : ∃ m, m = t 2 + c1 - 67108864 * c2 := ⟨_, rfl⟩
  obtain ⟨m3, hm3⟩ : ∃ m, m = t 3 + c2 - 67108864 * c3 := ⟨_, rfl⟩
  obtain ⟨m4, hm4⟩ : ∃ m, m = t 4 + c3 - 67108864 * c4 := ⟨_, rfl⟩
  have b0 : 0 ≤ m0 ∧ m0 < 67108864 := by omega
  have b1 : 0 ≤ m1 ∧ m1 < 67108864 := by omega
  have b2 : 0 ≤ m2 ∧ m2 < 67108864 := by omega
  have b3 : 0 ≤ m3 ∧ m3 < 67108864 := by omega
  have b4 : 0 ≤ m4 ∧ m4 < 67108864 := by omega
  have hv : t 0 + 67108864 * t 1 + 4503599627370496 * t 2 + 302231454903657293676544 * t 3 + 20282409603651670423947251286016 * t 4 + 5 = m0 + 67108864 * m1 + 4503599627370496 * m2 + 302231454903657293676544 * m3 + 20282409603651670423947251286016 * m4 + 1361129467683753853853498429727072845824 * c4 := by
    clear hc0 hc1 hc2 hc3 hc4 b0 b1 b2 b3 b4 h0 h1 h2 h3 h4 q0 q1 q2 q3 q4 e0 e1 e2 e3 e4 f0 f1 f2 f3 f4; omega
  by_cases ho : c4 = 1
  · have ho' : c4 % 2 = 1 := by omega
    have r0 : (t 0 + 5) % 67108864 = m0 := by omega
    have r1 : (t 1 + c0) % 67108864 = m1 := by omega
    have r2 : (t 2 + c1) % 67108864 = m2 := by omega
    have r3 : (t 3 + c2) % 67108864 = m3 := by omega
    have r4 : (t 4 + c3) % 67108864 = m4 := by omega
    have e : leastL t = [(t 0 + 5) % 67108864, (t 1 + c0) % 67108864, (t 2 + c1) % 67108864, (t 3 + c2) % 67108864, (t 4 + c3) % 67108864] := by
      simp only [leastL, e0, f0, e1, f1, e2, f2, e3, f3, e4, f4, ho', if_true, umask26 (a := t 0 + 5) (by omega), umask26 (a := t 1 + c0) (by omega), umask26 (a := t 2 + c1) (by omega), umask26 (a := t 3 + c2) (by omega), umask26 (a := t 4 + c3) (by omega)]
    rw [e, r0, r1, r2, r3, r4]
    simp only [Full, V5, P5, atL, List.getD_cons_zero, List.getD_cons_succ]
    clear hc0 hc1 hc2 hc3 hc4 e0 e1 e2 e3 e4 f0 f1 f2 f3 f4 e r0 r1 r2 r3 r4 hm0 hm1 hm2 hm3 hm4
    refine ⟨by omega, by omega, by omega, ?_⟩
    right; omega
  · have ho' : ¬ (c4 % 2 = 1) := by omega
    have e : leastL t = [t 0, t 1, t 2, t 3, t 4] := by
      simp only [leastL, e0, f0, e1, f1, e2, f2, e3, f3, e4, f4, ho', if_false]
    rw [e]
    simp only [Full, V5, P5, atL, List.getD_cons_zero, List.getD_cons_succ]
    have : c4 = 0 := by omega
    clear hc0 hc1 hc2 hc3 hc4 e0 e1 e2 e3 e4 f0 f1 f2 f3 f4 e hm0 hm1 hm2 hm3 hm4
    exact ⟨⟨h0, h1, h2, h3, h4⟩, by omega, by omega, by simp⟩

theorem emod_of {N M p : Int} (h0 : 0 ≤ M) (h1 : M < p) (h : ∃ q, M = N - p * q) : N % p = M := by
  obtain ⟨q, h⟩ := h
  have : N = M + p * q := by omega
  rw [this, Int.add_mul_emod_self_left, Int.emod_eq_of_lt h0 h1]

theorem leastN_spec {la : List Int} (h : Sett la) : Full (leastN la) ∧ V5 (leastN la) = V5 (atL la) % P5 := by
  have hf := settled_full h
  obtain ⟨g1, g2, g3, g4⟩ := least_spec hf
  obtain ⟨_, q, hq⟩ := settled_spec h.wide
  refine ⟨g1, (emod_of g2 g3 ?_).symm⟩
  rcases g4 with e | e
  · exact ⟨q, by rw [e, hq]⟩
  · refine ⟨q + 1, ?_⟩
    show V5 (atL (leastL (settledN la))) = _
    rw [e, hq, Int.mul_add]; omega

def bytesL (r : Nat → Int) : List Int :=
  let lo := uor (uor (r 0) (ushl .u64 (r 1) 26)) (ushl .u64 (r 2) 52)
  let hi := uor (uor (ushr (r 2) 12) (ushl .u64 (r 3) 14)) (ushl .u64 (r 4) 40)
  [ucut .u8 (ushr lo 0), ucut .u8 (ushr lo 8), ucut .u8 (ushr lo 16), ucut .u8 (ushr lo 24), ucut .u8 (ushr lo 32), ucut .u8 (ushr lo 40), ucut .u8 (ushr lo 48), ucut .u8 (ushr lo 56),
   ucut .u8 (ushr hi 0), ucut .u8 (ushr hi 8), ucut .u8 (ushr hi 16), ucut .u8 (ushr hi 24), ucut .u8 (ushr hi 32), ucut .u8 (ushr hi 40), ucut .u8 (ushr hi 48), ucut .u8 (ushr hi 56),
   ucut .u8 (ushr (r 4) 24)]
def bytesN (la : List Int) (i : Nat) : Int := (bytesL (leastN la)).getD i 0

theorem cut_shr {a : Int} (m : Nat) (ha : 0 ≤ a) : ucut .u8 (ushr a (m : Int)) = a / ((2 ^ m : Nat) : Int) % 256 := by
  rw [ushrE a m ha, ucut8 (Int.ediv_nonneg ha (by exact Int.natCast_nonneg _))]

theorem bytes_spec {r : Nat → Int} (h : Full r) : bytesL r = listF 17 (byteN (V5 r)) 0 := by
  obtain ⟨h0, h1, h2, h3, h4⟩ := h
  have s1 : ushl .u64 (r 1) 26 = r 1 * 67108864 := by rw [show ushl .u64 (r 1) 26 = r 1 * 67108864 % 18446744073709551616 from ushlE _ 26 h1.1]; omega
  have s2 : ushl .u64 (r 2) 52 = (r 2 % 4096) * 4503599627370496 := by rw [show ushl .u64 (r 2) 52 = r 2 * 4503599627370496 % 18446744073709551616 from ushlE _ 52 h2.1]; omega
  have s3 : ushl .u64 (r 3) 14 = r 3 * 16384 := by rw [show ushl .u64 (r 3) 14 = r 3 * 16384 % 18446744073709551616 from ushlE _ 14 h3.1]; omega
  have s4 : ushl .u64 (r 4) 40 = (r 4 % 16777216) * 1099511627776 := by rw [show ushl .u64 (r 4) 40 = r 4 * 1099511627776 % 18446744073709551616 from ushlE _ 40 h4.1]; omega
  have s5 : ushr (r 2) 12 = r 2 / 4096 := ushrE _ 12 h2.1
  obtain ⟨N, hN⟩ : ∃ N, N = V5 r := ⟨_, rfl⟩
  have hlo : uor (uor (r 0) (ushl .u64 (r 1) 26)) (ushl .u64 (r 2) 52) = N % 18446744073709551616 := by
    rw [s1, s2, uor_add 26 h0.1 (by show r 0 < 67108864; omega) (by omega) (by show r 1 * 67108864 % 67108864 = 0; omega),
      uor_add 52 (by omega) (by show _ < (4503599627370496 : Int); omega) (by omega) (by show _ % (4503599627370496 : Int) = 0; omega), hN]
    simp only [V5]; omega
  have hhi : uor (uor (ushr (r 2) 12) (ushl .u64 (r 3) 14)) (ushl .u64 (r 4) 40) = N / 18446744073709551616 % 18446744073709551616 := by
    rw [s3, s4, s5, uor_add 14 (x := r 2 / 4096) (y := r 3 * 16384) (by omega) (by show _ < (16384 : Int); omega) (by omega) (by show r 3 * 16384 % 16384 = 0; omega),
      uor_add 40 (by omega) (by show _ < (1099511627776 : Int); omega) (by omega) (by show _ % (1099511627776 : Int) = 0; omega), hN]
    simp only [V5]; omega
  have h16 : ucut .u8 (ushr (r 4) 24) = N / 340282366920938463463374607431768211456 % 256 := by
    rw [show ucut .u8 (ushr (r 4) 24) = r 4 / 16777216 % 256 from cut_shr 24 h4.1, hN]
    simp only [V5]; omega
  have n0 : 0 ≤ N := by rw [hN]; simp only [V5]; omega
  have g0 : 0 ≤ N % 18446744073709551616 := by omega
  have g1 : 0 ≤ N / 18446744073709551616 % 18446744073709551616 := by omega
  rw [← hN]
  simp only [bytesL, hlo, hhi, h16]
  rw [show ucut .u8 (ushr (N % 18446744073709551616) 0) = N % 18446744073709551616 / 1 % 256 from cut_shr 0 g0, show ucut .u8 (ushr (N % 18446744073709551616) 8) = N % 18446744073709551616 / 256 % 256 from cut_shr 8 g0,
    show ucut .u8 (ushr (N % 18446744073709551616) 16) = N % 18446744073709551616 / 65536 % 256 from cut_shr 16 g0, show ucut .u8 (ushr (N % 18446744073709551616) 24) = N % 18446744073709551616 / 16777216 % 256 from cut_shr 24 g0,
    show ucut .u8 (ushr (N % 18446744073709551616) 32) = N % 18446744073709551616 / 4294967296 % 256 from cut_shr 32 g0, show ucut .u8 (ushr (N % 18446744073709551616) 40) = N % 18446744073709551616 / 1099511627776 % 256 from cut_shr 40 g0,
    show ucut .u8 (ushr (N % 18446744073709551616) 48) = N % 18446744073709551616 / 281474976710656 % 256 from cut_shr 48 g0, show ucut .u8 (ushr (N % 18446744073709551616) 56) = N % 18446744073709551616 / 72057594037927936 % 256 from cut_shr 56 g0,
    show ucut .u8 (ushr (N / 18446744073709551616 % 18446744073709551616) 0) = N / 18446744073709551616 % 18446744073709551616 / 1 % 256 from cut_shr 0 g1, show ucut .u8 (ushr (N / 18446744073709551616 % 18446744073709551616) 8) = N / 18446744073709551616 % 18446744073709551616 / 256 % 256 from cut_shr 8 g1,
    show ucut .u8 (ushr (N / 18446744073709551616 % 18446744073709551616) 16) = N / 18446744073709551616 % 18446744073709551616 / 65536 % 256 from cut_shr 16 g1, show ucut .u8 (ushr (N / 18446744073709551616 % 18446744073709551616) 24) = N / 18446744073709551616 % 18446744073709551616 / 16777216 % 256 from cut_shr 24 g1,
    show ucut .u8 (ushr (N / 18446744073709551616 % 18446744073709551616) 32) = N / 18446744073709551616 % 18446744073709551616 / 4294967296 % 256 from cut_shr 32 g1, show ucut .u8 (ushr (N / 18446744073709551616 % 18446744073709551616) 40) = N / 18446744073709551616 % 18446744073709551616 / 1099511627776 % 256 from cut_shr 40 g1,
    show ucut .u8 (ushr (N / 18446744073709551616 % 18446744073709551616) 48) = N / 18446744073709551616 % 18446744073709551616 / 281474976710656 % 256 from cut_shr 48 g1, show ucut .u8 (ushr (N / 18446744073709551616 % 18446744073709551616) 56) = N / 18446744073709551616 % 18446744073709551616 / 72057594037927936 % 256 from cut_shr 56 g1]
  show _ = [N / 1 % 256, N / 256 % 256, N / 65536 % 256, N / 16777216 % 256, N / 4294967296 % 256, N / 1099511627776 % 256, N / 281474976710656 % 256, N / 72057594037927936 % 256,
    N / 18446744073709551616 % 256, N / 4722366482869645213696 % 256, N / 1208925819614629174706176 % 256, N / 309485009821345068724781056 % 256, N / 79228162514264337593543950336 % 256, N / 20282409603651670423947251286016 % 256, N / 5192296858534827628530496329220096 % 256, N / 1329227995784915872903807060280344576 % 256, N / 340282366920938463463374607431768211456 % 256]
  clear hlo hhi h16 hN s1 s2 s3 s4 s5 h0 h1 h2 h3 h4
  simp only [List.cons.injEq, and_true]
  refine ⟨?_, ?_, ?_, ?_, ?_, ?_, ?_, ?_, ?_, ?_, ?_, ?_, ?_, ?_, ?_, ?_⟩ <;> omega

theorem bytesN_spec {la : List Int} (h : Sett la) : listF 17 (bytesN la) 0 = listF 17 (byteN (V5 (atL la) % P5)) 0 := by
  obtain ⟨g1, g2⟩ := leastN_spec h
  rw [← g2, ← bytes_spec g1]
  rfl

/-! ### there and back -/
theorem leN_nonneg : ∀ (n : Nat) {f : Nat → Int} (i : Nat), (∀ j, j < n → Byte (f (i + j))) → 0 ≤ leN n f i ∧ leN n f i < ((256 ^ n : Nat) : Int)
  | 0, f, i, h => by simp [leN]
  | n + 1, f, i, h => by
    have h0 : 0 ≤ f i ∧ f i < 256 := h 0 (by omega)
    have h1 := leN_nonneg n (f := f) (i + 1) (fun j hj => by rw [show i + 1 + j = i + (j + 1) by omega]; exact h (j + 1) (by omega))
    simp only [leN, Nat.pow_succ]
    omega

theorem byte_leN : ∀ (n : Nat) {f : Nat → Int} (i : Nat), (∀ j, j < n → Byte (f (i + j))) → ∀ j, j < n → byteN (leN n f i) j = f (i + j)
  | 0, f, i, h, j, hj => by omega
  | n + 1, f, i, h, j, hj => by
    have h0 : 0 ≤ f i ∧ f i < 256 := h 0 (by omega)
    have hr : ∀ j, j < n → Byte (f (i + 1 + j)) := fun j hj => by rw [show i + 1 + j = i + (j + 1) by omega]; exact h (j + 1) (by omega)
    cases j with
    | zero => show (f i + 256 * leN n f (i + 1)) / 1 % 256 = f i; omega
    | succ j =>
      have ih := byte_leN n (i + 1) hr j (by omega)
      rw [show i + (j + 1) = i + 1 + j by omega, ← ih]
      simp only [byteN, leN]
      have e : ((256 ^ (j + 1) : Nat) : Int) = 256 * ((256 ^ j : Nat) : Int) := by rw [Nat.pow_succ]; omega
      rw [e, ← Int.ediv_ediv_of_nonneg (by decide), show (f i + 256 * leN n f (i + 1)) / 256 = leN n f (i + 1) by omega]

theorem leN_byte : ∀ (n : Nat) {N : Int} (i : Nat), leN n (byteN N) i = N / ((256 ^ i : Nat) : Int) % ((256 ^ n : Nat) : Int)
  | 0, N, i => by simp [leN, Int.emod_one]
  | n + 1, N, i => by
    simp only [leN, leN_byte n (i + 1)]
    have e : ((256 ^ (i + 1) : Nat) : Int) = ((256 ^ i : Nat) : Int) * 256 := by rw [Nat.pow_succ]; omega
    have e2 : ((256 ^ (n + 1) : Nat) : Int) = 256 * ((256 ^ n : Nat) : Int) := by rw [Nat.pow_succ]; omega
    rw [e, ← Int.ediv_ediv_of_nonneg (by exact Int.natCast_nonneg _), e2]
    simp only [byteN]
    generalize N / ((256 ^ i : Nat) : Int) = M
    have hK : (0 : Int) < ((256 ^ n : Nat) : Int) := by exact_mod_cast Nat.pow_pos (by decide)
    generalize ((256 ^ n : Nat) : Int) = K at hK
    have h1 := Int.emod_nonneg (M / 256) (show K ≠ 0 by omega)
    have h2 := Int.emod_lt_of_pos (M / 256) hK
    have h3 := Int.mul_ediv_add_emod (M / 256) K
    refine (emod_of (by omega) (by omega) ⟨M / 256 / K, ?_⟩).symm
    have h4 : 256 * K * (M / 256 / K) = 256 * (K * (M / 256 / K)) := Int.mul_assoc _ _ _
    rw [h4]
    omega

/-! ### the sum of bytes -/
def word8 (f : Nat → Int) (i : Nat) : Int :=
  uor (uor (uor (uor (uor (uor (uor (uor 0 (ushl .u64 (f i) 0)) (ushl .u64 (f (i + 1)) 8)) (ushl .u64 (f (i + 2)) 16)) (ushl .u64 (f (i + 3)) 24)) (ushl .u64 (f (i + 4)) 32)) (ushl .u64 (f (i + 5)) 40)) (ushl .u64 (f (i + 6)) 48)) (ushl .u64 (f (i + 7)) 56)
theorem word8_spec {f : Nat → Int} {i : Nat} (h : ∀ j, j < 8 → Byte (f (i + j))) : word8 f i = leN 8 f i := by
  have hh : ∀ j, j < 8 → 0 ≤ f (i + j) ∧ f (i + j) < 256 := h
  have h0 := hh 0 (by decide)
  have h1 := hh 1 (by decide)
  have h2 := hh 2 (by decide)
  have h3 := hh 3 (by decide)
  have h4 := hh 4 (by decide)
  have h5 := hh 5 (by decide)
  have h6 := hh 6 (by decide)
  have h7 := hh 7 (by decide)
  simp only [Nat.add_zero] at h0
  simp only [word8, leN, Nat.add_assoc, Nat.reduceAdd]
  generalize f i = a0 at *
  generalize f (i + 1) = a1 at *
  generalize f (i + 2) = a2 at *
  generalize f (i + 3) = a3 at *
  generalize f (i + 4) = a4 at *
  generalize f (i + 5) = a5 at *
  generalize f (i + 6) = a6 at *
  generalize f (i + 7) = a7 at *
  have s0 : ushl .u64 a0 0 = a0 := by rw [show ushl .u64 a0 0 = a0 * 1 % 18446744073709551616 from ushlE _ 0 h0.1]; omega
  have s1 : ushl .u64 a1 8 = a1 * 256 := by rw [show ushl .u64 a1 8 = a1 * 256 % 18446744073709551616 from ushlE _ 8 h1.1]; omega
  have s2 : ushl .u64 a2 16 = a2 * 65536 := by rw [show ushl .u64 a2 16 = a2 * 65536 % 18446744073709551616 from ushlE _ 16 h2.1]; omega
  have s3 : ushl .u64 a3 24 = a3 * 16777216 := by rw [show ushl .u64 a3 24 = a3 * 16777216 % 18446744073709551616 from ushlE _ 24 h3.1]; omega
  have s4 : ushl .u64 a4 32 = a4 * 4294967296 := by rw [show ushl .u64 a4 32 = a4 * 4294967296 % 18446744073709551616 from ushlE _ 32 h4.1]; omega
  have s5 : ushl .u64 a5 40 = a5 * 1099511627776 := by rw [show ushl .u64 a5 40 = a5 * 1099511627776 % 18446744073709551616 from ushlE _ 40 h5.1]; omega
  have s6 : ushl .u64 a6 48 = a6 * 281474976710656 := by rw [show ushl .u64 a6 48 = a6 * 281474976710656 % 18446744073709551616 from ushlE _ 48 h6.1]; omega
  have s7 : ushl .u64 a7 56 = a7 * 72057594037927936 := by rw [show ushl .u64 a7 56 = a7 * 72057594037927936 % 18446744073709551616 from ushlE _ 56 h7.1]; omega
  rw [s0, s1, s2, s3, s4, s5, s6, s7]
  rw [uor_add 0 (x := 0) (y := a0) (by decide) (by show (0 : Int) < 1; decide) h0.1 (by show a0 % 1 = 0; omega), Int.zero_add,
    uor_add 8 (x := a0) (y := a1 * 256) (by omega) (by show _ < (256 : Int); omega) (by omega) (by show _ % (256 : Int) = 0; omega),
    uor_add 16 (x := a0 + a1 * 256) (y := a2 * 65536) (by omega) (by show _ < (65536 : Int); omega) (by omega) (by show _ % (65536 : Int) = 0; omega),
    uor_add 24 (x := a0 + a1 * 256 + a2 * 65536) (y := a3 * 16777216) (by omega) (by show _ < (16777216 : Int); omega) (by omega) (by show _ % (16777216 : Int) = 0; omega),
    uor_add 32 (x := a0 + a1 * 256 + a2 * 65536 + a3 * 16777216) (y := a4 * 4294967296) (by omega) (by show _ < (4294967296 : Int); omega) (by omega) (by show _ % (4294967296 : Int) = 0; omega),
    uor_add 40 (x := a0 + a1 * 256 + a2 * 65536 + a3 * 16777216 + a4 * 4294967296) (y := a5 * 1099511627776) (by omega) (by show _ < (1099511627776 : Int); omega) (by omega) (by show _ % (1099511627776 : Int) = 0; omega),
    uor_add 48 (x := a0 + a1 * 256 + a2 * 65536 + a3 * 16777216 + a4 * 4294967296 + a5 * 1099511627776) (y := a6 * 281474976710656) (by omega) (by show _ < (281474976710656 : Int); omega) (by omega) (by show _ % (281474976710656 : Int) = 0; omega),
    uor_add 56 (x := a0 + a1 * 256 + a2 * 65536 + a3 * 16777216 + a4 * 4294967296 + a5 * 1099511627776 + a6 * 281474976710656) (y := a7 * 72057594037927936) (by omega) (by show _ < (72057594037927936 : Int); omega) (by omega) (by show _ % (72057594037927936 : Int) = 0; omega)]
  omega

def sumL (f s : Nat → Int) : List Int :=
  let lo := adcS (word8 f 0) (word8 s 0) 0
  let hi := adcS (word8 f 8) (word8 s 8) (adcC (word8 f 0) (word8 s 0) 0)
  [ucut .u8 (ushr lo 0), ucut .u8 (ushr lo 8), ucut .u8 (ushr lo 16), ucut .u8 (ushr lo 24), ucut .u8 (ushr lo 32), ucut .u8 (ushr lo 40), ucut .u8 (ushr lo 48), ucut .u8 (ushr lo 56),
   ucut .u8 (ushr hi 0), ucut .u8 (ushr hi 8), ucut .u8 (ushr hi 16), ucut .u8 (ushr hi 24), ucut .u8 (ushr hi 32), ucut .u8 (ushr hi 40), ucut .u8 (ushr hi 48), ucut .u8 (ushr hi 56)]
def sumN (la lb : List Int) (i : Nat) : Int := (sumL (bytesN la) (atL lb)).getD i 0

theorem adcS_eq {x y c : Int} (hx : 0 ≤ x) (hy : 0 ≤ y) (hc : 0 ≤ c) : adcS x y c = (x + y + c) % 18446744073709551616 := by
  obtain ⟨x, rfl⟩ := Int.eq_ofNat_of_zero_le hx
  obtain ⟨y, rfl⟩ := Int.eq_ofNat_of_zero_le hy
  obtain ⟨c, rfl⟩ := Int.eq_ofNat_of_zero_le hc
  show Int.ofNat (((x : Int).toNat + (y : Int).toNat + (c : Int).toNat) % 18446744073709551616) = _
  simp only [Int.toNat_natCast, Int.ofNat_eq_natCast]
  omega
theorem adcC_eq {x y c : Int} (hx : 0 ≤ x) (hy : 0 ≤ y) (hc : 0 ≤ c) : adcC x y c = (x + y + c) / 18446744073709551616 := by
  obtain ⟨x, rfl⟩ := Int.eq_ofNat_of_zero_le hx
  obtain ⟨y, rfl⟩ := Int.eq_ofNat_of_zero_le hy
  obtain ⟨c, rfl⟩ := Int.eq_ofNat_of_zero_le hc
  show Int.ofNat (((x : Int).toNat + (y : Int).toNat + (c : Int).toNat) / 18446744073709551616) = _
  simp only [Int.toNat_natCast, Int.ofNat_eq_natCast]
  omega
theorem word8_lt {f : Nat → Int} {i : Nat} (h : ∀ j, j < 8 → Byte (f (i + j))) : 0 ≤ word8 f i ∧ word8 f i < 18446744073709551616 := by
  rw [word8_spec h]; exact leN_nonneg 8 i h
theorem carry_le {f s : Nat → Int} (hf : ∀ j, j < 8 → Byte (f (0 + j))) (hs : ∀ j, j < 8 → Byte (s (0 + j))) : (adcC (word8 f 0) (word8 s 0) 0).toNat ≤ 1 := by
  have h1 := word8_lt hf
  have h2 := word8_lt hs
  rw [adcC_eq h1.1 h2.1 (by decide)]
  omega

theorem leN_add : ∀ (n m : Nat) (f : Nat → Int) (i : Nat), leN (n + m) f i = leN n f i + ((256 ^ n : Nat) : Int) * leN m f (i + n)
  | 0, m, f, i => by simp [leN]
  | n + 1, m, f, i => by
    rw [show n + 1 + m = (n + m) + 1 by omega]
    simp only [leN, leN_add n m f (i + 1)]
    rw [show i + 1 + n = i + (n + 1) by omega, Nat.pow_succ]
    have : (((256 ^ n * 256 : Nat)) : Int) = 256 * ((256 ^ n : Nat) : Int) := by omega
    rw [this, Int.mul_assoc]; omega

theorem sum_spec {f s : Nat → Int} (hf : ∀ j, j < 16 → Byte (f j)) (hs : ∀ j, j < 16 → Byte (s j)) : sumL f s = listF 16 (byteN (leN 16 f 0 + leN 16 s 0)) 0 := by
  have f0 : ∀ j, j < 8 → Byte (f (0 + j)) := fun j hj => by rw [Nat.zero_add]; exact hf j (by omega)
  have f1 : ∀ j, j < 8 → Byte (f (8 + j)) := fun j hj => hf _ (by omega)
  have s0 : ∀ j, j < 8 → Byte (s (0 + j)) := fun j hj => by rw [Nat.zero_add]; exact hs j (by omega)
  have s1 : ∀ j, j < 8 → Byte (s (8 + j)) := fun j hj => hs _ (by omega)
  have e1 : leN 16 f 0 = leN 8 f 0 + 18446744073709551616 * leN 8 f 8 := leN_add 8 8 f 0
  have e2 : leN 16 s 0 = leN 8 s 0 + 18446744073709551616 * leN 8 s 8 := leN_add 8 8 s 0
  have x0 := word8_lt f0
  have x1 := word8_lt f1
  have y0 := word8_lt s0
  have y1 := word8_lt s1
  obtain ⟨N, hN⟩ : ∃ N, N = leN 16 f 0 + leN 16 s 0 := ⟨_, rfl⟩
  have hlo : adcS (word8 f 0) (word8 s 0) 0 = N % 18446744073709551616 := by
    rw [adcS_eq x0.1 y0.1 (by decide), hN, e1, e2, ← word8_spec f0, ← word8_spec s0]; omega
  have hhi : adcS (word8 f 8) (word8 s 8) (adcC (word8 f 0) (word8 s 0) 0) = N / 18446744073709551616 % 18446744073709551616 := by
    have hc := adcC_eq x0.1 y0.1 (show (0 : Int) ≤ 0 by decide)
    rw [hc, adcS_eq x1.1 y1.1 (by omega), hN, e1, e2, ← word8_spec f0, ← word8_spec s0, ← word8_spec f1, ← word8_spec s1]; omega
  have n0 : 0 ≤ N := by rw [hN, e1, e2, ← word8_spec f0, ← word8_spec s0, ← word8_spec f1, ← word8_spec s1]; omega
  have g0 : 0 ≤ N % 18446744073709551616 := by omega
  have g1 : 0 ≤ N / 18446744073709551616 % 18446744073709551616 := by omega
  rw [← hN]
  simp only [sumL, hlo, hhi]
  rw [show ucut .u8 (ushr (N % 18446744073709551616) 0) = N % 18446744073709551616 / 1 % 256 from cut_shr 0 g0, show ucut .u8 (ushr (N % 18446744073709551616) 8) = N % 18446744073709551616 / 256 % 256 from cut_shr 8 g0,
    show ucut .u8 (ushr (N % 18446744073709551616) 16) = N % 18446744073709551616 / 65536 % 256 from cut_shr 16 g0, show ucut .u8 (ushr (N % 18446744073709551616) 24) = N % 18446744073709551616 / 16777216 % 256 from cut_shr 24 g0,
    show ucut .u8 (ushr (N % 18446744073709551616) 32) = N % 18446744073709551616 / 4294967296 % 256 from cut_shr 32 g0, show ucut .u8 (ushr (N % 18446744073709551616) 40) = N % 18446744073709551616 / 1099511627776 % 256 from cut_shr 40 g0,
    show ucut .u8 (ushr (N % 18446744073709551616) 48) = N % 18446744073709551616 / 281474976710656 % 256 from cut_shr 48 g0, show ucut .u8 (ushr (N % 18446744073709551616) 56) = N % 18446744073709551616 / 72057594037927936 % 256 from cut_shr 56 g0,
    show ucut .u8 (ushr (N / 18446744073709551616 % 18446744073709551616) 0) = N / 18446744073709551616 % 18446744073709551616 / 1 % 256 from cut_shr 0 g1, show ucut .u8 (ushr (N / 18446744073709551616 % 18446744073709551616) 8) = N / 18446744073709551616 % 18446744073709551616 / 256 % 256 from cut_shr 8 g1,
    show ucut .u8 (ushr (N / 18446744073709551616 % 18446744073709551616) 16) = N / 18446744073709551616 % 18446744073709551616 / 65536 % 256 from cut_shr 16 g1, show ucut .u8 (ushr (N / 18446744073709551616 % 18446744073709551616) 24) = N / 18446744073709551616 % 18446744073709551616 / 16777216 % 256 from cut_shr 24 g1,
    show ucut .u8 (ushr (N / 18446744073709551616 % 18446744073709551616) 32) = N / 18446744073709551616 % 18446744073709551616 / 4294967296 % 256 from cut_shr 32 g1, show ucut .u8 (ushr (N / 18446744073709551616 % 18446744073709551616) 40) = N / 18446744073709551616 % 18446744073709551616 / 1099511627776 % 256 from cut_shr 40 g1,
    show ucut .u8 (ushr (N / 18446744073709551616 % 18446744073709551616) 48) = N / 18446744073709551616 % 18446744073709551616 / 281474976710656 % 256 from cut_shr 48 g1, show ucut .u8 (ushr (N / 18446744073709551616 % 18446744073709551616) 56) = N / 18446744073709551616 % 18446744073709551616 / 72057594037927936 % 256 from cut_shr 56 g1]
  show _ = [N / 1 % 256, N / 256 % 256, N / 65536 % 256, N / 16777216 % 256, N / 4294967296 % 256, N / 1099511627776 % 256, N / 281474976710656 % 256, N / 72057594037927936 % 256,
    N / 18446744073709551616 % 256, N / 4722366482869645213696 % 256, N / 1208925819614629174706176 % 256, N / 309485009821345068724781056 % 256, N / 79228162514264337593543950336 % 256, N / 20282409603651670423947251286016 % 256, N / 5192296858534827628530496329220096 % 256, N / 1329227995784915872903807060280344576 % 256]
  clear hlo hhi hN e1 e2 x0 x1 y0 y1
  simp only [List.cons.injEq, and_true]
  refine ⟨?_, ?_, ?_, ?_, ?_, ?_, ?_, ?_, ?_, ?_, ?_, ?_, ?_, ?_, ?_, ?_⟩ <;> omega

theorem ucut_byte (x : Int) : Byte (ucut .u8 x) := by
  unfold ucut Byte
  have : x.toNat % modulus .u8 < 256 := Nat.mod_lt _ (by decide)
  simp only [Int.ofNat_eq_natCast]
  omega
theorem getD_byte : ∀ (l : List Int) (i : Nat), (∀ x ∈ l, Byte x) → Byte (l.getD i 0)
  | [], i, _ => by simp [Byte]
  | x :: l, 0, h => h x (by simp)
  | x :: l, i + 1, h => by simpa using getD_byte l i fun y hy => h y (by simp [hy])
theorem bytesN_byte (la : List Int) (i : Nat) : Byte (bytesN la i) := getD_byte _ i fun x hx => by
  simp only [bytesL, List.mem_cons, List.not_mem_nil, or_false] at hx
  rcases hx with h | h | h | h | h | h | h | h | h | h | h | h | h | h | h | h | h <;> (rw [h]; exact ucut_byte _)

/-- bytes added one by one, with what is carried -/
def carry (a b : Nat → Int) : Nat → Int
  | 0 => 0
  | i + 1 => (carry a b i + a i + b i) / 256
theorem carry_spec {a b : Nat → Int} (ha : ∀ j, 0 ≤ a j) (hb : ∀ j, 0 ≤ b j) : ∀ (n i : Nat), (leN (i + n) a 0 + leN (i + n) b 0) / ((256 ^ i : Nat) : Int) = carry a b i + leN n a i + leN n b i
  | n, 0 => by simp [carry]
  | n, i + 1 => by
    have ih := carry_spec ha hb (n + 1) i
    have e : ((256 ^ (i + 1) : Nat) : Int) = ((256 ^ i : Nat) : Int) * 256 := by rw [Nat.pow_succ]; omega
    rw [e, ← Int.ediv_ediv_of_nonneg (by exact Int.natCast_nonneg _), show i + 1 + n = i + (n + 1) by omega, ih]
    simp only [leN, carry]
    omega
theorem carry_byte {a b : Nat → Int} (ha : ∀ j, 0 ≤ a j) (hb : ∀ j, 0 ≤ b j) {n i : Nat} (hi : i < n) : byteN (leN n a 0 + leN n b 0) i = (carry a b i + a i + b i) % 256 := by
  obtain ⟨m, rfl⟩ : ∃ m, n = i + (m + 1) := ⟨n - i - 1, by omega⟩
  unfold byteN
  rw [carry_spec ha hb (m + 1) i]
  simp only [leN]
  omega
end Go.Vx

/- Plain law of the numbers modulo 2^255 - 19, in limbs of 51 digits. -/
namespace Go.Vx
open Go

def Q : Int := 57896044618658097711785492504343953926634992332820282019728792003956564819949
theorem umask51 {a : Int} (ha : 0 ≤ a) : umask a 2251799813685247 = a % 2251799813685248 := umaskE a 2251799813685247 ha
theorem ushr51 {a : Int} (ha : 0 ≤ a) : ushr a 51 = a / 2251799813685248 := ushrE a 51 ha
theorem usub64 {a b : Int} (ha : 0 ≤ a) (ha2 : a < 18446744073709551616) (hb : 0 ≤ b) (h : b ≤ a) : usub .u64 a b = a - b := by
  obtain ⟨x, rfl⟩ := Int.eq_ofNat_of_zero_le ha
  obtain ⟨y, rfl⟩ := Int.eq_ofNat_of_zero_le hb
  show Int.ofNat (((x : Int).toNat + (18446744073709551616 - (y : Int).toNat)) % 18446744073709551616) = _
  simp only [Int.toNat_natCast, Int.ofNat_eq_natCast]
  omega

/-- the number of five limbs -/
def W5 (a : Nat → Int) : Int := a 0 + 2251799813685248 * a 1 + 5070602400912917605986812821504 * a 2 + 11417981541647679048466287755595961091061972992 * a 3 + 25711008708143844408671393477458601640355247900524685364822016 * a 4

/-! ### carries -/
def fcarL (t : Nat → Int) : List Int :=
  let t1 := uadd .u64 (t 1) (ushr (t 0) 51)
  let t2 := uadd .u64 (t 2) (ushr t1 51)
  let t3 := uadd .u64 (t 3) (ushr t2 51)
  let t4 := uadd .u64 (t 4) (ushr t3 51)
  let m0 := uadd .u64 (umask (t 0) 2251799813685247) (umul .u64 19 (ushr t4 51))
  [umask m0 2251799813685247, uadd .u64 (umask t1 2251799813685247) (ushr m0 51), umask t2 2251799813685247, umask t3 2251799813685247, umask t4 2251799813685247]
def fcarN (la : List Int) (i : Nat) : Int := (fcarL (atL la)).getD i 0

/-- limbs behind the carries -/
def FS (la : List Int) : Prop := (0 ≤ atL la 0 ∧ atL la 0 < 2251799813685248) ∧ (0 ≤ atL la 1 ∧ atL la 1 ≤ 2251799813685248) ∧ (0 ≤ atL la 2 ∧ atL la 2 < 2251799813685248) ∧ (0 ≤ atL la 3 ∧ atL la 3 < 2251799813685248) ∧ (0 ≤ atL la 4 ∧ atL la 4 < 2251799813685248)
/-- limbs that may be carried -/
def FW (la : List Int) : Prop := ∀ i, i < 5 → 0 ≤ atL la i ∧ atL la i < 9223372036854775808

theorem fcar_eq {a : Nat → Int} (h : ∀ i, i < 5 → 0 ≤ a i ∧ a i < 9223372036854775808) : ∃ c0 c1 c2 c3 c4 m c : Int,
    c0 = a 0 / 2251799813685248 ∧ c1 = (a 1 + c0) / 2251799813685248 ∧ c2 = (a 2 + c1) / 2251799813685248 ∧ c3 = (a 3 + c2) / 2251799813685248 ∧ c4 = (a 4 + c3) / 2251799813685248 ∧ m = a 0 % 2251799813685248 + 19 * c4 ∧ c = m / 2251799813685248 ∧
    fcarL a = [m % 2251799813685248, (a 1 + c0) % 2251799813685248 + c, (a 2 + c1) % 2251799813685248, (a 3 + c2) % 2251799813685248, (a 4 + c3) % 2251799813685248] := by
  have h0 := h 0 (by decide)
  have h1 := h 1 (by decide)
  have h2 := h 2 (by decide)
  have h3 := h 3 (by decide)
  have h4 := h 4 (by decide)
  have e0 := ushr51 h0.1
  have e1 : uadd .u64 (a 1) (ushr (a 0) 51) = a 1 + a 0 / 2251799813685248 := by rw [e0]; exact uadd64 h1.1 (by omega) (by omega)
  obtain ⟨c0, hc0⟩ : ∃ c, c = a 0 / 2251799813685248 := ⟨_, rfl⟩
  rw [← hc0] at e1
  have f1 := ushr51 (a := a 1 + c0) (by omega)
  obtain ⟨c1, hc1⟩ : ∃ c, c = (a 1 + c0) / 2251799813685248 := ⟨_, rfl⟩
  rw [← hc1] at f1
  have e2 : uadd .u64 (a 2) c1 = a 2 + c1 := uadd64 h2.1 (by omega) (by omega)
  have f2 := ushr51 (a := a 2 + c1) (by omega)
  obtain ⟨c2, hc2⟩ : ∃ c, c = (a 2 + c1) / 2251799813685248 := ⟨_, rfl⟩
  rw [← hc2] at f2
  have e3 : uadd .u64 (a 3) c2 = a 3 + c2 := uadd64 h3.1 (by omega) (by omega)
  have f3 := ushr51 (a := a 3 + c2) (by omega)
  obtain ⟨c3, hc3⟩ : ∃ c, c = (a 3 + c2) / 2251799813685248 := ⟨_, rfl⟩
  rw [← hc3] at f3
  have e4 : uadd .u64 (a 4) c3 = a 4 + c3 := uadd64 h4.1 (by omega) (by omega)
  have f4 := ushr51 (a := a 4 + c3) (by omega)
  obtain ⟨c4, hc4⟩ : ∃ c, c = (a 4 + c3) / 2251799813685248 := ⟨_, rfl⟩
  rw [← hc4] at f4
  have e5 : umul .u64 19 c4 = 19 * c4 := umul64 (by decide) (by omega) (by omega)
  have e6 : uadd .u64 (a 0 % 2251799813685248) (19 * c4) = a 0 % 2251799813685248 + 19 * c4 := uadd64 (by omega) (by omega) (by omega)
  obtain ⟨m, hm⟩ : ∃ m, m = a 0 % 2251799813685248 + 19 * c4 := ⟨_, rfl⟩
  have m0 : 0 ≤ m := by omega
  have m1 : m < 2251799813685248 + 19 * 4097 := by omega
  rw [← hm] at e6
  have f6 := ushr51 (a := m) m0
  obtain ⟨c, hc⟩ : ∃ c, c = m / 2251799813685248 := ⟨_, rfl⟩
  rw [← hc] at f6
  have e7 : uadd .u64 ((a 1 + c0) % 2251799813685248) c = (a 1 + c0) % 2251799813685248 + c := uadd64 (by omega) (by omega) (by omega)
  refine ⟨c0, c1, c2, c3, c4, m, c, hc0, hc1, hc2, hc3, hc4, hm, hc, ?_⟩
  simp only [fcarL, e1, f1, e2, f2, e3, f3, e4, f4, e5, umask51 h0.1, umask51 (a := a 1 + c0) (by omega), umask51 (a := a 2 + c1) (by omega), umask51 (a := a 3 + c2) (by omega), umask51 (a := a 4 + c3) (by omega), e6, umask51 (a := m) m0, f6, e7]

theorem fcar_spec {la : List Int} (h : FW la) : FS (listF 5 (fcarN la) 0) ∧ ∃ q, W5 (fcarN la) = W5 (atL la) - Q * q := by
  obtain ⟨c0, c1, c2, c3, c4, m, c, k0, k1, k2, k3, k4, k5, k6, e⟩ := fcar_eq h
  have h0 := h 0 (by decide)
  have h1 := h 1 (by decide)
  have h2 := h 2 (by decide)
  have h3 := h 3 (by decide)
  have h4 := h 4 (by decide)
  have s0 : fcarN la 0 = m % 2251799813685248 := by unfold fcarN; rw [e]; rfl
  have s1 : fcarN la 1 = (atL la 1 + c0) % 2251799813685248 + c := by unfold fcarN; rw [e]; rfl
  have s2 : fcarN la 2 = (atL la 2 + c1) % 2251799813685248 := by unfold fcarN; rw [e]; rfl
  have s3 : fcarN la 3 = (atL la 3 + c2) % 2251799813685248 := by unfold fcarN; rw [e]; rfl
  have s4 : fcarN la 4 = (atL la 4 + c3) % 2251799813685248 := by unfold fcarN; rw [e]; rfl
  have b0 : 0 ≤ c0 ∧ c0 ≤ 4096 := by omega
  have b1 : 0 ≤ c1 ∧ c1 ≤ 4097 := by omega
  have b2 : 0 ≤ c2 ∧ c2 ≤ 4097 := by omega
  have b3 : 0 ≤ c3 ∧ c3 ≤ 4097 := by omega
  have b4 : 0 ≤ c4 ∧ c4 ≤ 4097 := by omega
  have b5 : 0 ≤ c ∧ c ≤ 1 := by omega
  refine ⟨?_, c4, ?_⟩
  · show (0 ≤ fcarN la 0 ∧ fcarN la 0 < _) ∧ (0 ≤ fcarN la 1 ∧ fcarN la 1 ≤ _) ∧ (0 ≤ fcarN la 2 ∧ fcarN la 2 < _) ∧ (0 ≤ fcarN la 3 ∧ fcarN la 3 < _) ∧ (0 ≤ fcarN la 4 ∧ fcarN la 4 < _)
    rw [s0, s1, s2, s3, s4]
    omega
  · simp only [W5, Q, s0, s1, s2, s3, s4]
    omega
theorem FS.wide {la : List Int} (h : FS la) : FW la := by
  obtain ⟨h0, h1, h2, h3, h4⟩ := h
  intro i hi
  match i, hi with
  | 0, _ => omega
  | 1, _ => omega
  | 2, _ => omega
  | 3, _ => omega
  | 4, _ => omega

/-! ### sum, difference -/
def faddL (a b : Nat → Int) : List Int := [uadd .u64 (a 0) (b 0), uadd .u64 (a 1) (b 1), uadd .u64 (a 2) (b 2), uadd .u64 (a 3) (b 3), uadd .u64 (a 4) (b 4)]
def fsb (x y : Int) : Int := usub .u64 (uadd .u64 x 4503599627370494) y
def fsubL (a b : Nat → Int) : List Int := [usub .u64 (fsb (a 0) (b 0)) 36, fsb (a 1) (b 1), fsb (a 2) (b 2), fsb (a 3) (b 3), fsb (a 4) (b 4)]
theorem fadd_spec {la lb : List Int} (ha : FS la) (hb : FS lb) : FW (faddL (atL la) (atL lb)) ∧ W5 (atL (faddL (atL la) (atL lb))) = W5 (atL la) + W5 (atL lb) := by
  obtain ⟨h0, h1, h2, h3, h4⟩ := ha
  obtain ⟨k0, k1, k2, k3, k4⟩ := hb
  generalize atL la = a at *
  generalize atL lb = b at *
  have e : faddL a b = [a 0 + b 0, a 1 + b 1, a 2 + b 2, a 3 + b 3, a 4 + b 4] := by
    unfold faddL
    rw [uadd64 (a := a 0) h0.1 k0.1 (by omega), uadd64 (a := a 1) h1.1 k1.1 (by omega), uadd64 (a := a 2) h2.1 k2.1 (by omega), uadd64 (a := a 3) h3.1 k3.1 (by omega), uadd64 (a := a 4) h4.1 k4.1 (by omega)]
  rw [e]
  refine ⟨fun i hi => ?_, ?_⟩
  · match i, hi with
    | 0, _ => show 0 ≤ a 0 + b 0 ∧ a 0 + b 0 < _; omega
    | 1, _ => show 0 ≤ a 1 + b 1 ∧ a 1 + b 1 < _; omega
    | 2, _ => show 0 ≤ a 2 + b 2 ∧ a 2 + b 2 < _; omega
    | 3, _ => show 0 ≤ a 3 + b 3 ∧ a 3 + b 3 < _; omega
    | 4, _ => show 0 ≤ a 4 + b 4 ∧ a 4 + b 4 < _; omega
  · simp only [W5, atL, List.getD_cons_zero, List.getD_cons_succ]; omega
theorem fsb_eq {x y : Int} (hx : 0 ≤ x ∧ x ≤ 2251799813685248) (hy : 0 ≤ y ∧ y ≤ 2251799813685248) : fsb x y = x + 4503599627370494 - y := by
  unfold fsb
  rw [uadd64 hx.1 (by decide) (by omega), usub64 (by omega) (by omega) hy.1 (by omega)]
theorem fsub_spec {la lb : List Int} (ha : FS la) (hb : FS lb) : FW (fsubL (atL la) (atL lb)) ∧ W5 (atL (fsubL (atL la) (atL lb))) = W5 (atL la) - W5 (atL lb) + 2 * Q := by
  obtain ⟨h0, h1, h2, h3, h4⟩ := ha
  obtain ⟨k0, k1, k2, k3, k4⟩ := hb
  generalize atL la = a at *
  generalize atL lb = b at *
  have e : fsubL a b = [a 0 + 4503599627370494 - b 0 - 36, a 1 + 4503599627370494 - b 1, a 2 + 4503599627370494 - b 2, a 3 + 4503599627370494 - b 3, a 4 + 4503599627370494 - b 4] := by
    unfold fsubL
    rw [fsb_eq (x := a 0) (y := b 0) (by omega) (by omega), fsb_eq (x := a 1) (y := b 1) (by omega) (by omega), fsb_eq (x := a 2) (y := b 2) (by omega) (by omega), fsb_eq (x := a 3) (y := b 3) (by omega) (by omega), fsb_eq (x := a 4) (y := b 4) (by omega) (by omega),
      usub64 (a := a 0 + 4503599627370494 - b 0) (by omega) (by omega) (by decide) (by omega)]
  rw [e]
  refine ⟨fun i hi => ?_, ?_⟩
  · match i, hi with
    | 0, _ => simp only [atL, List.getD_cons_zero]; omega
    | 1, _ => simp only [atL, List.getD_cons_zero, List.getD_cons_succ]; omega
    | 2, _ => simp only [atL, List.getD_cons_zero, List.getD_cons_succ]; omega
    | 3, _ => simp only [atL, List.getD_cons_zero, List.getD_cons_succ]; omega
    | 4, _ => simp only [atL, List.getD_cons_zero, List.getD_cons_succ]; omega
  · simp only [W5, Q, atL, List.getD_cons_zero, List.getD_cons_succ]; omega
end Go.Vx

/- Plain law of products modulo 2^255 - 19: numbers of 128 digits. -/
namespace Go.Vx
open Go

def hiW (W : Int) : Int := W / 18446744073709551616 % 18446744073709551616
def loW (W : Int) : Int := W % 18446744073709551616
def jW (h l : Int) : Int := h * 18446744073709551616 + l
theorem jW_eq {W : Int} (h0 : 0 ≤ W) (h1 : W < 340282366920938463463374607431768211456) : jW (hiW W) (loW W) = W := by unfold jW hiW loW; omega
theorem jW_zero : jW 0 0 = 0 := rfl
def mhi (x y : Int) : Int := x * y / 18446744073709551616
def mlo (x y : Int) : Int := x * y % 18446744073709551616
/-- what Mul64 reckons -/
def mul64H (x y : Int) : Int :=
  let x0 := umask x 4294967295
  let x1 := ushr x 32
  let y0 := umask y 4294967295
  let y1 := ushr y 32
  let w0 := umul .u64 x0 y0
  let t := uadd .u64 (umul .u64 x1 y0) (ushr w0 32)
  let w1 := uadd .u64 (umask t 4294967295) (umul .u64 x0 y1)
  uadd .u64 (uadd .u64 (umul .u64 x1 y1) (ushr t 32)) (ushr w1 32)
theorem prod_le {a b m n : Int} (ha : 0 ≤ a ∧ a ≤ m) (hb : 0 ≤ b ∧ b ≤ n) : 0 ≤ a * b ∧ a * b ≤ m * n :=
  ⟨Int.mul_nonneg ha.1 hb.1, Int.mul_le_mul ha.2 hb.2 hb.1 (by omega)⟩
theorem mul64_split (x0 x1 y0 y1 : Int) : (x0 + 4294967296 * x1) * (y0 + 4294967296 * y1) = x0 * y0 + 4294967296 * (x1 * y0 + x0 * y1) + 18446744073709551616 * (x1 * y1) := by grind
theorem mul64_eq {x y : Int} (hx : 0 ≤ x ∧ x < 18446744073709551616) (hy : 0 ≤ y ∧ y < 18446744073709551616) : mul64H x y = mhi x y ∧ umul .u64 x y = mlo x y := by
  constructor
  · have m1 : umask x 4294967295 = x % 4294967296 := umaskE x 4294967295 hx.1
    have m2 : umask y 4294967295 = y % 4294967296 := umaskE y 4294967295 hy.1
    have m3 : ushr x 32 = x / 4294967296 := ushrE x 32 hx.1
    have m4 : ushr y 32 = y / 4294967296 := ushrE y 32 hy.1
    obtain ⟨x0, h0⟩ : ∃ z, z = x % 4294967296 := ⟨_, rfl⟩
    obtain ⟨x1, h1⟩ : ∃ z, z = x / 4294967296 := ⟨_, rfl⟩
    obtain ⟨y0, h2⟩ : ∃ z, z = y % 4294967296 := ⟨_, rfl⟩
    obtain ⟨y1, h3⟩ : ∃ z, z = y / 4294967296 := ⟨_, rfl⟩
    have b0 : 0 ≤ x0 ∧ x0 ≤ 4294967295 := by omega
    have b1 : 0 ≤ x1 ∧ x1 ≤ 4294967295 := by omega
    have b2 : 0 ≤ y0 ∧ y0 ≤ 4294967295 := by omega
    have b3 : 0 ≤ y1 ∧ y1 ≤ 4294967295 := by omega
    have ex : x = x0 + 4294967296 * x1 := by omega
    have ey : y = y0 + 4294967296 * y1 := by omega
    have p00 := prod_le b0 b2
    have p10 := prod_le b1 b2
    have p01 := prod_le b0 b3
    have p11 := prod_le b1 b3
    have sp := mul64_split x0 x1 y0 y1
    have eM : mul64H x y = uadd .u64 (uadd .u64 (umul .u64 x1 y1) (ushr (uadd .u64 (umul .u64 x1 y0) (ushr (umul .u64 x0 y0) 32)) 32)) (ushr (uadd .u64 (umask (uadd .u64 (umul .u64 x1 y0) (ushr (umul .u64 x0 y0) 32)) 4294967295) (umul .u64 x0 y1)) 32) := by
      simp only [mul64H, m1, m2, m3, m4, ← h0, ← h1, ← h2, ← h3]
    unfold mhi
    rw [eM, ex, ey, sp]
    clear eM m1 m2 m3 m4 h0 h1 h2 h3 ex ey sp hx hy
    rw [umul64 (a := x0) (b := y0) b0.1 b2.1 (by omega), umul64 (a := x1) (b := y0) b1.1 b2.1 (by omega), umul64 (a := x0) (b := y1) b0.1 b3.1 (by omega), umul64 (a := x1) (b := y1) b1.1 b3.1 (by omega)]
    generalize x0 * y0 = A at *
    generalize x1 * y0 = B at *
    generalize x0 * y1 = C at *
    generalize x1 * y1 = D at *
    have r1 : ushr A 32 = A / 4294967296 := ushrE A 32 p00.1
    simp only [r1]
    have r2 : uadd .u64 B (A / 4294967296) = B + A / 4294967296 := uadd64 p10.1 (by omega) (by omega)
    simp only [r2]
    have r3 : umask (B + A / 4294967296) 4294967295 = (B + A / 4294967296) % 4294967296 := umaskE _ 4294967295 (by omega)
    have r4 : ushr (B + A / 4294967296) 32 = (B + A / 4294967296) / 4294967296 := ushrE _ 32 (by omega)
    simp only [r3, r4]
    have r5 : uadd .u64 ((B + A / 4294967296) % 4294967296) C = (B + A / 4294967296) % 4294967296 + C := uadd64 (by omega) p01.1 (by omega)
    simp only [r5]
    have r6 : ushr ((B + A / 4294967296) % 4294967296 + C) 32 = ((B + A / 4294967296) % 4294967296 + C) / 4294967296 := ushrE _ 32 (by omega)
    simp only [r6]
    have r7 : uadd .u64 D ((B + A / 4294967296) / 4294967296) = D + (B + A / 4294967296) / 4294967296 := uadd64 p11.1 (by omega) (by omega)
    simp only [r7]
    rw [uadd64 (by omega) (by omega) (by omega)]
    omega
  · obtain ⟨a, rfl⟩ := Int.eq_ofNat_of_zero_le hx.1
    obtain ⟨b, rfl⟩ := Int.eq_ofNat_of_zero_le hy.1
    show Int.ofNat (((a : Int).toNat * (b : Int).toNat) % 18446744073709551616) = _
    simp only [Int.toNat_natCast, Int.ofNat_eq_natCast, mlo]
    rw [Int.natCast_emod, Int.natCast_mul]; rfl
/-- plus: a wide number and a product -/
def plusH (h l x y : Int) : Int := adcS h (mhi x y) (adcC l (mlo x y) 0)
def plusL (l x y : Int) : Int := adcS l (mlo x y) 0
theorem mul_lt {x y : Int} (hx : 0 ≤ x ∧ x < 18446744073709551616) (hy : 0 ≤ y ∧ y < 18446744073709551616) : 0 ≤ x * y ∧ x * y ≤ 18446744073709551615 * 18446744073709551615 := prod_le ⟨hx.1, by omega⟩ ⟨hy.1, by omega⟩
theorem plus_eq {h l x y : Int} (hh : 0 ≤ h ∧ h < 18446744073709551616) (hl : 0 ≤ l ∧ l < 18446744073709551616) (hx : 0 ≤ x ∧ x < 18446744073709551616) (hy : 0 ≤ y ∧ y < 18446744073709551616) :
    plusH h l x y = hiW (jW h l + x * y) ∧ plusL l x y = loW (jW h l + x * y) ∧ (adcC l (mlo x y) 0).toNat ≤ 1 := by
  have p := mul_lt hx hy
  unfold plusH plusL mhi mlo hiW loW jW
  generalize x * y = P at *
  rw [adcC_eq hl.1 (by omega) (by decide), adcS_eq hh.1 (by omega) (by omega), adcS_eq hl.1 (by omega) (by decide)]
  refine ⟨?_, ?_, ?_⟩ <;> omega
/-- nineteen: a wide number and 19 times another one -/
theorem nine_eq {ha la hb lb : Int} (h1 : 0 ≤ ha ∧ ha < 18446744073709551616) (h2 : 0 ≤ la ∧ la < 18446744073709551616) (h3 : 0 ≤ hb ∧ hb < 18446744073709551616) (h4 : 0 ≤ lb ∧ lb < 18446744073709551616) :
    uadd .u64 (hiW (jW ha la + lb * 19)) (umul .u64 hb 19) = hiW (jW ha la + 19 * jW hb lb) ∧ loW (jW ha la + lb * 19) = loW (jW ha la + 19 * jW hb lb) := by
  have e1 : umul .u64 hb 19 = hb * 19 % 18446744073709551616 := (mul64_eq h3 (by decide)).2
  have e2 : ∀ {x y : Int}, 0 ≤ x → 0 ≤ y → uadd .u64 x y = (x + y) % 18446744073709551616 := by
    intro x y hx hy
    obtain ⟨a, rfl⟩ := Int.eq_ofNat_of_zero_le hx
    obtain ⟨b, rfl⟩ := Int.eq_ofNat_of_zero_le hy
    show Int.ofNat (((a : Int).toNat + (b : Int).toNat) % 18446744073709551616) = _
    simp only [Int.toNat_natCast, Int.ofNat_eq_natCast]
    omega
  unfold hiW loW jW
  rw [e1, e2 (by omega) (by omega)]
  constructor <;> omega

/-! ### a product's five wide numbers -/
def n0 (x y : Int) : Int := jW 0 0 + x * y
def nx (W x y : Int) : Int := jW (hiW W) (loW W) + x * y
def n19 (W V : Int) : Int := jW (hiW W) (loW W) + 19 * jW (hiW V) (loW V)
def n19z (W : Int) : Int := jW (hiW W) (loW W) + 19 * jW 0 0
def fwL (a b : Nat → Int) : List Int :=
  let N0 := n19 (n0 (a 0) (b 0)) (nx (nx (nx (n0 (a 1) (b 4)) (a 2) (b 3)) (a 3) (b 2)) (a 4) (b 1))
  let N1 := n19 (nx (n0 (a 0) (b 1)) (a 1) (b 0)) (nx (nx (n0 (a 2) (b 4)) (a 3) (b 3)) (a 4) (b 2))
  let N2 := n19 (nx (nx (n0 (a 0) (b 2)) (a 1) (b 1)) (a 2) (b 0)) (nx (n0 (a 3) (b 4)) (a 4) (b 3))
  let N3 := n19 (nx (nx (nx (n0 (a 0) (b 3)) (a 1) (b 2)) (a 2) (b 1)) (a 3) (b 0)) (n0 (a 4) (b 4))
  let N4 := n19z (nx (nx (nx (nx (n0 (a 0) (b 4)) (a 1) (b 3)) (a 2) (b 2)) (a 3) (b 1)) (a 4) (b 0))
  [hiW N0, loW N0, hiW N1, loW N1, hiW N2, loW N2, hiW N3, loW N3, hiW N4, loW N4]
def fscL (a : Nat → Int) (n : Int) : List Int :=
  [hiW (n0 (a 0) n), loW (n0 (a 0) n), hiW (n0 (a 1) n), loW (n0 (a 1) n), hiW (n0 (a 2) n), loW (n0 (a 2) n), hiW (n0 (a 3) n), loW (n0 (a 3) n), hiW (n0 (a 4) n), loW (n0 (a 4) n)]

/-! ### folded -/
def stH (h l ch cl : Int) : Int := uadd .u64 (hiW (jW h l + cl * 1)) ch
def stL (h l cl : Int) : Int := loW (jW h l + cl * 1)
def clN (H L : Int) : Int := uor (ushl .u64 H 13) (ushr L 51)
def foldL (t : Nat → Int) : List Int :=
  let H0 := stH (t 0) (t 1) 0 0
  let L0 := stL (t 0) (t 1) 0
  let c0 := clN H0 L0
  let H1 := stH (t 2) (t 3) (ushr H0 51) c0
  let L1 := stL (t 2) (t 3) c0
  let c1 := clN H1 L1
  let H2 := stH (t 4) (t 5) (ushr H1 51) c1
  let L2 := stL (t 4) (t 5) c1
  let c2 := clN H2 L2
  let H3 := stH (t 6) (t 7) (ushr H2 51) c2
  let L3 := stL (t 6) (t 7) c2
  let c3 := clN H3 L3
  let H4 := stH (t 8) (t 9) (ushr H3 51) c3
  let L4 := stL (t 8) (t 9) c3
  let c4 := clN H4 L4
  [uadd .u64 (umask L0 2251799813685247) (umul .u64 c4 19), umask L1 2251799813685247, umask L2 2251799813685247, umask L3 2251799813685247, umask L4 2251799813685247]
def foldN (la : List Int) : Nat → Int := fcarN (foldL (atL la))
theorem step_eq {T C h l ch cl : Int} (hT : jW h l = T) (hC : jW ch cl = C) (hh : 0 ≤ h ∧ h < 18446744073709551616) (hl : 0 ≤ l ∧ l < 18446744073709551616) (hch : 0 ≤ ch ∧ ch < 18446744073709551616) (hcl : 0 ≤ cl ∧ cl < 18446744073709551616) (hb : T + C < 10384593717069655257060992658440192) :
    umask (stL h l cl) 2251799813685247 = (T + C) % 2251799813685248 ∧ (0 ≤ ushr (stH h l ch cl) 51 ∧ ushr (stH h l ch cl) 51 < 18446744073709551616) ∧ (0 ≤ clN (stH h l ch cl) (stL h l cl) ∧ clN (stH h l ch cl) (stL h l cl) < 18446744073709551616) ∧
      jW (ushr (stH h l ch cl) 51) (clN (stH h l ch cl) (stL h l cl)) = (T + C) / 2251799813685248 ∧ (T + C < 41538374868278621028243970633760768 → clN (stH h l ch cl) (stL h l cl) = (T + C) / 2251799813685248) := by
  subst hT hC
  have eL : stL h l cl = (jW h l + jW ch cl) % 18446744073709551616 := by unfold stL loW jW; omega
  have eH : stH h l ch cl = (jW h l + jW ch cl) / 18446744073709551616 := by
    unfold stH hiW
    unfold jW at hb ⊢
    rw [uadd64 (by omega) hch.1 (by omega)]
    omega
  have s0 : 0 ≤ jW h l + jW ch cl := by unfold jW; omega
  rw [eL, eH]
  generalize jW h l + jW ch cl = S at *
  have e1 : umask (S % 18446744073709551616) 2251799813685247 = S % 18446744073709551616 % 2251799813685248 := umask51 (by omega)
  have e2 : ushr (S / 18446744073709551616) 51 = S / 18446744073709551616 / 2251799813685248 := ushr51 (by omega)
  have e3 : ushr (S % 18446744073709551616) 51 = S % 18446744073709551616 / 2251799813685248 := ushr51 (by omega)
  have e4 : ushl .u64 (S / 18446744073709551616) 13 = S / 18446744073709551616 * 8192 % 18446744073709551616 := ushlE _ 13 (by omega)
  have e5 : clN (S / 18446744073709551616) (S % 18446744073709551616) = S / 18446744073709551616 * 8192 % 18446744073709551616 + S % 18446744073709551616 / 2251799813685248 := by
    unfold clN
    rw [e3, e4]
    have hc : ∀ x y : Int, uor x y = uor y x := fun x y => by unfold uor; rw [Nat.or_comm]
    rw [hc, uor_add 13 (by omega) (by show _ < (8192 : Int); omega) (by omega) (by show _ % (8192 : Int) = 0; omega)]
    omega
  rw [e1, e2, e5]
  unfold jW
  refine ⟨by omega, by omega, by omega, by omega, by omega⟩
theorem fold_spec {la : List Int} {T0 T1 T2 T3 T4 : Int} (h : ∀ i, i < 10 → 0 ≤ atL la i ∧ atL la i < 18446744073709551616)
    (t0 : jW (atL la 0) (atL la 1) = T0) (t1 : jW (atL la 2) (atL la 3) = T1) (t2 : jW (atL la 4) (atL la 5) = T2) (t3 : jW (atL la 6) (atL la 7) = T3) (t4 : jW (atL la 8) (atL la 9) = T4)
    (b0 : T0 < 5192296858534827628530496329220096) (b1 : T1 < 5192296858534827628530496329220096) (b2 : T2 < 5192296858534827628530496329220096) (b3 : T3 < 5192296858534827628530496329220096) (b4 : T4 < 649037107316853453566312041152512) :
    FS (listF 5 (foldN la) 0) ∧ ∃ q, W5 (foldN la) = T0 + 2251799813685248 * T1 + 5070602400912917605986812821504 * T2 + 11417981541647679048466287755595961091061972992 * T3 + 25711008708143844408671393477458601640355247900524685364822016 * T4 - Q * q := by
  have n0 : 0 ≤ T0 := by rw [← t0]; unfold jW; have := h 0 (by decide); have := h 1 (by decide); omega
  have n1 : 0 ≤ T1 := by rw [← t1]; unfold jW; have := h 2 (by decide); have := h 3 (by decide); omega
  have n2 : 0 ≤ T2 := by rw [← t2]; unfold jW; have := h 4 (by decide); have := h 5 (by decide); omega
  have n3 : 0 ≤ T3 := by rw [← t3]; unfold jW; have := h 6 (by decide); have := h 7 (by decide); omega
  have n4 : 0 ≤ T4 := by rw [← t4]; unfold jW; have := h 8 (by decide); have := h 9 (by decide); omega
  obtain ⟨r0, p0, q0, e0, _⟩ := step_eq (C := 0) t0 jW_zero (h 0 (by decide)) (h 1 (by decide)) (by decide) (by decide) (by omega)
  rw [Int.add_zero] at r0 e0
  obtain ⟨C0, hC0⟩ : ∃ c, c = T0 / 2251799813685248 := ⟨_, rfl⟩
  rw [← hC0] at e0
  obtain ⟨r1, p1, q1, e1, _⟩ := step_eq t1 e0 (h 2 (by decide)) (h 3 (by decide)) p0 q0 (by omega)
  obtain ⟨C1, hC1⟩ : ∃ c, c = (T1 + C0) / 2251799813685248 := ⟨_, rfl⟩
  rw [← hC1] at e1
  obtain ⟨r2, p2, q2, e2, _⟩ := step_eq t2 e1 (h 4 (by decide)) (h 5 (by decide)) p1 q1 (by omega)
  obtain ⟨C2, hC2⟩ : ∃ c, c = (T2 + C1) / 2251799813685248 := ⟨_, rfl⟩
  rw [← hC2] at e2
  obtain ⟨r3, p3, q3, e3, _⟩ := step_eq t3 e2 (h 6 (by decide)) (h 7 (by decide)) p2 q2 (by omega)
  obtain ⟨C3, hC3⟩ : ∃ c, c = (T3 + C2) / 2251799813685248 := ⟨_, rfl⟩
  rw [← hC3] at e3
  obtain ⟨r4, p4, q4, e4, k4⟩ := step_eq t4 e3 (h 8 (by decide)) (h 9 (by decide)) p3 q3 (by omega)
  obtain ⟨C4, hC4⟩ : ∃ c, c = (T4 + C3) / 2251799813685248 := ⟨_, rfl⟩
  rw [← hC4] at e4
  have k4 := k4 (by omega)
  rw [← hC4] at k4
  clear e0 e1 e2 e3 e4 p0 p1 p2 p3 p4 q0 q1 q2 q3 q4
  have c4b : 0 ≤ C4 ∧ C4 ≤ 288230376151720000 := by omega
  have e5 : umul .u64 C4 19 = C4 * 19 := umul64 c4b.1 (by decide) (by omega)
  have e6 : uadd .u64 (T0 % 2251799813685248) (C4 * 19) = T0 % 2251799813685248 + C4 * 19 := uadd64 (by omega) (by omega) (by omega)
  have e : foldL (atL la) = [T0 % 2251799813685248 + C4 * 19, (T1 + C0) % 2251799813685248, (T2 + C1) % 2251799813685248, (T3 + C2) % 2251799813685248, (T4 + C3) % 2251799813685248] := by
    simp only [foldL, r0, r1, r2, r3, r4, k4, e5, e6]
  obtain ⟨w, hw⟩ : ∃ w, w = foldL (atL la) := ⟨_, rfl⟩
  have w0 : atL w 0 = T0 % 2251799813685248 + C4 * 19 := by rw [hw, e]; rfl
  have w1 : atL w 1 = (T1 + C0) % 2251799813685248 := by rw [hw, e]; rfl
  have w2 : atL w 2 = (T2 + C1) % 2251799813685248 := by rw [hw, e]; rfl
  have w3 : atL w 3 = (T3 + C2) % 2251799813685248 := by rw [hw, e]; rfl
  have w4 : atL w 4 = (T4 + C3) % 2251799813685248 := by rw [hw, e]; rfl
  clear r0 r1 r2 r3 r4 k4 e e5 e6 h t0 t1 t2 t3 t4
  have fw : FW w := fun i hi => by
    match i, hi with
    | 0, _ => rw [w0]; omega
    | 1, _ => rw [w1]; omega
    | 2, _ => rw [w2]; omega
    | 3, _ => rw [w3]; omega
    | 4, _ => rw [w4]; omega
  obtain ⟨f1, q, f2⟩ := fcar_spec fw
  have ef : foldN la = fcarN w := by rw [hw]; rfl
  rw [ef]
  refine ⟨f1, q + C4, ?_⟩
  rw [f2]
  simp only [W5, Q, w0, w1, w2, w3, w4]
  omega
end Go.Vx

/- Plain law of the product, of Scale, of powers, of bytes. -/
namespace Go.Vx
open Go

def fmulN (la lb : List Int) : Nat → Int := foldN (fwL (atL la) (atL lb))
def fsclN (la : List Int) (n : Int) : Nat → Int := foldN (fscL (atL la) n)
def faddN (la lb : List Int) : Nat → Int := fcarN (faddL (atL la) (atL lb))
def fsubN (la lb : List Int) : Nat → Int := fcarN (fsubL (atL la) (atL lb))

theorem hilo {N : Int} (h0 : 0 ≤ N) : (0 ≤ hiW N ∧ hiW N < 18446744073709551616) ∧ (0 ≤ loW N ∧ loW N < 18446744073709551616) := by unfold hiW loW; omega
theorem n0_eq (x y : Int) : n0 x y = x * y := by unfold n0; rw [jW_zero, Int.zero_add]
theorem nx_eq {W : Int} (x y : Int) (h0 : 0 ≤ W) (h1 : W < 340282366920938463463374607431768211456) : nx W x y = W + x * y := by unfold nx; rw [jW_eq h0 h1]
theorem n19_eq {W V : Int} (h0 : 0 ≤ W) (h1 : W < 340282366920938463463374607431768211456) (h2 : 0 ≤ V) (h3 : V < 340282366920938463463374607431768211456) : n19 W V = W + 19 * V := by unfold n19; rw [jW_eq h0 h1, jW_eq h2 h3]
theorem n19z_eq {W : Int} (h0 : 0 ≤ W) (h1 : W < 340282366920938463463374607431768211456) : n19z W = W := by unfold n19z; rw [jW_eq h0 h1, jW_zero]; omega
theorem fprod {a b : Int} (ha : 0 ≤ a ∧ a ≤ 2251799813685248) (hb : 0 ≤ b ∧ b ≤ 2251799813685248) : 0 ≤ a * b ∧ a * b ≤ 5070602400912917605986812821504 := by
  have := prod_le ha hb
  omega
theorem fmul_ring (a0 a1 a2 a3 a4 b0 b1 b2 b3 b4 : Int) :
    (a0 * b0 + 19 * (a1 * b4 + a2 * b3 + a3 * b2 + a4 * b1)) + 2251799813685248 * (a0 * b1 + a1 * b0 + 19 * (a2 * b4 + a3 * b3 + a4 * b2)) + 5070602400912917605986812821504 * (a0 * b2 + a1 * b1 + a2 * b0 + 19 * (a3 * b4 + a4 * b3)) + 11417981541647679048466287755595961091061972992 * (a0 * b3 + a1 * b2 + a2 * b1 + a3 * b0 + 19 * (a4 * b4)) + 25711008708143844408671393477458601640355247900524685364822016 * (a0 * b4 + a1 * b3 + a2 * b2 + a3 * b1 + a4 * b0)
    = (a0 + 2251799813685248 * a1 + 5070602400912917605986812821504 * a2 + 11417981541647679048466287755595961091061972992 * a3 + 25711008708143844408671393477458601640355247900524685364822016 * a4) * (b0 + 2251799813685248 * b1 + 5070602400912917605986812821504 * b2 + 11417981541647679048466287755595961091061972992 * b3 + 25711008708143844408671393477458601640355247900524685364822016 * b4)
      - 57896044618658097711785492504343953926634992332820282019728792003956564819949 * ((a1 * b4 + a2 * b3 + a3 * b2 + a4 * b1) + 2251799813685248 * (a2 * b4 + a3 * b3 + a4 * b2) + 5070602400912917605986812821504 * (a3 * b4 + a4 * b3) + 11417981541647679048466287755595961091061972992 * (a4 * b4)) := by grind
theorem FS.le {la : List Int} (h : FS la) : ∀ i, i < 5 → 0 ≤ atL la i ∧ atL la i ≤ 2251799813685248 := by
  obtain ⟨h0, h1, h2, h3, h4⟩ := h
  intro i hi
  match i, hi with
  | 0, _ => omega
  | 1, _ => omega
  | 2, _ => omega
  | 3, _ => omega
  | 4, _ => omega
theorem fmul_spec {la lb : List Int} (ha : FS la) (hb : FS lb) : FS (listF 5 (fmulN la lb) 0) ∧ ∃ q, W5 (fmulN la lb) = W5 (atL la) * W5 (atL lb) - Q * q := by
  have u := ha.le
  have v := hb.le
  unfold fmulN
  generalize atL la = a at *
  generalize atL lb = b at *
  have pr : ∀ i j, i < 5 → j < 5 → 0 ≤ a i * b j ∧ a i * b j ≤ 5070602400912917605986812821504 := fun i j hi hj => fprod (u i hi) (v j hj)
  have e00 := pr 0 0 (by decide) (by decide)
  have e01 := pr 0 1 (by decide) (by decide)
  have e02 := pr 0 2 (by decide) (by decide)
  have e03 := pr 0 3 (by decide) (by decide)
  have e04 := pr 0 4 (by decide) (by decide)
  have e10 := pr 1 0 (by decide) (by decide)
  have e11 := pr 1 1 (by decide) (by decide)
  have e12 := pr 1 2 (by decide) (by decide)
  have e13 := pr 1 3 (by decide) (by decide)
  have e14 := pr 1 4 (by decide) (by decide)
  have e20 := pr 2 0 (by decide) (by decide)
  have e21 := pr 2 1 (by decide) (by decide)
  have e22 := pr 2 2 (by decide) (by decide)
  have e23 := pr 2 3 (by decide) (by decide)
  have e24 := pr 2 4 (by decide) (by decide)
  have e30 := pr 3 0 (by decide) (by decide)
  have e31 := pr 3 1 (by decide) (by decide)
  have e32 := pr 3 2 (by decide) (by decide)
  have e33 := pr 3 3 (by decide) (by decide)
  have e34 := pr 3 4 (by decide) (by decide)
  have e40 := pr 4 0 (by decide) (by decide)
  have e41 := pr 4 1 (by decide) (by decide)
  have e42 := pr 4 2 (by decide) (by decide)
  have e43 := pr 4 3 (by decide) (by decide)
  have e44 := pr 4 4 (by decide) (by decide)
  have E0 : n19 (n0 (a 0) (b 0)) (nx (nx (nx (n0 (a 1) (b 4)) (a 2) (b 3)) (a 3) (b 2)) (a 4) (b 1)) = a 0 * b 0 + 19 * (a 1 * b 4 + a 2 * b 3 + a 3 * b 2 + a 4 * b 1) := by
    rw [n0_eq, n0_eq, nx_eq (W := a 1 * b 4) _ _ (by omega) (by omega), nx_eq (W := a 1 * b 4 + a 2 * b 3) _ _ (by omega) (by omega), nx_eq (W := a 1 * b 4 + a 2 * b 3 + a 3 * b 2) _ _ (by omega) (by omega), n19_eq (by omega) (by omega) (by omega) (by omega)]
  have E1 : n19 (nx (n0 (a 0) (b 1)) (a 1) (b 0)) (nx (nx (n0 (a 2) (b 4)) (a 3) (b 3)) (a 4) (b 2)) = a 0 * b 1 + a 1 * b 0 + 19 * (a 2 * b 4 + a 3 * b 3 + a 4 * b 2) := by
    rw [n0_eq, n0_eq, nx_eq (W := a 0 * b 1) _ _ (by omega) (by omega), nx_eq (W := a 2 * b 4) _ _ (by omega) (by omega), nx_eq (W := a 2 * b 4 + a 3 * b 3) _ _ (by omega) (by omega), n19_eq (by omega) (by omega) (by omega) (by omega)]
  have E2 : n19 (nx (nx (n0 (a 0) (b 2)) (a 1) (b 1)) (a 2) (b 0)) (nx (n0 (a 3) (b 4)) (a 4) (b 3)) = a 0 * b 2 + a 1 * b 1 + a 2 * b 0 + 19 * (a 3 * b 4 + a 4 * b 3) := by
    rw [n0_eq, n0_eq, nx_eq (W := a 0 * b 2) _ _ (by omega) (by omega), nx_eq (W := a 0 * b 2 + a 1 * b 1) _ _ (by omega) (by omega), nx_eq (W := a 3 * b 4) _ _ (by omega) (by omega), n19_eq (by omega) (by omega) (by omega) (by omega)]
  have E3 : n19 (nx (nx (nx (n0 (a 0) (b 3)) (a 1) (b 2)) (a 2) (b 1)) (a 3) (b 0)) (n0 (a 4) (b 4)) = a 0 * b 3 + a 1 * b 2 + a 2 * b 1 + a 3 * b 0 + 19 * (a 4 * b 4) := by
    rw [n0_eq, n0_eq, nx_eq (W := a 0 * b 3) _ _ (by omega) (by omega), nx_eq (W := a 0 * b 3 + a 1 * b 2) _ _ (by omega) (by omega), nx_eq (W := a 0 * b 3 + a 1 * b 2 + a 2 * b 1) _ _ (by omega) (by omega), n19_eq (by omega) (by omega) (by omega) (by omega)]
  have E4 : n19z (nx (nx (nx (nx (n0 (a 0) (b 4)) (a 1) (b 3)) (a 2) (b 2)) (a 3) (b 1)) (a 4) (b 0)) = a 0 * b 4 + a 1 * b 3 + a 2 * b 2 + a 3 * b 1 + a 4 * b 0 := by
    rw [n0_eq, nx_eq (W := a 0 * b 4) _ _ (by omega) (by omega), nx_eq (W := a 0 * b 4 + a 1 * b 3) _ _ (by omega) (by omega), nx_eq (W := a 0 * b 4 + a 1 * b 3 + a 2 * b 2) _ _ (by omega) (by omega), nx_eq (W := a 0 * b 4 + a 1 * b 3 + a 2 * b 2 + a 3 * b 1) _ _ (by omega) (by omega), n19z_eq (by omega) (by omega)]
  obtain ⟨N0, h0⟩ : ∃ N, N = a 0 * b 0 + 19 * (a 1 * b 4 + a 2 * b 3 + a 3 * b 2 + a 4 * b 1) := ⟨_, rfl⟩
  obtain ⟨N1, h1⟩ : ∃ N, N = a 0 * b 1 + a 1 * b 0 + 19 * (a 2 * b 4 + a 3 * b 3 + a 4 * b 2) := ⟨_, rfl⟩
  obtain ⟨N2, h2⟩ : ∃ N, N = a 0 * b 2 + a 1 * b 1 + a 2 * b 0 + 19 * (a 3 * b 4 + a 4 * b 3) := ⟨_, rfl⟩
  obtain ⟨N3, h3⟩ : ∃ N, N = a 0 * b 3 + a 1 * b 2 + a 2 * b 1 + a 3 * b 0 + 19 * (a 4 * b 4) := ⟨_, rfl⟩
  obtain ⟨N4, h4⟩ : ∃ N, N = a 0 * b 4 + a 1 * b 3 + a 2 * b 2 + a 3 * b 1 + a 4 * b 0 := ⟨_, rfl⟩
  have eL : fwL a b = [hiW N0, loW N0, hiW N1, loW N1, hiW N2, loW N2, hiW N3, loW N3, hiW N4, loW N4] := by
    simp only [fwL, E0, E1, E2, E3, E4, ← h0, ← h1, ← h2, ← h3, ← h4]
  have c0 : 0 ≤ N0 ∧ N0 < 649037107316853453566312041152512 := by omega
  have c1 : 0 ≤ N1 ∧ N1 < 649037107316853453566312041152512 := by omega
  have c2 : 0 ≤ N2 ∧ N2 < 649037107316853453566312041152512 := by omega
  have c3 : 0 ≤ N3 ∧ N3 < 649037107316853453566312041152512 := by omega
  have c4 : 0 ≤ N4 ∧ N4 < 649037107316853453566312041152512 := by omega
  have fin := fmul_ring (a 0) (a 1) (a 2) (a 3) (a 4) (b 0) (b 1) (b 2) (b 3) (b 4)
  rw [← h0, ← h1, ← h2, ← h3, ← h4] at fin
  clear e00 e01 e02 e03 e04 e10 e11 e12 e13 e14 e20 e21 e22 e23 e24 e30 e31 e32 e33 e34 e40 e41 e42 e43 e44 pr E0 E1 E2 E3 E4 h0 h1 h2 h3 h4
  rw [eL]
  obtain ⟨f1, q, f2⟩ := fold_spec (la := [hiW N0, loW N0, hiW N1, loW N1, hiW N2, loW N2, hiW N3, loW N3, hiW N4, loW N4]) (T0 := N0) (T1 := N1) (T2 := N2) (T3 := N3) (T4 := N4) (fun i hi => by
    match i, hi with
    | 0, _ => exact (hilo c0.1).1
    | 1, _ => exact (hilo c0.1).2
    | 2, _ => exact (hilo c1.1).1
    | 3, _ => exact (hilo c1.1).2
    | 4, _ => exact (hilo c2.1).1
    | 5, _ => exact (hilo c2.1).2
    | 6, _ => exact (hilo c3.1).1
    | 7, _ => exact (hilo c3.1).2
    | 8, _ => exact (hilo c4.1).1
    | 9, _ => exact (hilo c4.1).2) (jW_eq c0.1 (by omega)) (jW_eq c1.1 (by omega)) (jW_eq c2.1 (by omega)) (jW_eq c3.1 (by omega)) (jW_eq c4.1 (by omega)) (by omega) (by omega) (by omega) (by omega) (by omega)
  have fin2 : ∃ k, N0 + 2251799813685248 * N1 + 5070602400912917605986812821504 * N2 + 11417981541647679048466287755595961091061972992 * N3 + 25711008708143844408671393477458601640355247900524685364822016 * N4 = W5 a * W5 b - Q * k := ⟨_, fin⟩
  obtain ⟨k, hk⟩ := fin2
  refine ⟨f1, q + k, ?_⟩
  rw [f2, hk, Int.mul_add]
  omega
theorem fscl_ring (a0 a1 a2 a3 a4 n : Int) : a0 * n + 2251799813685248 * (a1 * n) + 5070602400912917605986812821504 * (a2 * n) + 11417981541647679048466287755595961091061972992 * (a3 * n) + 25711008708143844408671393477458601640355247900524685364822016 * (a4 * n)
    = (a0 + 2251799813685248 * a1 + 5070602400912917605986812821504 * a2 + 11417981541647679048466287755595961091061972992 * a3 + 25711008708143844408671393477458601640355247900524685364822016 * a4) * n := by grind
theorem fscl_spec {la : List Int} {n : Int} (ha : FS la) (hn : 0 ≤ n ∧ n < 4294967296) : FS (listF 5 (fsclN la n) 0) ∧ ∃ q, W5 (fsclN la n) = W5 (atL la) * n - Q * q := by
  have u := ha.le
  unfold fsclN
  generalize atL la = a at *
  have pr : ∀ i, i < 5 → 0 ≤ a i * n ∧ a i * n ≤ 2251799813685248 * 4294967296 := fun i hi => prod_le (u i hi) ⟨hn.1, by omega⟩
  have c0 := pr 0 (by decide)
  have c1 := pr 1 (by decide)
  have c2 := pr 2 (by decide)
  have c3 := pr 3 (by decide)
  have c4 := pr 4 (by decide)
  have eL : fscL a n = [hiW (a 0 * n), loW (a 0 * n), hiW (a 1 * n), loW (a 1 * n), hiW (a 2 * n), loW (a 2 * n), hiW (a 3 * n), loW (a 3 * n), hiW (a 4 * n), loW (a 4 * n)] := by
    simp only [fscL, n0_eq]
  rw [eL]
  obtain ⟨f1, q, f2⟩ := fold_spec (la := [hiW (a 0 * n), loW (a 0 * n), hiW (a 1 * n), loW (a 1 * n), hiW (a 2 * n), loW (a 2 * n), hiW (a 3 * n), loW (a 3 * n), hiW (a 4 * n), loW (a 4 * n)]) (T0 := a 0 * n) (T1 := a 1 * n) (T2 := a 2 * n) (T3 := a 3 * n) (T4 := a 4 * n) (fun i hi => by
    match i, hi with
    | 0, _ => exact (hilo c0.1).1
    | 1, _ => exact (hilo c0.1).2
    | 2, _ => exact (hilo c1.1).1
    | 3, _ => exact (hilo c1.1).2
    | 4, _ => exact (hilo c2.1).1
    | 5, _ => exact (hilo c2.1).2
    | 6, _ => exact (hilo c3.1).1
    | 7, _ => exact (hilo c3.1).2
    | 8, _ => exact (hilo c4.1).1
    | 9, _ => exact (hilo c4.1).2) (jW_eq c0.1 (by omega)) (jW_eq c1.1 (by omega)) (jW_eq c2.1 (by omega)) (jW_eq c3.1 (by omega)) (jW_eq c4.1 (by omega)) (by omega) (by omega) (by omega) (by omega) (by omega)
  refine ⟨f1, q, ?_⟩
  rw [f2, fscl_ring]
  rfl
end Go.Vx

/- Plain law of the bytes of numbers modulo 2^255 - 19. -/
namespace Go.Vx
open Go

/-! ### the least -/
def fleaL (t : Nat → Int) : List Int :=
  let o0 := ushr (uadd .u64 (t 0) 19) 51
  let o1 := ushr (uadd .u64 (t 1) o0) 51
  let o2 := ushr (uadd .u64 (t 2) o1) 51
  let o3 := ushr (uadd .u64 (t 3) o2) 51
  let o4 := ushr (uadd .u64 (t 4) o3) 51
  let s0 := uadd .u64 (t 0) (umul .u64 19 o4)
  let s1 := uadd .u64 (t 1) (ushr s0 51)
  let s2 := uadd .u64 (t 2) (ushr s1 51)
  let s3 := uadd .u64 (t 3) (ushr s2 51)
  let s4 := uadd .u64 (t 4) (ushr s3 51)
  [umask s0 2251799813685247, umask s1 2251799813685247, umask s2 2251799813685247, umask s3 2251799813685247, umask s4 2251799813685247]
/-- below 2^51 all -/
def FF (a : Nat → Int) : Prop := (0 ≤ a 0 ∧ a 0 < 2251799813685248) ∧ (0 ≤ a 1 ∧ a 1 < 2251799813685248) ∧ (0 ≤ a 2 ∧ a 2 < 2251799813685248) ∧ (0 ≤ a 3 ∧ a 3 < 2251799813685248) ∧ (0 ≤ a 4 ∧ a 4 < 2251799813685248)
theorem add51 {t c s : Int} (ht : 0 ≤ t ∧ t ≤ 2251799813685248) (hc : 0 ≤ c ∧ c ≤ 2251799813685248) (hs : s = (t + c) / 2251799813685248) : uadd .u64 t c = t + c ∧ ushr (t + c) 51 = s ∧ umask (t + c) 2251799813685247 = t + c - 2251799813685248 * s ∧ 0 ≤ s ∧ s ≤ 2 := by
  refine ⟨uadd64 ht.1 hc.1 (by omega), ?_, ?_, by omega, by omega⟩
  · rw [hs]; exact ushr51 (by omega)
  · rw [umask51 (by omega), hs]; omega
theorem fsum_lt {a0 a1 a2 a3 a4 : Int} (h0 : 0 ≤ a0 ∧ a0 < 2251799813685248) (h1 : 0 ≤ a1 ∧ a1 < 2251799813685248) (h2 : 0 ≤ a2 ∧ a2 < 2251799813685248) (h3 : 0 ≤ a3 ∧ a3 < 2251799813685248) (h4 : 0 ≤ a4 ∧ a4 < 2251799813685248) :
    0 ≤ a0 + 2251799813685248 * a1 + 5070602400912917605986812821504 * a2 + 11417981541647679048466287755595961091061972992 * a3 + 25711008708143844408671393477458601640355247900524685364822016 * a4 ∧
    a0 + 2251799813685248 * a1 + 5070602400912917605986812821504 * a2 + 11417981541647679048466287755595961091061972992 * a3 + 25711008708143844408671393477458601640355247900524685364822016 * a4 < 57896044618658097711785492504343953926634992332820282019728792003956564819968 := by omega
theorem flea_spec {la : List Int} (h : FS la) : FF (atL (fleaL (atL la))) ∧ W5 (atL (fleaL (atL la))) = W5 (atL la) % Q := by
  obtain ⟨h0, h1, h2, h3, h4⟩ := h
  generalize atL la = t at *
  obtain ⟨o0, k0⟩ : ∃ c, c = (t 0 + 19) / 2251799813685248 := ⟨_, rfl⟩
  obtain ⟨e0, f0, g0, p0⟩ := add51 (t := t 0) (c := 19) (by omega) (by decide) k0
  obtain ⟨o1, k1⟩ : ∃ c, c = (t 1 + o0) / 2251799813685248 := ⟨_, rfl⟩
  obtain ⟨e1, f1, g1, p1⟩ := add51 (t := t 1) (c := o0) (by omega) (by omega) k1
  obtain ⟨o2, k2⟩ : ∃ c, c = (t 2 + o1) / 2251799813685248 := ⟨_, rfl⟩
  obtain ⟨e2, f2, g2, p2⟩ := add51 (t := t 2) (c := o1) (by omega) (by omega) k2
  obtain ⟨o3, k3⟩ : ∃ c, c = (t 3 + o2) / 2251799813685248 := ⟨_, rfl⟩
  obtain ⟨e3, f3, g3, p3⟩ := add51 (t := t 3) (c := o2) (by omega) (by omega) k3
  obtain ⟨o4, k4⟩ : ∃ c, c = (t 4 + o3) / 2251799813685248 := ⟨_, rfl⟩
  obtain ⟨e4, f4, g4, p4⟩ := add51 (t := t 4) (c := o3) (by omega) (by omega) k4
  have e5 : umul .u64 19 o4 = 19 * o4 := umul64 (by decide) (by omega) (by omega)
  obtain ⟨d0, l0⟩ : ∃ c, c = (t 0 + 19 * o4) / 2251799813685248 := ⟨_, rfl⟩
  obtain ⟨u0, v0, x0, y0⟩ := add51 (t := t 0) (c := 19 * o4) (by omega) (by omega) l0
  obtain ⟨d1, l1⟩ : ∃ c, c = (t 1 + d0) / 2251799813685248 := ⟨_, rfl⟩
  obtain ⟨u1, v1, x1, y1⟩ := add51 (t := t 1) (c := d0) (by omega) (by omega) l1
  obtain ⟨d2, l2⟩ : ∃ c, c = (t 2 + d1) / 2251799813685248 := ⟨_, rfl⟩
  obtain ⟨u2, v2, x2, y2⟩ := add51 (t := t 2) (c := d1) (by omega) (by omega) l2
  obtain ⟨d3, l3⟩ : ∃ c, c = (t 3 + d2) / 2251799813685248 := ⟨_, rfl⟩
  obtain ⟨u3, v3, x3, y3⟩ := add51 (t := t 3) (c := d2) (by omega) (by omega) l3
  obtain ⟨d4, l4⟩ : ∃ c, c = (t 4 + d3) / 2251799813685248 := ⟨_, rfl⟩
  obtain ⟨u4, v4, x4, y4⟩ := add51 (t := t 4) (c := d3) (by omega) (by omega) l4
  have e : fleaL t = [t 0 + 19 * o4 - 2251799813685248 * d0, t 1 + d0 - 2251799813685248 * d1, t 2 + d1 - 2251799813685248 * d2, t 3 + d2 - 2251799813685248 * d3, t 4 + d3 - 2251799813685248 * d4] := by
    simp only [fleaL, e0, f0, e1, f1, e2, f2, e3, f3, e4, f4, e5, u0, v0, x0, u1, v1, x1, u2, v2, x2, u3, v3, x3, u4, x4]
  obtain ⟨m0, hm0⟩ : ∃ m, m = t 0 + 19 * o4 - 2251799813685248 * d0 := ⟨_, rfl⟩
  obtain ⟨m1, hm1⟩ : ∃ m, m = t 1 + d0 - 2251799813685248 * d1 := ⟨_, rfl⟩
  obtain ⟨m2, hm2⟩ : ∃ m, m = t 2 + d1 - 2251799813685248 * d2 := ⟨_, rfl⟩
  obtain ⟨m3, hm3⟩ : ∃ m, m = t 3 + d2 - 2251799813685248 * d3 := ⟨_, rfl⟩
  obtain ⟨m4, hm4⟩ : ∃ m, m = t 4 + d3 - 2251799813685248 * d4 := ⟨_, rfl⟩
  obtain ⟨r0, hr0⟩ : ∃ m, m = t 0 + 19 - 2251799813685248 * o0 := ⟨_, rfl⟩
  obtain ⟨r1, hr1⟩ : ∃ m, m = t 1 + o0 - 2251799813685248 * o1 := ⟨_, rfl⟩
  obtain ⟨r2, hr2⟩ : ∃ m, m = t 2 + o1 - 2251799813685248 * o2 := ⟨_, rfl⟩
  obtain ⟨r3, hr3⟩ : ∃ m, m = t 3 + o2 - 2251799813685248 * o3 := ⟨_, rfl⟩
  obtain ⟨r4, hr4⟩ : ∃ m, m = t 4 + o3 - 2251799813685248 * o4 := ⟨_, rfl⟩
  rw [← hm0, ← hm1, ← hm2, ← hm3, ← hm4] at e
  rw [e]
  clear e e0 e1 e2 e3 e4 e5 f0 f1 f2 f3 f4 g0 g1 g2 g3 g4 u0 u1 u2 u3 u4 v0 v1 v2 v3 v4 x0 x1 x2 x3 x4
  have bm0 : 0 ≤ m0 ∧ m0 < 2251799813685248 := by omega
  have bm1 : 0 ≤ m1 ∧ m1 < 2251799813685248 := by omega
  have bm2 : 0 ≤ m2 ∧ m2 < 2251799813685248 := by omega
  have bm3 : 0 ≤ m3 ∧ m3 < 2251799813685248 := by omega
  have bm4 : 0 ≤ m4 ∧ m4 < 2251799813685248 := by omega
  have br0 : 0 ≤ r0 ∧ r0 < 2251799813685248 := by omega
  have br1 : 0 ≤ r1 ∧ r1 < 2251799813685248 := by omega
  have br2 : 0 ≤ r2 ∧ r2 < 2251799813685248 := by omega
  have br3 : 0 ≤ r3 ∧ r3 < 2251799813685248 := by omega
  have br4 : 0 ≤ r4 ∧ r4 < 2251799813685248 := by omega
  refine ⟨⟨bm0, bm1, bm2, bm3, bm4⟩, ?_⟩
  have M := fsum_lt bm0 bm1 bm2 bm3 bm4
  have R := fsum_lt br0 br1 br2 br3 br4
  have hM : m0 + 2251799813685248 * m1 + 5070602400912917605986812821504 * m2 + 11417981541647679048466287755595961091061972992 * m3 + 25711008708143844408671393477458601640355247900524685364822016 * m4 = W5 t + 19 * o4 - 57896044618658097711785492504343953926634992332820282019728792003956564819968 * d4 := by
    clear M R k0 k1 k2 k3 k4 l0 l1 l2 l3 l4; unfold W5; omega
  have hR : r0 + 2251799813685248 * r1 + 5070602400912917605986812821504 * r2 + 11417981541647679048466287755595961091061972992 * r3 + 25711008708143844408671393477458601640355247900524685364822016 * r4 = W5 t + 19 - 57896044618658097711785492504343953926634992332820282019728792003956564819968 * o4 := by
    clear M R hM k0 k1 k2 k3 k4 l0 l1 l2 l3 l4; unfold W5; omega
  have hT : 0 ≤ W5 t ∧ W5 t ≤ 57896044618658097711785492504343953926634992332820282019728792003956564819968 + 5070602400912917605986812821504 := by
    clear M R hM hR k0 k1 k2 k3 k4 l0 l1 l2 l3 l4 hm0 hm1 hm2 hm3 hm4 hr0 hr1 hr2 hr3 hr4; unfold W5; omega
  show m0 + 2251799813685248 * m1 + 5070602400912917605986812821504 * m2 + 11417981541647679048466287755595961091061972992 * m3 + 25711008708143844408671393477458601640355247900524685364822016 * m4 = _
  rw [hM] at M ⊢
  rw [hR] at R
  generalize W5 t = V at *
  clear hM hR k0 k1 k2 k3 k4 l0 l1 l2 l3 l4 hm0 hm1 hm2 hm3 hm4 hr0 hr1 hr2 hr3 hr4 bm0 bm1 bm2 bm3 bm4 br0 br1 br2 br3 br4 h0 h1 h2 h3 h4
  have hd : d4 = o4 := by omega
  subst hd
  exact (emod_of (N := V) (p := Q) (by omega) (by unfold Q; omega) ⟨d4, by unfold Q; omega⟩).symm
def fword (m : Nat → Int) : List Int := [uor (m 0) (ushl .u64 (m 1) 51), uor (ushr (m 1) 13) (ushl .u64 (m 2) 38), uor (ushr (m 2) 26) (ushl .u64 (m 3) 25), uor (ushr (m 3) 39) (ushl .u64 (m 4) 12)]
def fbytL (m : Nat → Int) : List Int :=
  let w := atL (fword m)
  [ucut .u8 (ushr (w 0) 0), ucut .u8 (ushr (w 0) 8), ucut .u8 (ushr (w 0) 16), ucut .u8 (ushr (w 0) 24), ucut .u8 (ushr (w 0) 32), ucut .u8 (ushr (w 0) 40), ucut .u8 (ushr (w 0) 48), ucut .u8 (ushr (w 0) 56), ucut .u8 (ushr (w 1) 0), ucut .u8 (ushr (w 1) 8), ucut .u8 (ushr (w 1) 16), ucut .u8 (ushr (w 1) 24), ucut .u8 (ushr (w 1) 32), ucut .u8 (ushr (w 1) 40), ucut .u8 (ushr (w 1) 48), ucut .u8 (ushr (w 1) 56), ucut .u8 (ushr (w 2) 0), ucut .u8 (ushr (w 2) 8), ucut .u8 (ushr (w 2) 16), ucut .u8 (ushr (w 2) 24), ucut .u8 (ushr (w 2) 32), ucut .u8 (ushr (w 2) 40), ucut .u8 (ushr (w 2) 48), ucut .u8 (ushr (w 2) 56), ucut .u8 (ushr (w 3) 0), ucut .u8 (ushr (w 3) 8), ucut .u8 (ushr (w 3) 16), ucut .u8 (ushr (w 3) 24), ucut .u8 (ushr (w 3) 32), ucut .u8 (ushr (w 3) 40), ucut .u8 (ushr (w 3) 48), ucut .u8 (ushr (w 3) 56)]
theorem fword_spec {m : Nat → Int} (h : FF m) : atL (fword m) 0 = W5 m % 18446744073709551616 ∧ atL (fword m) 1 = W5 m / 18446744073709551616 % 18446744073709551616 ∧ atL (fword m) 2 = W5 m / 340282366920938463463374607431768211456 % 18446744073709551616 ∧ atL (fword m) 3 = W5 m / 6277101735386680763835789423207666416102355444464034512896 % 18446744073709551616 ∧ 0 ≤ W5 m := by
  obtain ⟨h0, h1, h2, h3, h4⟩ := h
  have s1 : ushl .u64 (m 1) 51 = m 1 % 8192 * 2251799813685248 := by rw [show ushl .u64 (m 1) 51 = m 1 * 2251799813685248 % 18446744073709551616 from ushlE _ 51 h1.1]; omega
  have s2 : ushl .u64 (m 2) 38 = m 2 % 67108864 * 274877906944 := by rw [show ushl .u64 (m 2) 38 = m 2 * 274877906944 % 18446744073709551616 from ushlE _ 38 h2.1]; omega
  have s3 : ushl .u64 (m 3) 25 = m 3 % 549755813888 * 33554432 := by rw [show ushl .u64 (m 3) 25 = m 3 * 33554432 % 18446744073709551616 from ushlE _ 25 h3.1]; omega
  have s4 : ushl .u64 (m 4) 12 = m 4 * 4096 := by rw [show ushl .u64 (m 4) 12 = m 4 * 4096 % 18446744073709551616 from ushlE _ 12 h4.1]; omega
  have r1 : ushr (m 1) 13 = m 1 / 8192 := ushrE _ 13 h1.1
  have r2 : ushr (m 2) 26 = m 2 / 67108864 := ushrE _ 26 h2.1
  have r3 : ushr (m 3) 39 = m 3 / 549755813888 := ushrE _ 39 h3.1
  have e0 : atL (fword m) 0 = m 0 + m 1 % 8192 * 2251799813685248 := by
    show uor (m 0) (ushl .u64 (m 1) 51) = _
    rw [s1, uor_add 51 h0.1 (by show _ < (2251799813685248 : Int); omega) (by omega) (by show _ % (2251799813685248 : Int) = 0; omega)]
  have e1 : atL (fword m) 1 = m 1 / 8192 + m 2 % 67108864 * 274877906944 := by
    show uor (ushr (m 1) 13) (ushl .u64 (m 2) 38) = _
    rw [s2, r1, uor_add 38 (by omega) (by show _ < (274877906944 : Int); omega) (by omega) (by show _ % (274877906944 : Int) = 0; omega)]
  have e2 : atL (fword m) 2 = m 2 / 67108864 + m 3 % 549755813888 * 33554432 := by
    show uor (ushr (m 2) 26) (ushl .u64 (m 3) 25) = _
    rw [s3, r2, uor_add 25 (by omega) (by show _ < (33554432 : Int); omega) (by omega) (by show _ % (33554432 : Int) = 0; omega)]
  have e3 : atL (fword m) 3 = m 3 / 549755813888 + m 4 * 4096 := by
    show uor (ushr (m 3) 39) (ushl .u64 (m 4) 12) = _
    rw [s4, r3, uor_add 12 (by omega) (by show _ < (4096 : Int); omega) (by omega) (by show _ % (4096 : Int) = 0; omega)]
  rw [e0, e1, e2, e3]
  clear s1 s2 s3 s4 r1 r2 r3 e0 e1 e2 e3
  unfold W5
  refine ⟨by omega, by omega, by omega, by omega, by omega⟩
theorem fb0 {N : Int} (h : 0 ≤ N) : ucut .u8 (ushr (N % 18446744073709551616) 0) = byteN N 0 := by
  unfold byteN
  rw [show ucut .u8 (ushr (N % 18446744073709551616) 0) = (N % 18446744073709551616) / 1 % 256 from cut_shr 0 (by omega), show ((256 ^ 0 : Nat) : Int) = 1 from rfl]; omega
theorem fb1 {N : Int} (h : 0 ≤ N) : ucut .u8 (ushr (N % 18446744073709551616) 8) = byteN N 1 := by
  unfold byteN
  rw [show ucut .u8 (ushr (N % 18446744073709551616) 8) = (N % 18446744073709551616) / 256 % 256 from cut_shr 8 (by omega), show ((256 ^ 1 : Nat) : Int) = 256 from rfl]; omega
theorem fb2 {N : Int} (h : 0 ≤ N) : ucut .u8 (ushr (N % 18446744073709551616) 16) = byteN N 2 := by
  unfold byteN
  rw [show ucut .u8 (ushr (N % 18446744073709551616) 16) = (N % 18446744073709551616) / 65536 % 256 from cut_shr 16 (by omega), show ((256 ^ 2 : Nat) : Int) = 65536 from rfl]; omega
theorem fb3 {N : Int} (h : 0 ≤ N) : ucut .u8 (ushr (N % 18446744073709551616) 24) = byteN N 3 := by
  unfold byteN
  rw [show ucut .u8 (ushr (N % 18446744073709551616) 24) = (N % 18446744073709551616) / 16777216 % 256 from cut_shr 24 (by omega), show ((256 ^ 3 : Nat) : Int) = 16777216 from rfl]; omega
theorem fb4 {N : Int} (h : 0 ≤ N) : ucut .u8 (ushr (N % 18446744073709551616) 32) = byteN N 4 := by
  unfold byteN
  rw [show ucut .u8 (ushr (N % 18446744073709551616) 32) = (N % 18446744073709551616) / 4294967296 % 256 from cut_shr 32 (by omega), show ((256 ^ 4 : Nat) : Int) = 4294967296 from rfl]; omega
theorem fb5 {N : Int} (h : 0 ≤ N) : ucut .u8 (ushr (N % 18446744073709551616) 40) = byteN N 5 := by
  unfold byteN
  rw [show ucut .u8 (ushr (N % 18446744073709551616) 40) = (N % 18446744073709551616) / 1099511627776 % 256 from cut_shr 40 (by omega), show ((256 ^ 5 : Nat) : Int) = 1099511627776 from rfl]; omega
theorem fb6 {N : Int} (h : 0 ≤ N) : ucut .u8 (ushr (N % 18446744073709551616) 48) = byteN N 6 := by
  unfold byteN
  rw [show ucut .u8 (ushr (N % 18446744073709551616) 48) = (N % 18446744073709551616) / 281474976710656 % 256 from cut_shr 48 (by omega), show ((256 ^ 6 : Nat) : Int) = 281474976710656 from rfl]; omega
theorem fb7 {N : Int} (h : 0 ≤ N) : ucut .u8 (ushr (N % 18446744073709551616) 56) = byteN N 7 := by
  unfold byteN
  rw [show ucut .u8 (ushr (N % 18446744073709551616) 56) = (N % 18446744073709551616) / 72057594037927936 % 256 from cut_shr 56 (by omega), show ((256 ^ 7 : Nat) : Int) = 72057594037927936 from rfl]; omega
theorem fb8 {N : Int} (h : 0 ≤ N) : ucut .u8 (ushr (N / 18446744073709551616 % 18446744073709551616) 0) = byteN N 8 := by
  unfold byteN
  rw [show ucut .u8 (ushr (N / 18446744073709551616 % 18446744073709551616) 0) = (N / 18446744073709551616 % 18446744073709551616) / 1 % 256 from cut_shr 0 (by omega), show ((256 ^ 8 : Nat) : Int) = 18446744073709551616 from rfl]; omega
theorem fb9 {N : Int} (h : 0 ≤ N) : ucut .u8 (ushr (N / 18446744073709551616 % 18446744073709551616) 8) = byteN N 9 := by
  unfold byteN
  rw [show ucut .u8 (ushr (N / 18446744073709551616 % 18446744073709551616) 8) = (N / 18446744073709551616 % 18446744073709551616) / 256 % 256 from cut_shr 8 (by omega), show ((256 ^ 9 : Nat) : Int) = 4722366482869645213696 from rfl]; omega
theorem fb10 {N : Int} (h : 0 ≤ N) : ucut .u8 (ushr (N / 18446744073709551616 % 18446744073709551616) 16) = byteN N 10 := by
  unfold byteN
  rw [show ucut .u8 (ushr (N / 18446744073709551616 % 18446744073709551616) 16) = (N / 18446744073709551616 % 18446744073709551616) / 65536 % 256 from cut_shr 16 (by omega), show ((256 ^ 10 : Nat) : Int) = 1208925819614629174706176 from rfl]; omega
theorem fb11 {N : Int} (h : 0 ≤ N) : ucut .u8 (ushr (N / 18446744073709551616 % 18446744073709551616) 24) = byteN N 11 := by
  unfold byteN
  rw [show ucut .u8 (ushr (N / 18446744073709551616 % 18446744073709551616) 24) = (N / 18446744073709551616 % 18446744073709551616) / 16777216 % 256 from cut_shr 24 (by omega), show ((256 ^ 11 : Nat) : Int) = 309485009821345068724781056 from rfl]; omega
theorem fb12 {N : Int} (h : 0 ≤ N) : ucut .u8 (ushr (N / 18446744073709551616 % 18446744073709551616) 32) = byteN N 12 := by
  unfold byteN
  rw [show ucut .u8 (ushr (N / 18446744073709551616 % 18446744073709551616) 32) = (N / 18446744073709551616 % 18446744073709551616) / 4294967296 % 256 from cut_shr 32 (by omega), show ((256 ^ 12 : Nat) : Int) = 79228162514264337593543950336 from rfl]; omega
theorem fb13 {N : Int} (h : 0 ≤ N) : ucut .u8 (ushr (N / 18446744073709551616 % 18446744073709551616) 40) = byteN N 13 := by
  unfold byteN
  rw [show ucut .u8 (ushr (N / 18446744073709551616 % 18446744073709551616) 40) = (N / 18446744073709551616 % 18446744073709551616) / 1099511627776 % 256 from cut_shr 40 (by omega), show ((256 ^ 13 : Nat) : Int) = 20282409603651670423947251286016 from rfl]; omega
theorem fb14 {N : Int} (h : 0 ≤ N) : ucut .u8 (ushr (N / 18446744073709551616 % 18446744073709551616) 48) = byteN N 14 := by
  unfold byteN
  rw [show ucut .u8 (ushr (N / 18446744073709551616 % 18446744073709551616) 48) = (N / 18446744073709551616 % 18446744073709551616) / 281474976710656 % 256 from cut_shr 48 (by omega), show ((256 ^ 14 : Nat) : Int) = 5192296858534827628530496329220096 from rfl]; omega
theorem fb15 {N : Int} (h : 0 ≤ N) : ucut .u8 (ushr (N / 18446744073709551616 % 18446744073709551616) 56) = byteN N 15 := by
  unfold byteN
  rw [show ucut .u8 (ushr (N / 18446744073709551616 % 18446744073709551616) 56) = (N / 18446744073709551616 % 18446744073709551616) / 72057594037927936 % 256 from cut_shr 56 (by omega), show ((256 ^ 15 : Nat) : Int) = 1329227995784915872903807060280344576 from rfl]; omega
theorem fb16 {N : Int} (h : 0 ≤ N) : ucut .u8 (ushr (N / 340282366920938463463374607431768211456 % 18446744073709551616) 0) = byteN N 16 := by
  unfold byteN
  rw [show ucut .u8 (ushr (N / 340282366920938463463374607431768211456 % 18446744073709551616) 0) = (N / 340282366920938463463374607431768211456 % 18446744073709551616) / 1 % 256 from cut_shr 0 (by omega), show ((256 ^ 16 : Nat) : Int) = 340282366920938463463374607431768211456 from rfl]; omega
theorem fb17 {N : Int} (h : 0 ≤ N) : ucut .u8 (ushr (N / 340282366920938463463374607431768211456 % 18446744073709551616) 8) = byteN N 17 := by
  unfold byteN
  rw [show ucut .u8 (ushr (N / 340282366920938463463374607431768211456 % 18446744073709551616) 8) = (N / 340282366920938463463374607431768211456 % 18446744073709551616) / 256 % 256 from cut_shr 8 (by omega), show ((256 ^ 17 : Nat) : Int) = 87112285931760246646623899502532662132736 from rfl]; omega
theorem fb18 {N : Int} (h : 0 ≤ N) : ucut .u8 (ushr (N / 340282366920938463463374607431768211456 % 18446744073709551616) 16) = byteN N 18 := by
  unfold byteN
  rw [show ucut .u8 (ushr (N / 340282366920938463463374607431768211456 % 18446744073709551616) 16) = (N / 340282366920938463463374607431768211456 % 18446744073709551616) / 65536 % 256 from cut_shr 16 (by omega), show ((256 ^ 18 : Nat) : Int) = 22300745198530623141535718272648361505980416 from rfl]; omega
theorem fb19 {N : Int} (h : 0 ≤ N) : ucut .u8 (ushr (N / 340282366920938463463374607431768211456 % 18446744073709551616) 24) = byteN N 19 := by
  unfold byteN
  rw [show ucut .u8 (ushr (N / 340282366920938463463374607431768211456 % 18446744073709551616) 24) = (N / 340282366920938463463374607431768211456 % 18446744073709551616) / 16777216 % 256 from cut_shr 24 (by omega), show ((256 ^ 19 : Nat) : Int) = 5708990770823839524233143877797980545530986496 from rfl]; omega
theorem fb20 {N : Int} (h : 0 ≤ N) : ucut .u8 (ushr (N / 340282366920938463463374607431768211456 % 18446744073709551616) 32) = byteN N 20 := by
  unfold byteN
  rw [show ucut .u8 (ushr (N / 340282366920938463463374607431768211456 % 18446744073709551616) 32) = (N / 340282366920938463463374607431768211456 % 18446744073709551616) / 4294967296 % 256 from cut_shr 32 (by omega), show ((256 ^ 20 : Nat) : Int) = 1461501637330902918203684832716283019655932542976 from rfl]; omega
theorem fb21 {N : Int} (h : 0 ≤ N) : ucut .u8 (ushr (N / 340282366920938463463374607431768211456 % 18446744073709551616) 40) = byteN N 21 := by
  unfold byteN
  rw [show ucut .u8 (ushr (N / 340282366920938463463374607431768211456 % 18446744073709551616) 40) = (N / 340282366920938463463374607431768211456 % 18446744073709551616) / 1099511627776 % 256 from cut_shr 40 (by omega), show ((256 ^ 21 : Nat) : Int) = 374144419156711147060143317175368453031918731001856 from rfl]; omega
theorem fb22 {N : Int} (h : 0 ≤ N) : ucut .u8 (ushr (N / 340282366920938463463374607431768211456 % 18446744073709551616) 48) = byteN N 22 := by
  unfold byteN
  rw [show ucut .u8 (ushr (N / 340282366920938463463374607431768211456 % 18446744073709551616) 48) = (N / 340282366920938463463374607431768211456 % 18446744073709551616) / 281474976710656 % 256 from cut_shr 48 (by omega), show ((256 ^ 22 : Nat) : Int) = 95780971304118053647396689196894323976171195136475136 from rfl]; omega
theorem fb23 {N : Int} (h : 0 ≤ N) : ucut .u8 (ushr (N / 340282366920938463463374607431768211456 % 18446744073709551616) 56) = byteN N 23 := by
  unfold byteN
  rw [show ucut .u8 (ushr (N / 340282366920938463463374607431768211456 % 18446744073709551616) 56) = (N / 340282366920938463463374607431768211456 % 18446744073709551616) / 72057594037927936 % 256 from cut_shr 56 (by omega), show ((256 ^ 23 : Nat) : Int) = 24519928653854221733733552434404946937899825954937634816 from rfl]; omega
theorem fb24 {N : Int} (h : 0 ≤ N) : ucut .u8 (ushr (N / 6277101735386680763835789423207666416102355444464034512896 % 18446744073709551616) 0) = byteN N 24 := by
  unfold byteN
  rw [show ucut .u8 (ushr (N / 6277101735386680763835789423207666416102355444464034512896 % 18446744073709551616) 0) = (N / 6277101735386680763835789423207666416102355444464034512896 % 18446744073709551616) / 1 % 256 from cut_shr 0 (by omega), show ((256 ^ 24 : Nat) : Int) = 6277101735386680763835789423207666416102355444464034512896 from rfl]; omega
theorem fb25 {N : Int} (h : 0 ≤ N) : ucut .u8 (ushr (N / 6277101735386680763835789423207666416102355444464034512896 % 18446744073709551616) 8) = byteN N 25 := by
  unfold byteN
  rw [show ucut .u8 (ushr (N / 6277101735386680763835789423207666416102355444464034512896 % 18446744073709551616) 8) = (N / 6277101735386680763835789423207666416102355444464034512896 % 18446744073709551616) / 256 % 256 from cut_shr 8 (by omega), show ((256 ^ 25 : Nat) : Int) = 1606938044258990275541962092341162602522202993782792835301376 from rfl]; omega
theorem fb26 {N : Int} (h : 0 ≤ N) : ucut .u8 (ushr (N / 6277101735386680763835789423207666416102355444464034512896 % 18446744073709551616) 16) = byteN N 26 := by
  unfold byteN
  rw [show ucut .u8 (ushr (N / 6277101735386680763835789423207666416102355444464034512896 % 18446744073709551616) 16) = (N / 6277101735386680763835789423207666416102355444464034512896 % 18446744073709551616) / 65536 % 256 from cut_shr 16 (by omega), show ((256 ^ 26 : Nat) : Int) = 411376139330301510538742295639337626245683966408394965837152256 from rfl]; omega
theorem fb27 {N : Int} (h : 0 ≤ N) : ucut .u8 (ushr (N / 6277101735386680763835789423207666416102355444464034512896 % 18446744073709551616) 24) = byteN N 27 := by
  unfold byteN
  rw [show ucut .u8 (ushr (N / 6277101735386680763835789423207666416102355444464034512896 % 18446744073709551616) 24) = (N / 6277101735386680763835789423207666416102355444464034512896 % 18446744073709551616) / 16777216 % 256 from cut_shr 24 (by omega), show ((256 ^ 27 : Nat) : Int) = 105312291668557186697918027683670432318895095400549111254310977536 from rfl]; omega
theorem fb28 {N : Int} (h : 0 ≤ N) : ucut .u8 (ushr (N / 6277101735386680763835789423207666416102355444464034512896 % 18446744073709551616) 32) = byteN N 28 := by
  unfold byteN
  rw [show ucut .u8 (ushr (N / 6277101735386680763835789423207666416102355444464034512896 % 18446744073709551616) 32) = (N / 6277101735386680763835789423207666416102355444464034512896 % 18446744073709551616) / 4294967296 % 256 from cut_shr 32 (by omega), show ((256 ^ 28 : Nat) : Int) = 26959946667150639794667015087019630673637144422540572481103610249216 from rfl]; omega
theorem fb29 {N : Int} (h : 0 ≤ N) : ucut .u8 (ushr (N / 6277101735386680763835789423207666416102355444464034512896 % 18446744073709551616) 40) = byteN N 29 := by
  unfold byteN
  rw [show ucut .u8 (ushr (N / 6277101735386680763835789423207666416102355444464034512896 % 18446744073709551616) 40) = (N / 6277101735386680763835789423207666416102355444464034512896 % 18446744073709551616) / 1099511627776 % 256 from cut_shr 40 (by omega), show ((256 ^ 29 : Nat) : Int) = 6901746346790563787434755862277025452451108972170386555162524223799296 from rfl]; omega
theorem fb30 {N : Int} (h : 0 ≤ N) : ucut .u8 (ushr (N / 6277101735386680763835789423207666416102355444464034512896 % 18446744073709551616) 48) = byteN N 30 := by
  unfold byteN
  rw [show ucut .u8 (ushr (N / 6277101735386680763835789423207666416102355444464034512896 % 18446744073709551616) 48) = (N / 6277101735386680763835789423207666416102355444464034512896 % 18446744073709551616) / 281474976710656 % 256 from cut_shr 48 (by omega), show ((256 ^ 30 : Nat) : Int) = 1766847064778384329583297500742918515827483896875618958121606201292619776 from rfl]; omega
theorem fb31 {N : Int} (h : 0 ≤ N) : ucut .u8 (ushr (N / 6277101735386680763835789423207666416102355444464034512896 % 18446744073709551616) 56) = byteN N 31 := by
  unfold byteN
  rw [show ucut .u8 (ushr (N / 6277101735386680763835789423207666416102355444464034512896 % 18446744073709551616) 56) = (N / 6277101735386680763835789423207666416102355444464034512896 % 18446744073709551616) / 72057594037927936 % 256 from cut_shr 56 (by omega), show ((256 ^ 31 : Nat) : Int) = 452312848583266388373324160190187140051835877600158453279131187530910662656 from rfl]; omega
theorem fbyt_spec {m : Nat → Int} (h : FF m) : fbytL m = listF 32 (byteN (W5 m)) 0 := by
  obtain ⟨e0, e1, e2, e3, n0⟩ := fword_spec h
  generalize W5 m = N at *
  simp only [fbytL, e0, e1, e2, e3]
  rw [fb0 n0, fb1 n0, fb2 n0, fb3 n0, fb4 n0, fb5 n0, fb6 n0, fb7 n0, fb8 n0, fb9 n0, fb10 n0, fb11 n0, fb12 n0, fb13 n0, fb14 n0, fb15 n0, fb16 n0, fb17 n0, fb18 n0, fb19 n0, fb20 n0, fb21 n0, fb22 n0, fb23 n0, fb24 n0, fb25 n0, fb26 n0, fb27 n0, fb28 n0, fb29 n0, fb30 n0, fb31 n0]
  rfl
def fencN (la : List Int) (i : Nat) : Int := (fbytL (atL (fleaL (fcarN la)))).getD i 0
theorem fenc_spec {la : List Int} (h : FS la) : listF 32 (fencN la) 0 = listF 32 (byteN (W5 (atL la) % Q)) 0 := by
  obtain ⟨h1, q, hq⟩ := fcar_spec h.wide
  obtain ⟨f1, f2⟩ := flea_spec h1
  have e : W5 (atL (listF 5 (fcarN la) 0)) = W5 (fcarN la) := rfl
  have e2 : fleaL (atL (listF 5 (fcarN la) 0)) = fleaL (fcarN la) := rfl
  rw [e, hq] at f2
  rw [e2] at f1 f2
  rw [show W5 (atL la) % Q = (W5 (atL la) - Q * q) % Q from (Int.sub_mul_emod_self_left _ _ _).symm, ← f2, ← fbyt_spec f1]
  rfl

/-! ### decoded -/
def fdecL (f : Nat → Int) : List Int := [umask (word8 f 0) 2251799813685247, umask (ushr (word8 f 6) 3) 2251799813685247, umask (ushr (word8 f 12) 6) 2251799813685247, umask (ushr (word8 f 19) 1) 2251799813685247, umask (ushr (word8 f 24) 12) 2251799813685247]
theorem word_at {f : Nat → Int} (h : ∀ i, i < 32 → Byte (f i)) (i : Nat) (hi : i + 8 ≤ 32) : word8 f i = leN 32 f 0 / ((256 ^ i : Nat) : Int) % 18446744073709551616 := by
  have hw : ∀ j, j < 8 → Byte (f (i + j)) := fun j hj => h _ (by omega)
  rw [word8_spec hw]
  have e1 : leN 32 f 0 = leN i f 0 + ((256 ^ i : Nat) : Int) * leN (32 - i) f i := by
    have := leN_add i (32 - i) f 0
    rw [show i + (32 - i) = 32 by omega, Nat.zero_add] at this
    exact this
  have e2 : leN (32 - i) f i = leN 8 f i + 18446744073709551616 * leN (24 - i) f (i + 8) := by
    have := leN_add 8 (24 - i) f i
    rw [show 8 + (24 - i) = 32 - i by omega] at this
    exact this
  have b1 := leN_nonneg i (f := f) 0 (fun j hj => h _ (by omega))
  have b2 := leN_nonneg 8 (f := f) i hw
  have b3 : ((256 ^ 8 : Nat) : Int) = 18446744073709551616 := rfl
  rw [b3] at b2
  have hK : (0 : Int) < ((256 ^ i : Nat) : Int) := by exact_mod_cast Nat.pow_pos (by decide)
  rw [e1, e2]
  generalize ((256 ^ i : Nat) : Int) = K at *
  generalize leN i f 0 = A at *
  generalize leN 8 f i = B at *
  generalize leN (24 - i) f (i + 8) = C at *
  rw [Int.add_mul_ediv_left _ _ (by omega), Int.ediv_eq_zero_of_lt b1.1 b1.2]
  omega
theorem fdec_spec {f : Nat → Int} (h : ∀ i, i < 32 → Byte (f i)) : FS (fdecL f) ∧ W5 (atL (fdecL f)) = leN 32 f 0 % 57896044618658097711785492504343953926634992332820282019728792003956564819968 := by
  have w0 : word8 f 0 = leN 32 f 0 / 1 % 18446744073709551616 := word_at h 0 (by decide)
  have w1 : word8 f 6 = leN 32 f 0 / 281474976710656 % 18446744073709551616 := word_at h 6 (by decide)
  have w2 : word8 f 12 = leN 32 f 0 / 79228162514264337593543950336 % 18446744073709551616 := word_at h 12 (by decide)
  have w3 : word8 f 19 = leN 32 f 0 / 5708990770823839524233143877797980545530986496 % 18446744073709551616 := word_at h 19 (by decide)
  have w4 : word8 f 24 = leN 32 f 0 / 6277101735386680763835789423207666416102355444464034512896 % 18446744073709551616 := word_at h 24 (by decide)
  have n0 := (leN_nonneg 32 (f := f) 0 (fun j hj => h _ (by omega))).1
  generalize leN 32 f 0 = N at *
  have e0 : umask (word8 f 0) 2251799813685247 = N % 2251799813685248 := by rw [w0, umask51 (by omega)]; omega
  have e1 : umask (ushr (word8 f 6) 3) 2251799813685247 = N / 2251799813685248 % 2251799813685248 := by
    rw [w1, show ushr (N / 281474976710656 % 18446744073709551616) 3 = N / 281474976710656 % 18446744073709551616 / 8 from ushrE _ 3 (by omega), umask51 (by omega)]; omega
  have e2 : umask (ushr (word8 f 12) 6) 2251799813685247 = N / 5070602400912917605986812821504 % 2251799813685248 := by
    rw [w2, show ushr (N / 79228162514264337593543950336 % 18446744073709551616) 6 = N / 79228162514264337593543950336 % 18446744073709551616 / 64 from ushrE _ 6 (by omega), umask51 (by omega)]; omega
  have e3 : umask (ushr (word8 f 19) 1) 2251799813685247 = N / 11417981541647679048466287755595961091061972992 % 2251799813685248 := by
    rw [w3, show ushr (N / 5708990770823839524233143877797980545530986496 % 18446744073709551616) 1 = N / 5708990770823839524233143877797980545530986496 % 18446744073709551616 / 2 from ushrE _ 1 (by omega), umask51 (by omega)]; omega
  have e4 : umask (ushr (word8 f 24) 12) 2251799813685247 = N / 25711008708143844408671393477458601640355247900524685364822016 % 2251799813685248 := by
    rw [w4, show ushr (N / 6277101735386680763835789423207666416102355444464034512896 % 18446744073709551616) 12 = N / 6277101735386680763835789423207666416102355444464034512896 % 18446744073709551616 / 4096 from ushrE _ 12 (by omega), umask51 (by omega)]; omega
  have e : fdecL f = [N % 2251799813685248, N / 2251799813685248 % 2251799813685248, N / 5070602400912917605986812821504 % 2251799813685248, N / 11417981541647679048466287755595961091061972992 % 2251799813685248, N / 25711008708143844408671393477458601640355247900524685364822016 % 2251799813685248] := by
    simp only [fdecL, e0, e1, e2, e3, e4]
  rw [e]
  clear e e0 e1 e2 e3 e4 w0 w1 w2 w3 w4
  refine ⟨?_, ?_⟩
  · simp only [FS, atL, List.getD_cons_zero, List.getD_cons_succ]
    refine ⟨by omega, by omega, by omega, by omega, by omega⟩
  · simp only [W5, atL, List.getD_cons_zero, List.getD_cons_succ]
    omega
end Go.Vx

/- Prime numbers: Fermat's little theorem, and a test for primes (Pocklington). Plain law. -/
namespace Go.Vx

def Pr (p : Nat) : Prop := 2 ≤ p ∧ ∀ m, m ∣ p → m = 1 ∨ m = p
theorem Pr.coprime {p a : Nat} (h : Pr p) (hn : ¬ p ∣ a) : Nat.gcd p a = 1 := by
  rcases h.2 _ (Nat.gcd_dvd_left p a) with e | e
  · exact e
  · exact absurd (e ▸ Nat.gcd_dvd_right p a) hn
theorem Pr.dvd_mul {p a b : Nat} (h : Pr p) (hd : p ∣ a * b) : p ∣ a ∨ p ∣ b := by
  by_cases ha : p ∣ a
  · exact .inl ha
  · exact .inr (Nat.Coprime.dvd_of_dvd_mul_left (h.coprime ha) hd)
theorem Pr.exists : ∀ n : Nat, 2 ≤ n → ∃ p, Pr p ∧ p ∣ n := by
  intro n
  induction n using Nat.strongRecOn with
  | ind n ih =>
    intro hn
    by_cases h : ∃ m, m ∣ n ∧ m ≠ 1 ∧ m ≠ n
    · obtain ⟨m, hm, h1, h2⟩ := h
      have hpos : 0 < m := Nat.pos_of_dvd_of_pos hm (by omega)
      have hle : m ≤ n := Nat.le_of_dvd (by omega) hm
      obtain ⟨p, hp, hd⟩ := ih m (by omega) (by omega)
      exact ⟨p, hp, Nat.dvd_trans hd hm⟩
    · refine ⟨n, ⟨hn, fun m hm => ?_⟩, Nat.dvd_refl n⟩
      by_cases h1 : m = 1
      · exact .inl h1
      · by_cases h2 : m = n
        · exact .inr h2
        · exact absurd ⟨m, hm, h1, h2⟩ h

/-! ### Fermat -/
def ch : Nat → Nat → Nat
  | _, 0 => 1
  | 0, _ + 1 => 0
  | n + 1, k + 1 => ch n k + ch n (k + 1)
theorem ch_zero (n : Nat) : ch n 0 = 1 := by cases n <;> rfl
theorem ch_over : ∀ (n k : Nat), n < k → ch n k = 0
  | 0, k + 1, _ => rfl
  | n + 1, k + 1, h => by
    show ch n k + ch n (k + 1) = 0
    rw [ch_over n k (by omega), ch_over n (k + 1) (by omega)]
theorem ch_self : ∀ n, ch n n = 1
  | 0 => rfl
  | n + 1 => by show ch n n + ch n (n + 1) = 1; rw [ch_self n, ch_over n (n + 1) (by omega)]
theorem ch_mul : ∀ n k, (k + 1) * ch (n + 1) (k + 1) = (n + 1) * ch n k
  | 0, 0 => rfl
  | 0, k + 1 => by
    show (k + 1 + 1) * (ch 0 (k + 1) + ch 0 (k + 1 + 1)) = (0 + 1) * ch 0 (k + 1)
    rw [ch_over 0 (k + 1) (by omega), ch_over 0 (k + 1 + 1) (by omega)]; omega
  | n + 1, 0 => by
    have h := ch_mul n 0
    show (0 + 1) * (ch (n + 1) 0 + ch (n + 1) 1) = (n + 1 + 1) * ch (n + 1) 0
    rw [ch_zero] at h ⊢
    rw [Nat.zero_add] at h
    omega
  | n + 1, j + 1 => by
    have h1 := ch_mul n j
    have h2 := ch_mul n (j + 1)
    show (j + 1 + 1) * (ch (n + 1) (j + 1) + ch (n + 1) (j + 1 + 1)) = (n + 1 + 1) * ch (n + 1) (j + 1)
    rw [Nat.mul_add, h2]
    have e : ch (n + 1) (j + 1) = ch n j + ch n (j + 1) := rfl
    rw [Nat.add_mul (j + 1) 1, Nat.one_mul, h1, Nat.add_mul (n + 1) 1, Nat.one_mul]
    rw [e, Nat.mul_add]
    omega
def sm (n x : Nat) : Nat → Nat
  | 0 => 0
  | m + 1 => sm n x m + ch n m * x ^ m
theorem sm_succ (n x : Nat) : ∀ m, sm (n + 1) x (m + 1) = x * sm n x m + sm n x (m + 1)
  | 0 => by simp [sm, ch_zero]
  | m + 1 => by
    have ih := sm_succ n x m
    show sm (n + 1) x (m + 1) + (ch n m + ch n (m + 1)) * x ^ (m + 1) = x * (sm n x m + ch n m * x ^ m) + (sm n x (m + 1) + ch n (m + 1) * x ^ (m + 1))
    rw [ih, Nat.add_mul, Nat.mul_add, Nat.pow_succ]
    have : ch n m * (x ^ m * x) = x * (ch n m * x ^ m) := by rw [← Nat.mul_assoc, Nat.mul_comm]
    omega
theorem pow_sm (x : Nat) : ∀ n, (x + 1) ^ n = sm n x (n + 1)
  | 0 => by simp [sm, ch_zero]
  | n + 1 => by
    have ih := pow_sm x n
    rw [sm_succ n x (n + 1), Nat.pow_succ, ih]
    have e : sm n x (n + 1 + 1) = sm n x (n + 1) := by
      show sm n x (n + 1) + ch n (n + 1) * x ^ (n + 1) = _
      rw [ch_over n (n + 1) (by omega)]; omega
    rw [e, Nat.mul_add, Nat.mul_one, Nat.mul_comm]
theorem ch_dvd {p : Nat} (h : Pr p) {k : Nat} (h0 : 0 < k) (h1 : k < p) : p ∣ ch p k := by
  obtain ⟨n, rfl⟩ : ∃ n, p = n + 1 := ⟨p - 1, by have := h.1; omega⟩
  obtain ⟨j, rfl⟩ : ∃ j, k = j + 1 := ⟨k - 1, by omega⟩
  have e := ch_mul n j
  rcases h.dvd_mul (a := j + 1) (b := ch (n + 1) (j + 1)) ⟨ch n j, e⟩ with hd | hd
  · have := Nat.le_of_dvd (by omega) hd
    omega
  · exact hd
theorem sm_mod {p : Nat} (h : Pr p) (x : Nat) : ∀ m, m + 1 ≤ p → sm p x (m + 1) % p = 1 % p
  | 0, _ => by simp [sm, ch_zero]
  | m + 1, hm => by
    have ih := sm_mod h x m (by omega)
    obtain ⟨c, hc⟩ := ch_dvd h (k := m + 1) (by omega) (by omega)
    show (sm p x (m + 1) + ch p (m + 1) * x ^ (m + 1)) % p = _
    rw [hc, Nat.mul_assoc, Nat.add_mul_mod_self_left, ih]
theorem fermat {p : Nat} (h : Pr p) : ∀ a, a ^ p % p = a % p
  | 0 => by
    have := h.1
    obtain ⟨n, rfl⟩ : ∃ n, p = n + 1 := ⟨p - 1, by omega⟩
    simp [Nat.pow_succ]
  | a + 1 => by
    have ih := fermat h a
    have hs := sm_mod h a (p - 1) (by have := h.1; omega)
    rw [show p - 1 + 1 = p by have := h.1; omega] at hs
    rw [pow_sm]
    show (sm p a p + ch p p * a ^ p) % p = _
    rw [ch_self, Nat.one_mul, Nat.add_mod, hs, ih, ← Nat.add_mod, Nat.add_comm]
theorem fermat1 {p : Nat} (h : Pr p) {a : Nat} (ha : ¬ p ∣ a) : a ^ (p - 1) % p = 1 := by
  have h2 := h.1
  have hf := fermat h a
  have e : a ^ p = a ^ (p - 1) * a := by rw [← Nat.pow_succ]; congr 1; omega
  have hpos : 0 < a := by
    rcases Nat.eq_zero_or_pos a with h0 | h0
    · subst h0; exact absurd (Nat.dvd_zero p) ha
    · exact h0
  have h1 : 1 ≤ a ^ (p - 1) := Nat.pow_pos hpos
  have hd : p ∣ a * (a ^ (p - 1) - 1) := by
    rw [Nat.mul_sub, Nat.mul_one, Nat.mul_comm, ← e]
    have hle : a ≤ a ^ p := by rw [e]; exact Nat.le_mul_of_pos_left a h1
    exact Nat.dvd_of_mod_eq_zero (Nat.sub_mod_eq_zero_of_mod_eq hf)
  rcases h.dvd_mul hd with h3 | h3
  · exact absurd h3 ha
  · obtain ⟨c, hc⟩ := h3
    have : a ^ (p - 1) = 1 + p * c := by omega
    rw [this, Nat.add_mul_mod_self_left, Nat.mod_eq_of_lt (by omega)]

/-! ### a test for primes -/
/-- a raised to e, modulo n -/
def pm (n a : Nat) : Nat → Nat → Nat
  | 0, _ => 1 % n
  | f + 1, e => if e % 2 = 1 then (pm n (a * a % n) f (e / 2)) * a % n else pm n (a * a % n) f (e / 2)
theorem pm_eq (n : Nat) : ∀ (f a e : Nat), e < 2 ^ f → pm n a f e = a ^ e % n
  | 0, a, e, h => by
    have : e = 0 := by simpa using h
    subst this; rfl
  | f + 1, a, e, h => by
    have ih := pm_eq n f (a * a % n) (e / 2) (by rw [Nat.pow_succ] at h; omega)
    have hp : (a * a % n) ^ (e / 2) % n = a ^ (2 * (e / 2)) % n := by
      rw [← Nat.pow_mod, Nat.pow_mul, Nat.pow_two]
    show (if e % 2 = 1 then _ else _) = _
    by_cases ho : e % 2 = 1
    · rw [if_pos ho, ih, hp, Nat.mod_mul_mod, ← Nat.pow_succ]
      congr 2; omega
    · rw [if_neg ho, ih, hp]
      congr 2; omega
theorem one_gcd {l b : Nat} (hl : 2 ≤ l) : ∀ (m n : Nat), b ^ m % l = 1 → b ^ n % l = 1 → b ^ (Nat.gcd m n) % l = 1 := by
  intro m
  induction m using Nat.strongRecOn with
  | ind m ih =>
    intro n hm hn
    by_cases h0 : m = 0
    · subst h0; rw [Nat.gcd_zero_left]; exact hn
    · rw [Nat.gcd_rec]
      refine ih (n % m) (Nat.mod_lt _ (by omega)) m ?_ hm
      have e : n = m * (n / m) + n % m := (Nat.div_add_mod n m).symm
      rw [e, Nat.pow_add, Nat.pow_mul, Nat.mul_mod, Nat.pow_mod, hm, Nat.one_pow, Nat.mod_eq_of_lt (by omega : 1 < l), Nat.one_mul, Nat.mod_mod] at hn
      exact hn
/-- every prime that divides n is 1 more than a multiple of p -/
theorem pock_step {n p a : Nat} (hn : 2 ≤ n) (hp : Pr p) (hd : p ∣ n - 1) (h1 : a ^ (n - 1) % n = 1) (h2 : Nat.gcd (a ^ ((n - 1) / p) % n + n - 1) n = 1) {l : Nat} (hl : Pr l) (hln : l ∣ n) : p ∣ l - 1 := by
  by_cases hc : p ∣ l - 1
  · exact hc
  · exfalso
    have l2 := hl.1
    obtain ⟨b, hb⟩ : ∃ b, b = a ^ ((n - 1) / p) := ⟨_, rfl⟩
    have e1 : b ^ p % l = 1 := by
      rw [hb, ← Nat.pow_mul, Nat.div_mul_cancel hd, ← Nat.mod_mod_of_dvd _ hln, h1, Nat.mod_eq_of_lt (by omega)]
    have hlb : ¬ l ∣ b := fun hh => by
      obtain ⟨c, hc⟩ := hh
      have p2 := hp.1
      rw [hc, show p = (p - 1) + 1 by omega, Nat.pow_succ, Nat.mul_left_comm, Nat.mul_mod_right] at e1
      omega
    have e2 := fermat1 hl hlb
    have e3 := one_gcd l2 p (l - 1) e1 e2
    rw [hp.coprime hc, Nat.pow_one] at e3
    have e4 : l ∣ b % n + n - 1 := by
      have h4 : (b % n) % l = 1 := by rw [Nat.mod_mod_of_dvd _ hln]; exact e3
      have h5 : 1 ≤ b % n := by
        rcases Nat.eq_zero_or_pos (b % n) with h0 | h0
        · rw [h0] at h4; simp at h4
        · exact h0
      obtain ⟨c, hc⟩ := hln
      have h6 : b % n = l * (b % n / l) + 1 := by have := Nat.div_add_mod (b % n) l; omega
      refine ⟨b % n / l + c, ?_⟩
      rw [Nat.mul_add, ← hc]; omega
    have e5 : l ∣ 1 := by rw [← h2]; exact Nat.dvd_gcd (hb ▸ e4) hln
    have := Nat.le_of_dvd (by omega) e5
    omega
theorem two_dvd {p q m : Nat} (hp : Pr p) (hq : Pr q) (hne : p ≠ q) (h1 : p ∣ m) (h2 : q ∣ m) : p * q ∣ m := by
  refine Nat.Coprime.mul_dvd_of_dvd_of_dvd (hp.coprime fun h => ?_) h1 h2
  rcases hq.2 _ h with e | e
  · have := hp.1; omega
  · exact hne e
theorem pr_of {n F : Nat} (hn : 2 ≤ n) (hF : n < F * F) (h : ∀ l, Pr l → l ∣ n → F ∣ l - 1) : Pr n := by
  refine ⟨hn, fun m hm => ?_⟩
  by_cases h1 : m = 1
  · exact .inl h1
  · right
    have m0 : 0 < m := Nat.pos_of_dvd_of_pos hm (by omega)
    obtain ⟨k, hk⟩ := hm
    have big : ∀ x, 2 ≤ x → x ∣ n → F < x := fun x hx hd => by
      obtain ⟨l, hl, hlx⟩ := Pr.exists x hx
      have := Nat.le_of_dvd (by have := hl.1; omega) (h l hl (Nat.dvd_trans hlx hd))
      have := Nat.le_of_dvd (by omega) hlx
      omega
    have b1 := big m (by omega) ⟨k, hk⟩
    by_cases k1 : k = 1
    · rw [hk, k1, Nat.mul_one]
    · have k0 : 0 < k := by
        rcases Nat.eq_zero_or_pos k with h0 | h0
        · subst h0; omega
        · exact h0
      have b2 := big k (by omega) ⟨m, by rw [hk, Nat.mul_comm]⟩
      have := Nat.mul_lt_mul'' b1 b2
      omega
theorem pock1 {n p a : Nat} (hp : Pr p) (hn : 2 ≤ n) (hd : (n - 1) % p = 0) (hF : n < p * p) {f : Nat} (hf : n < 2 ^ f) (h1 : pm n a f (n - 1) = 1) (h2 : Nat.gcd (pm n a f ((n - 1) / p) + n - 1) n = 1) : Pr n := by
  rw [pm_eq n f a _ (by omega)] at h1
  rw [pm_eq n f a _ (Nat.lt_of_le_of_lt (Nat.div_le_self _ _) (by omega))] at h2
  exact pr_of hn hF fun l hl hln => pock_step hn hp (Nat.dvd_of_mod_eq_zero hd) h1 h2 hl hln
theorem pock2 {n p q a b : Nat} (hp : Pr p) (hq : Pr q) (hne : p ≠ q) (hn : 2 ≤ n) (hd : (n - 1) % p = 0) (hd' : (n - 1) % q = 0) (hF : n < (p * q) * (p * q)) {f : Nat} (hf : n < 2 ^ f) (h1 : pm n a f (n - 1) = 1) (h2 : Nat.gcd (pm n a f ((n - 1) / p) + n - 1) n = 1)
    (h3 : pm n b f (n - 1) = 1) (h4 : Nat.gcd (pm n b f ((n - 1) / q) + n - 1) n = 1) : Pr n := by
  rw [pm_eq n f _ _ (by omega)] at h1 h3
  rw [pm_eq n f _ _ (Nat.lt_of_le_of_lt (Nat.div_le_self _ _) (by omega))] at h2 h4
  exact pr_of hn hF fun l hl hln => two_dvd hp hq hne (pock_step hn hp (Nat.dvd_of_mod_eq_zero hd) h1 h2 hl hln) (pock_step hn hq (Nat.dvd_of_mod_eq_zero hd') h3 h4 hl hln)
/-- by trial -/
def noDiv (n : Nat) : Nat → Bool
  | 0 => true
  | 1 => true
  | k + 2 => (n % (k + 2) != 0) && noDiv n (k + 1)
theorem noDiv_spec {n : Nat} : ∀ {k : Nat}, noDiv n k = true → ∀ m, 2 ≤ m → m ≤ k → ¬ m ∣ n
  | 0, _, m, h1, h2 => by omega
  | 1, _, m, h1, h2 => by omega
  | k + 2, h, m, h1, h2 => by
    simp only [noDiv, Bool.and_eq_true, bne_iff_ne, ne_eq] at h
    by_cases e : m = k + 2
    · subst e; exact fun hd => h.1 (Nat.mod_eq_zero_of_dvd hd)
    · exact noDiv_spec h.2 m h1 (by omega)
theorem trial {n k : Nat} (hn : 2 ≤ n) (hk : n < (k + 1) * (k + 1)) (h : noDiv n k = true) : Pr n := by
  refine ⟨hn, fun m hm => ?_⟩
  by_cases h1 : m = 1
  · exact .inl h1
  · right
    obtain ⟨j, hj⟩ := hm
    have m0 : 0 < m := by
      rcases Nat.eq_zero_or_pos m with h0 | h0
      · subst h0; omega
      · exact h0
    have a1 : k < m := by
      by_cases hle : m ≤ k
      · exact absurd ⟨j, hj⟩ (noDiv_spec h m (by omega) hle)
      · omega
    by_cases j1 : j = 1
    · rw [hj, j1, Nat.mul_one]
    · have j0 : 0 < j := by
        rcases Nat.eq_zero_or_pos j with h0 | h0
        · subst h0; omega
        · exact h0
      have a2 : k < j := by
        by_cases hle : j ≤ k
        · exact absurd ⟨m, by rw [hj, Nat.mul_comm]⟩ (noDiv_spec h j (by omega) hle)
        · omega
      have := Nat.mul_le_mul (show k + 1 ≤ m from a1) (show k + 1 ≤ j from a2)
      omega
end Go.Vx

/- 2^255 - 19 is prime. -/
namespace Go.Vx
theorem pr_a : Pr 8574133 := trial (k := 2928) (by decide) (by decide) (by kernel_rfl)
theorem pr_b : Pr 47 := trial (k := 6) (by decide) (by decide) (by kernel_rfl)
theorem pr_c : Pr 75707 := trial (k := 275) (by decide) (by decide) (by kernel_rfl)
theorem pr_d : Pr 353 := trial (k := 18) (by decide) (by decide) (by kernel_rfl)
theorem pr_e : Pr 1919519569386763 := pock2 (p := 8574133) (q := 47) (a := 2) (b := 2) (f := 51) pr_a pr_b (by decide) (by decide) (by decide) (by decide) (by decide) (by decide +kernel) (by kernel_rfl) (by kernel_rfl) (by kernel_rfl) (by kernel_rfl)
theorem pr_f : Pr 75445702479781427272750846543864801 := pock2 (p := 1919519569386763) (q := 75707) (a := 2) (b := 2) (f := 116) pr_e pr_c (by decide) (by decide) (by decide) (by decide) (by decide) (by decide +kernel) (by kernel_rfl) (by kernel_rfl) (by kernel_rfl) (by kernel_rfl)
theorem pr_g : Pr 74058212732561358302231226437062788676166966415465897661863160754340907 := pock2 (p := 75445702479781427272750846543864801) (q := 353) (a := 2) (b := 2) (f := 236) pr_f pr_d (by decide) (by decide) (by decide) (by decide) (by decide) (by decide +kernel) (by kernel_rfl) (by kernel_rfl) (by kernel_rfl) (by kernel_rfl)
theorem pr_Q : Pr 57896044618658097711785492504343953926634992332820282019728792003956564819949 := pock1 (p := 74058212732561358302231226437062788676166966415465897661863160754340907) (a := 2) (f := 255) pr_g (by decide) (by decide) (by decide) (by decide +kernel) (by kernel_rfl) (by kernel_rfl)
end Go.Vx

/- Inverses modulo 2^255 - 19. Plain law. -/
namespace Go.Vx
open Go

def Qn : Nat := 57896044618658097711785492504343953926634992332820282019728792003956564819949
theorem Qn_pr : Pr Qn := pr_Q
theorem Q_Qn : Q = (Qn : Int) := rfl
theorem zpow_mod (n : Int) (e : Nat) : n ^ e % Q = (((n % Q).toNat ^ e % Qn : Nat) : Int) := by
  have h0 : 0 ≤ n % Q := Int.emod_nonneg _ (by decide)
  obtain ⟨m, hm⟩ := Int.eq_ofNat_of_zero_le h0
  have e1 : n ^ e % Q = (n % Q) ^ e % Q := by
    induction e with
    | zero => rw [Int.pow_zero, Int.pow_zero]
    | succ e ih => rw [Int.pow_succ, Int.pow_succ, Int.mul_emod, ih, Int.mul_emod ((n % Q) ^ e) (n % Q), Int.emod_emod_of_dvd n (Int.dvd_refl Q)]
  rw [e1, hm, Int.toNat_natCast, Q_Qn, ← Int.natCast_pow, ← Int.natCast_emod]
theorem fermatQ {n : Int} (h : n % Q ≠ 0) : n ^ (Qn - 1) % Q = 1 := by
  rw [zpow_mod]
  have h0 : 0 ≤ n % Q := Int.emod_nonneg _ (by decide)
  have h1 : n % Q < Q := Int.emod_lt_of_pos _ (by decide)
  rw [fermat1 Qn_pr fun hd => ?_]
  · rfl
  · obtain ⟨m, hm⟩ := Int.eq_ofNat_of_zero_le h0
    rw [hm, Int.toNat_natCast] at hd
    have := Nat.le_of_dvd (by omega) hd
    rw [hm, Q_Qn] at h1
    omega
theorem zmul_zero {a b : Int} (h : a * b % Q = 0) : a % Q = 0 ∨ b % Q = 0 := by
  have ha : 0 ≤ a % Q := Int.emod_nonneg _ (by decide)
  have hb : 0 ≤ b % Q := Int.emod_nonneg _ (by decide)
  have la : a % Q < Q := Int.emod_lt_of_pos _ (by decide)
  have lb : b % Q < Q := Int.emod_lt_of_pos _ (by decide)
  rw [Int.mul_emod] at h
  obtain ⟨x, hx⟩ := Int.eq_ofNat_of_zero_le ha
  obtain ⟨y, hy⟩ := Int.eq_ofNat_of_zero_le hb
  rw [hx, hy, Q_Qn, ← Int.natCast_mul, ← Int.natCast_emod] at h
  rw [hx, Q_Qn] at la
  rw [hy, Q_Qn] at lb
  have hd : Qn ∣ x * y := Nat.dvd_of_mod_eq_zero (by omega)
  rcases Qn_pr.dvd_mul hd with h1 | h1
  · left
    rw [hx]
    rcases Nat.eq_zero_or_pos x with h2 | h2
    · omega
    · have := Nat.le_of_dvd h2 h1; omega
  · right
    rw [hy]
    rcases Nat.eq_zero_or_pos y with h2 | h2
    · omega
    · have := Nat.le_of_dvd h2 h1; omega
/-- powers, reckoned modulo Q -/
def pwN (a : Int) : Nat → Int
  | 0 => a
  | n + 1 => pwN a n * pwN a n * a
def invP (n : Int) : Int :=
  let y := pwN n 249
  let y1 := y * y
  let y2 := y1 * y1 * n
  let y3 := y2 * y2
  let y4 := y3 * y3 * n
  y4 * y4 * n
def ex : Nat → Nat
  | 0 => 1
  | n + 1 => ex n + ex n + 1
theorem pwN_pow (a : Int) : ∀ n, pwN a n = a ^ ex n
  | 0 => by show a = a ^ (0 + 1); rw [Int.pow_succ, Int.pow_zero, Int.one_mul]
  | n + 1 => by
    show pwN a n * pwN a n * a = _
    rw [pwN_pow a n, ← Int.pow_add, ← Int.pow_succ]; rfl
theorem invP_pow (n : Int) : invP n = n ^ (Qn - 2) := by
  have h : ∀ {x : Int} {e : Nat}, x = n ^ e → x * x = n ^ (e + e) := fun h => by rw [h, ← Int.pow_add]
  have h' : ∀ {x : Int} {e : Nat}, x = n ^ e → x * n = n ^ (e + 1) := fun h => by rw [h, ← Int.pow_succ]
  have h0 := pwN_pow n 249
  have r := h' (h (h' (h (h (h' (h (h h0)))))))
  have e : ((ex 249 + ex 249 + (ex 249 + ex 249) + 1 + (ex 249 + ex 249 + (ex 249 + ex 249) + 1) + (ex 249 + ex 249 + (ex 249 + ex 249) + 1 + (ex 249 + ex 249 + (ex 249 + ex 249) + 1)) + 1 + (ex 249 + ex 249 + (ex 249 + ex 249) + 1 + (ex 249 + ex 249 + (ex 249 + ex 249) + 1) + (ex 249 + ex 249 + (ex 249 + ex 249) + 1 + (ex 249 + ex 249 + (ex 249 + ex 249) + 1)) + 1) + 1)) = Qn - 2 := by kernel_rfl
  rw [e] at r
  exact r
theorem inv_zero {n : Int} (h : n % Q = 0) : invP n % Q = 0 := by
  obtain ⟨e, he⟩ : ∃ e, Qn - 2 = e + 1 := ⟨Qn - 3, by decide⟩
  rw [invP_pow, he, Int.pow_succ, Int.mul_emod, h, Int.mul_zero]; rfl
theorem inv_mul {n : Int} (h : n % Q ≠ 0) : n * invP n % Q = 1 := by
  have e : Qn - 1 = Qn - 2 + 1 := by decide
  have hf := fermatQ h
  rw [e, Int.pow_succ, Int.mul_comm, ← invP_pow] at hf
  exact hf
theorem inv_nz {n : Int} (h : n % Q ≠ 0) : invP n % Q ≠ 0 := fun h2 => by
  have := inv_mul h
  rw [Int.mul_emod, h2, Int.mul_zero] at this
  exact absurd this (by decide)
theorem emod_mul_l {a b c : Int} (h : a % Q = b % Q) : c * a % Q = c * b % Q := by rw [Int.mul_emod, h, ← Int.mul_emod]
theorem emod_mul_r {a b c : Int} (h : a % Q = b % Q) : a * c % Q = b * c % Q := by rw [Int.mul_emod, h, ← Int.mul_emod]
theorem inv_inv (n : Int) : invP (invP n) % Q = n % Q := by
  by_cases h : n % Q = 0
  · rw [inv_zero (inv_zero h), h]
  · have h1 := inv_mul h
    have h2 := inv_mul (inv_nz h)
    have e1 : n * (invP n * invP (invP n)) % Q = n * 1 % Q := emod_mul_l h2
    have e2 : n * invP n * invP (invP n) % Q = 1 * invP (invP n) % Q := emod_mul_r h1
    rw [Int.mul_assoc, e1, Int.mul_one, Int.one_mul] at e2
    exact e2.symm
theorem inv_prod (a b : Int) : invP (a * b) = invP a * invP b := by rw [invP_pow, invP_pow, invP_pow, Int.mul_pow]
end Go.Vx

/- Numbers as sixteen digits of 16 bits. Plain law. -/
namespace Go.Vx
open Go

/-- the number of n digits to the base 65536 from the i-th on -/
def hx : Nat → (Nat → Int) → Nat → Int
  | 0, _, _ => 0
  | n + 1, f, i => f i + 65536 * hx n f (i + 1)
abbrev E255 : Int := 57896044618658097711785492504343953926634992332820282019728792003956564819968
def dgN (N : Int) (i : Nat) : Int := if i = 15 then N / ((65536 ^ 15 : Nat) : Int) % 32768 else N / ((65536 ^ i : Nat) : Int) % 65536
/-- what is carried into the i-th digit -/
def hcr (t : Nat → Int) : Nat → Int
  | 0 => 0
  | i + 1 => (t i + hcr t i) / 65536
theorem hx_nonneg : ∀ (n : Nat) {f : Nat → Int} (i : Nat), (∀ j, j < n → 0 ≤ f (i + j)) → 0 ≤ hx n f i
  | 0, f, i, _ => by simp [hx]
  | n + 1, f, i, h => by
    have h0 := h 0 (by omega)
    have h1 := hx_nonneg n (f := f) (i + 1) (fun j hj => by have := h (j + 1) (by omega); rw [show i + 1 + j = i + (j + 1) by omega]; exact this)
    simp only [hx]
    rw [Nat.add_zero] at h0
    omega
theorem hx_carry {t : Nat → Int} : ∀ (i n : Nat), hx (i + n) t 0 / ((65536 ^ i : Nat) : Int) = hcr t i + hx n t i
  | 0, n => by simp [hcr]
  | i + 1, n => by
    have ih := hx_carry (t := t) i (n + 1)
    have e : ((65536 ^ (i + 1) : Nat) : Int) = ((65536 ^ i : Nat) : Int) * 65536 := by rw [Nat.pow_succ]; omega
    rw [e, ← Int.ediv_ediv_of_nonneg (by exact Int.natCast_nonneg _), show i + 1 + n = i + (n + 1) by omega, ih]
    simp only [hx, hcr]
    omega
theorem hx_digit {t : Nat → Int} {i : Nat} (hi : i < 16) : (t i + hcr t i) % 65536 = hx 16 t 0 / ((65536 ^ i : Nat) : Int) % 65536 := by
  have e := hx_carry (t := t) i (15 - i + 1)
  have e1 : hx 16 t 0 = hx (i + (15 - i + 1)) t 0 := by rw [show i + (15 - i + 1) = 16 by omega]
  rw [e1, e]; simp only [hx]; omega
theorem hx_last {t : Nat → Int} : t 15 + hcr t 15 = hx 16 t 0 / ((65536 ^ 15 : Nat) : Int) := by
  have e := hx_carry (t := t) 15 1
  rw [show (16 : Nat) = 15 + 1 from rfl, e]; simp only [hx]; omega
theorem hcr_lt {t : Nat → Int} {B : Int} (hB : 65536 ≤ B) (h : ∀ j, j < 16 → -B < t j ∧ t j < B) : ∀ i, i ≤ 16 → -B ≤ hcr t i ∧ hcr t i < B
  | 0, _ => by simp only [hcr]; omega
  | i + 1, hi => by
    have ih := hcr_lt hB h i (by omega)
    have := h i (by omega)
    simp only [hcr]
    omega
theorem hx_congr : ∀ (n : Nat) {f g : Nat → Int} (i : Nat), (∀ j, j < n → f (i + j) = g (i + j)) → hx n f i = hx n g i
  | 0, _, _, _, _ => rfl
  | n + 1, f, g, i, h => by
    simp only [hx]
    have h0 := h 0 (by omega)
    rw [Nat.add_zero] at h0
    have h1 := hx_congr n (f := f) (g := g) (i + 1) (fun j hj => by have := h (j + 1) (by omega); rw [show i + 1 + j = i + (j + 1) by omega]; exact this)
    rw [h0, h1]
/-- the digits of a number -/
theorem hx_digits : ∀ (n : Nat) (N : Int) (i : Nat), hx n (fun j => N / ((65536 ^ j : Nat) : Int) % 65536) i = N / ((65536 ^ i : Nat) : Int) % ((65536 ^ n : Nat) : Int)
  | 0, N, i => by simp [hx, Int.emod_one]
  | n + 1, N, i => by
    simp only [hx, hx_digits n N (i + 1)]
    have e : ((65536 ^ (i + 1) : Nat) : Int) = ((65536 ^ i : Nat) : Int) * 65536 := by rw [Nat.pow_succ]; omega
    have e2 : ((65536 ^ (n + 1) : Nat) : Int) = 65536 * ((65536 ^ n : Nat) : Int) := by rw [Nat.pow_succ]; omega
    rw [e, ← Int.ediv_ediv_of_nonneg (by exact Int.natCast_nonneg _), e2]
    generalize N / ((65536 ^ i : Nat) : Int) = M
    have hK : (0 : Int) < ((65536 ^ n : Nat) : Int) := by exact_mod_cast Nat.pow_pos (by decide)
    generalize ((65536 ^ n : Nat) : Int) = K at hK
    have h1 := Int.emod_nonneg (M / 65536) (show K ≠ 0 by omega)
    have h2 := Int.emod_lt_of_pos (M / 65536) hK
    have h3 := Int.mul_ediv_add_emod (M / 65536) K
    refine (emod_of (by omega) (by omega) ⟨M / 65536 / K, ?_⟩).symm
    have h4 : 65536 * K * (M / 65536 / K) = 65536 * (K * (M / 65536 / K)) := Int.mul_assoc _ _ _
    rw [h4]
    omega
theorem p15 : ((65536 ^ 15 : Nat) : Int) = 1766847064778384329583297500742918515827483896875618958121606201292619776 := rfl
theorem p16 : ((65536 ^ 16 : Nat) : Int) = 115792089237316195423570985008687907853269984665640564039457584007913129639936 := rfl
theorem hx_dgN (N : Int) : hx 16 (dgN N) 0 = N % E255 := by
  have h1 : hx 16 (dgN N) 0 = hx 15 (dgN N) 0 + 1766847064778384329583297500742918515827483896875618958121606201292619776 * dgN N 15 := by
    have split : ∀ (n : Nat) (f : Nat → Int) (i : Nat), hx (n + 1) f i = hx n f i + ((65536 ^ n : Nat) : Int) * f (i + n) := by
      intro n
      induction n with
      | zero => intro f i; simp [hx]
      | succ n ih =>
        intro f i
        rw [show hx (n + 1 + 1) f i = f i + 65536 * hx (n + 1) f (i + 1) from rfl, ih f (i + 1), show hx (n + 1) f i = f i + 65536 * hx n f (i + 1) from rfl, Nat.pow_succ, show i + 1 + n = i + (n + 1) by omega]
        have : (((65536 ^ n * 65536 : Nat)) : Int) = 65536 * ((65536 ^ n : Nat) : Int) := by omega
        rw [this, Int.mul_add, Int.mul_assoc, Int.add_assoc]
    rw [show (16 : Nat) = 15 + 1 from rfl, split 15, p15, Nat.zero_add]
  have h2 : hx 15 (dgN N) 0 = hx 15 (fun j => N / ((65536 ^ j : Nat) : Int) % 65536) 0 := hx_congr 15 0 fun j hj => by
    show dgN N (0 + j) = N / ((65536 ^ (0 + j) : Nat) : Int) % 65536
    unfold dgN; rw [if_neg (by omega)]
  have h3 := hx_digits 15 N 0
  have e0 : ((65536 ^ 0 : Nat) : Int) = 1 := rfl
  rw [e0, p15, Int.ediv_one] at h3
  have e15 : dgN N 15 = N / 1766847064778384329583297500742918515827483896875618958121606201292619776 % 32768 := rfl
  rw [h1, h2, h3, e15]
  simp only [E255]
  omega
theorem dgN_bound (N : Int) (i : Nat) : 0 ≤ dgN N i ∧ dgN N i < 65536 ∧ (i = 15 → dgN N i < 32768) := by
  unfold dgN
  split
  · refine ⟨by omega, by omega, fun _ => by omega⟩
  · refine ⟨by omega, by omega, fun h => absurd h (by assumption)⟩
end Go.Vx

/- Sums and products of numbers of sixteen digits. Plain law. -/
namespace Go.Vx
open Go

theorem hx_plus : ∀ (n : Nat) (f g : Nat → Int) (i : Nat), hx n (fun j => f j + g j) i = hx n f i + hx n g i
  | 0, _, _, _ => rfl
  | n + 1, f, g, i => by simp only [hx, hx_plus n f g (i + 1)]; omega
theorem hx_minus : ∀ (n : Nat) (f g : Nat → Int) (i : Nat), hx n (fun j => f j - g j) i = hx n f i - hx n g i
  | 0, _, _, _ => rfl
  | n + 1, f, g, i => by simp only [hx, hx_minus n f g (i + 1)]; omega
theorem hx_times (c : Int) : ∀ (n : Nat) (f : Nat → Int) (i : Nat), hx n (fun j => c * f j) i = c * hx n f i
  | 0, _, _ => by simp [hx]
  | n + 1, f, i => by
    simp only [hx, hx_times c n f (i + 1), Int.mul_add]
    rw [Int.mul_left_comm]
theorem hx_null : ∀ (n : Nat) {f : Nat → Int} (i : Nat), (∀ j, j < n → f (i + j) = 0) → hx n f i = 0
  | 0, _, _, _ => rfl
  | n + 1, f, i, h => by
    simp only [hx]
    have h0 := h 0 (by omega)
    rw [Nat.add_zero] at h0
    rw [h0, hx_null n (i + 1) (fun j hj => by have := h (j + 1) (by omega); rw [show i + 1 + j = i + (j + 1) by omega]; exact this)]
    rfl
theorem hx_cut : ∀ (n m : Nat) (f : Nat → Int) (i : Nat), hx (n + m) f i = hx n f i + ((65536 ^ n : Nat) : Int) * hx m f (i + n)
  | 0, m, f, i => by simp [hx]
  | n + 1, m, f, i => by
    rw [show n + 1 + m = (n + m) + 1 by omega]
    simp only [hx, hx_cut n m f (i + 1)]
    have e : ((65536 ^ (n + 1) : Nat) : Int) = 65536 * ((65536 ^ n : Nat) : Int) := by rw [Nat.pow_succ]; omega
    rw [e, show i + 1 + n = i + (n + 1) by omega, Int.mul_add, Int.mul_assoc]
    omega
theorem hx_moved : ∀ (n : Nat) {f g : Nat → Int} (i k : Nat), (∀ j, j < n → f (i + j) = g (k + j)) → hx n f i = hx n g k
  | 0, _, _, _, _, _ => rfl
  | n + 1, f, g, i, k, h => by
    simp only [hx]
    have h0 := h 0 (by omega)
    rw [Nat.add_zero, Nat.add_zero] at h0
    rw [h0, hx_moved n (f := f) (g := g) (i + 1) (k + 1) (fun j hj => by have := h (j + 1) (by omega); rw [show i + 1 + j = i + (j + 1) by omega, show k + 1 + j = k + (j + 1) by omega]; exact this)]

/-- the columns after i rows -/
def mwC (a b : Nat → Int) : Nat → Nat → Int
  | 0, _ => 0
  | i + 1, j => bif (Nat.ble i j).and (Nat.blt j (i + 16)) then mwC a b i j + a i * b (j - i) else mwC a b i j
/-- one row -/
def mrC (a b : Nat → Int) (i j : Nat) : Int := bif (Nat.ble i j).and (Nat.blt j (i + 16)) then a i * b (j - i) else 0
theorem mwC_succ (a b : Nat → Int) (i j : Nat) : mwC a b (i + 1) j = mwC a b i j + mrC a b i j := by
  simp only [mwC, mrC]
  cases (Nat.ble i j).and (Nat.blt j (i + 16)) <;> simp
theorem mr_in {a b : Nat → Int} {i j : Nat} (h : i ≤ j) (h2 : j < i + 16) : mrC a b i j = a i * b (j - i) := by
  have e : (Nat.ble i j).and (Nat.blt j (i + 16)) = true := by
    rw [Bool.and_eq_true, Nat.ble_eq, Nat.blt_eq]; exact ⟨h, h2⟩
  simp only [mrC, e, cond_true]
theorem mr_out {a b : Nat → Int} {i j : Nat} (h : j < i ∨ i + 16 ≤ j) : mrC a b i j = 0 := by
  have e : (Nat.ble i j).and (Nat.blt j (i + 16)) = false := by
    rw [← Bool.not_eq_true, Bool.and_eq_true, Nat.ble_eq, Nat.blt_eq]; omega
  simp only [mrC, e, cond_false]
theorem hx_row (a b : Nat → Int) {i : Nat} (hi : i < 16) : hx 32 (mrC a b i) 0 = ((65536 ^ i : Nat) : Int) * (a i * hx 16 b 0) := by
  have e : (32 : Nat) = i + (16 + (16 - i)) := by omega
  rw [e, hx_cut i, hx_cut 16, hx_null i 0 (fun j hj => mr_out (.inl (by omega))), hx_null (16 - i) _ (fun j hj => mr_out (.inr (by omega)))]
  rw [hx_moved 16 (f := mrC a b i) (g := fun j => a i * b j) (0 + i) 0 (fun j hj => by
    rw [mr_in (by omega) (by omega), show 0 + i + j - i = 0 + j by omega]), hx_times]
  simp
theorem hx_rows (a b : Nat → Int) : ∀ i, i ≤ 16 → hx 32 (mwC a b i) 0 = hx i a 0 * hx 16 b 0
  | 0, _ => by rw [hx_null 32 0 (fun j _ => rfl)]; simp [hx]
  | i + 1, h => by
    have e : mwC a b (i + 1) = fun j => mwC a b i j + mrC a b i j := funext fun j => mwC_succ a b i j
    rw [e, hx_plus, hx_rows a b i (by omega), hx_row a b (by omega), hx_cut i 1]
    simp only [hx, Nat.zero_add, Int.mul_zero, Int.add_zero]
    rw [Int.add_mul, Int.mul_assoc]
theorem hx_prod (a b : Nat → Int) : hx 32 (mwC a b 16) 0 = hx 16 a 0 * hx 16 b 0 := hx_rows a b 16 (Nat.le_refl _)

theorem mul_bound {x y : Int} (hx : 0 ≤ x ∧ x ≤ 65535) (hy : 0 ≤ y ∧ y ≤ 65535) : 0 ≤ x * y ∧ x * y ≤ 4294836225 := by
  refine ⟨Int.mul_nonneg hx.1 hy.1, ?_⟩
  have := Int.mul_le_mul hx.2 hy.2 hy.1 (by decide : (0 : Int) ≤ 65535)
  omega
theorem mr_bound {a b : Nat → Int} (ha : ∀ j, j < 16 → 0 ≤ a j ∧ a j ≤ 65535) (hb : ∀ j, j < 16 → 0 ≤ b j ∧ b j ≤ 65535) {i : Nat} (hi : i < 16) (j : Nat) : 0 ≤ mrC a b i j ∧ mrC a b i j ≤ 4294836225 := by
  by_cases h : i ≤ j ∧ j < i + 16
  · rw [mr_in h.1 h.2]; exact mul_bound (ha i hi) (hb _ (by omega))
  · rw [mr_out (by omega)]; decide
theorem mw_bound {a b : Nat → Int} (ha : ∀ j, j < 16 → 0 ≤ a j ∧ a j ≤ 65535) (hb : ∀ j, j < 16 → 0 ≤ b j ∧ b j ≤ 65535) : ∀ (i : Nat), i ≤ 16 → ∀ j, 0 ≤ mwC a b i j ∧ mwC a b i j ≤ 4294836225 * i
  | 0, _, j => by simp [mwC]
  | i + 1, h, j => by
    have ih := mw_bound ha hb i (by omega) j
    have h1 := mr_bound ha hb (i := i) (by omega) j
    rw [mwC_succ]
    omega
/-- the columns folded by 2^256 = 38 -/
def mtC (a b : Nat → Int) (i : Nat) : Int := mwC a b 16 i + 38 * mwC a b 16 (i + 16)
theorem hx_mt (a b : Nat → Int) : ∃ q, hx 16 (mtC a b) 0 = hx 16 a 0 * hx 16 b 0 - 57896044618658097711785492504343953926634992332820282019728792003956564819949 * q := by
  have h := hx_prod a b
  rw [show (32 : Nat) = 16 + 16 from rfl, hx_cut 16 16] at h
  have e : hx 16 (mtC a b) 0 = hx 16 (mwC a b 16) 0 + 38 * hx 16 (mwC a b 16) (0 + 16) := by
    show hx 16 (fun j => mwC a b 16 j + 38 * mwC a b 16 (j + 16)) 0 = _
    rw [hx_plus, hx_times, hx_moved 16 (f := fun j => mwC a b 16 (j + 16)) (g := mwC a b 16) 0 (0 + 16) (fun j _ => by
      show mwC a b 16 (0 + j + 16) = _; rw [show 0 + j + 16 = 0 + 16 + j by omega])]
  rw [p16] at h
  refine ⟨2 * hx 16 (mwC a b 16) (0 + 16), ?_⟩
  rw [e, ← h]
  omega
end Go.Vx

/- Chunks that change their number; a nil slice in a chunk's last cell as a slice of its own. -/
namespace Go.Vx
open Go
section
variable {w0 : World} {O : Own} {ρ : Rho} {w : World} {Φ : Nat → Foot}

theorem relH_adoptB {B : List Body} {k : Nat} {cs : List SV} {bd : Body} (hk : B[k]? = some (.cells (cs ++ [.raw (.slice none 0 0)]))) (hb : emptyB bd) (hn : ρ B.length = none) (x : RelH w0 O ρ (BH B) w Φ) :
    RelH w0 O (upR ρ B.length (.sl none 0 0)) (BH (B.set k (.cells (cs ++ [.own B.length])) ++ [bd])) w (upF Φ B.length fun _ _ => False) := by
  have hkl : k < B.length := (List.getElem?_eq_some_iff.1 hk).1
  have y := x.adopt hn hb
  have hk2 : upH (BH B) B.length (some bd) k = some (.cells (cs ++ [.raw (.slice none 0 0)])) := by
    unfold upH; rw [if_neg (by omega)]; exact hk
  have z := y.swap (i := k) (bd' := .cells (cs ++ [.own B.length])) hk2 (fun hd hr hh => by
    cases hd with
    | sl a b c => exact hh.elim
    | «at» b base =>
      obtain ⟨q1, q2, q3⟩ := hh
      refine ⟨trivial, ?_, ?_⟩
      · have : (cellsOf (Body.cells (cs ++ [SV.own B.length]))).length = (cellsOf (Body.cells (cs ++ [SV.raw (.slice none 0 0)]))).length := by simp [cellsOf]
        rw [this]; exact q2
      · intro j c hj
        by_cases hlt : j < cs.length
        · refine q3 j c ?_
          have h1 : (cs ++ [SV.own B.length])[j]? = some c := hj
          show (cs ++ [SV.raw (.slice none 0 0)])[j]? = some c
          rw [List.getElem?_append_left hlt] at h1 ⊢
          exact h1
        · have h1 : (cs ++ [SV.own B.length])[j]? = some c := hj
          have hj2 : j = cs.length := by
            have := (List.getElem?_eq_some_iff.1 h1).1
            simp at this; omega
          subst hj2
          simp at h1; subst h1
          obtain ⟨v, a1, a2, a3, a4⟩ := q3 cs.length (.raw (.slice none 0 0)) (by show (cs ++ [SV.raw (.slice none 0 0)])[cs.length]? = _; simp)
          refine ⟨v, a1, ?_, a3, a4⟩
          simp only [DenC] at a2 ⊢
          obtain ⟨e, _⟩ := a2
          simp at e; subst e
          exact ⟨none, 0, 0, by simp [upR], rfl⟩)
  refine relH_funext (fun j => ?_) z
  unfold upH BH
  by_cases e : j = k
  · subst e
    rw [if_pos rfl, List.getElem?_append_left (by simpa using hkl)]
    simp [hkl]
  · rw [if_neg e]
    by_cases e2 : j = B.length
    · subst e2; simp
    · rw [if_neg e2]
      by_cases hjl : j < B.length
      · rw [List.getElem?_append_left (by simpa using hjl), List.getElem?_set_ne (Ne.symm e)]
      · rw [List.getElem?_eq_none (Nat.le_of_not_lt hjl), List.getElem?_eq_none (by simp; omega)]
end

theorem SimC.adoptB {P : Program} {w0 : World} {O : Own} {nT m : Nat} {c : Code} {S S1 : List (Nat × SV)} {B B1 : List Body} {e : Ex} {k : Nat} {cs : List SV} (bd : Body) (hk : B[k]? = some (.cells (cs ++ [.raw (.slice none 0 0)]))) (hb : emptyB bd)
    (h : SimC P w0 O nT c S (B.set k (.cells (cs ++ [.own B.length])) ++ [bd]) e S1 B1 m) : SimC P w0 O nT c S B e S1 B1 m := by
  intro ρ Φ a w r hr
  have hn := hr B.length (Nat.le_refl _)
  have x := relH_adoptB hk hb hn r.heap
  refine wpL_mono (h _ _ a w ⟨r.size, r.defers, fun t' => DenV.mono (Ext.up hn _) (r.tmps t'), x⟩ fun j hj => by
    simp at hj
    simp [upR, show j ≠ B.length by omega]; exact hr j (by omega)) fun e' a' w' ⟨he, ρ', Φ', q1, q2, q3⟩ => ⟨he, ρ', Φ', fun j hd hj hh => q1 j hd hj (Ext.up hn _ j hd hh), q2, q3⟩

theorem FnOk.adoptB {g : Ctx} {f : FuncId} {args : List SV} {B : List Body} {k : Nat} {cs : List SV} {bd bd' : Body} {v v' : SV} {upd upd' : List (Nat × Option Body)} {C C' : List Prop} (hk : B[k]? = some (.cells (cs ++ [.raw (.slice none 0 0)]))) (hb : emptyB bd) (hnd : (upto B.length ++ [B.length + 1]).Nodup)
    (h : FnOk g f args (B.set k (.cells (cs ++ [.own B.length])) ++ [bd]) { val := v, upd, new := [bd'], C })
    (hv : mapC (idx (upto B.length ++ [B.length + 1])) v = v') (hu : ∀ y ∈ upd', y.1 < B.length) {bd2 : Body}
    (hL : ∀ j, j < B.length + 1 → renH (afterH (B.set k (.cells (cs ++ [.own B.length])) ++ [bd]) { val := v, upd, new := [bd'], C }) (upto B.length ++ [B.length + 1]) j = afterH B { val := v', upd := upd', new := [bd2], C := C' } j) :
    FnOk g f args B { val := v', upd := upd', new := [bd2], C := C' } := by
  intro w0 O hG ρ Φ vs w d x hr
  have hn := hr B.length (Nat.le_refl _)
  have hlen : (B.set k (.cells (cs ++ [.own B.length])) ++ [bd]).length = B.length + 1 := by simp
  have hidl : (upto B.length ++ [B.length + 1]).length = B.length + 1 := by simp [upto_length]
  refine (h w0 O hG _ _ vs w (DenT.mono (Ext.up hn _) _ _ d) (relH_adoptB hk hb hn x) (fun j hj => by
    rw [hlen] at hj
    simp [upR, show j ≠ B.length by omega]; exact hr j (by omega))).mono fun u w' ⟨ρ', Φ', p1, p2, p3, p4⟩ => ?_
  refine ⟨inR ρ' (upto B.length ++ [B.length + 1]), inF Φ' (upto B.length ++ [B.length + 1]), ?_, fun j hd hj => ?_, fun j hj => ?_, ?_⟩
  · rw [← hv]; exact denV_map (inR_idx ρ' _) p1
  · have hjl : j < B.length := by
      rcases Nat.lt_or_ge j B.length with e | e
      · exact e
      · rw [hr j e] at hj; simp at hj
    have : (upto B.length ++ [B.length + 1])[j]? = some j := by rw [List.getElem?_append_left (by rw [upto_length]; exact hjl), upto_get, if_pos hjl]
    simp [inR, this]
    exact p2 j hd (Ext.up hn _ j hd hj)
  · simp at hj
    simp [inR, List.getElem?_eq_none (show (upto B.length ++ [B.length + 1]).length ≤ j by omega)]
  · refine relH_funext (fun j => ?_) (relH_ren p4 hnd)
    rcases Nat.lt_or_ge j (B.length + 1) with hj | hj
    · exact hL j hj
    · unfold renH afterH newH
      rw [List.getElem?_eq_none (by omega), newAll_get, if_neg (by simp; omega)]
      simp only [Option.bind_none, Option.map_none]
      rw [updAll_far upd' (BH B) (fun y hy => by have := hu y hy; omega)]
      simp [BH, List.getElem?_eq_none (show B.length ≤ j by omega)]

/-- a chunk that stays, told of under a new number -/
theorem FnOk.shift {g : Ctx} {f : FuncId} {args : List SV} {B : List Body} {i : Nat} {v v' : SV} {upd upd' : List (Nat × Option Body)} {C C' : List Prop} {bd : Body} (ids : List Nat) (hi : i < B.length) (hlen : ids.length = B.length + 1) (hnd : ids.Nodup)
    (h1 : ∀ j, j < B.length → j ≠ i → ids[j]? = some j) (h2 : ids[i]? = some (B.length + 1))
    (h : FnOk g f args B { val := v, upd, C }) (hv : mapC (idx ids) v = v') (hu : ∀ y ∈ upd', y.1 < B.length)
    (hL : ∀ j, j < B.length + 1 → renH (afterH B { val := v, upd, C }) ids j = afterH B { val := v', upd := upd', new := [bd], C := C' } j) :
    FnOk g f args B { val := v', upd := upd', new := [bd], C := C' } := by
  intro w0 O hG ρ Φ vs w d x hr
  refine (h w0 O hG ρ Φ vs w d x hr).mono fun u w' ⟨ρ', Φ', p1, p2, p3, p4⟩ => ?_
  have hE : Ext (inR ρ' ids) (fun j => if j = i then ρ' i else inR ρ' ids j) := fun j hd hj => by
    by_cases e : j = i
    · subst e
      simp only [inR, h2, Option.bind_some] at hj
      rw [p3 (B.length + 1) (by simp)] at hj
      simp at hj
    · simp only [if_neg e]; exact hj
  refine ⟨fun j => if j = i then ρ' i else inR ρ' ids j, inF Φ' ids, ?_, fun j hd hj => ?_, fun j hj => ?_, ?_⟩
  · rw [← hv]; exact DenV.mono hE (denV_map (inR_idx ρ' ids) p1)
  · have hjl : j < B.length := by
      rcases Nat.lt_or_ge j B.length with e | e
      · exact e
      · rw [hr j e] at hj; simp at hj
    by_cases e : j = i
    · subst e; simp; exact p2 j hd hj
    · simp only [if_neg e]
      simp [inR, h1 j hjl e]
      exact p2 j hd hj
  · simp at hj
    show (if j = i then ρ' i else inR ρ' ids j) = none
    rw [if_neg (by omega)]
    simp [inR, List.getElem?_eq_none (show ids.length ≤ j by omega)]
  · refine relH_funext (fun j => ?_) ((relH_ren p4 hnd).mono hE)
    rcases Nat.lt_or_ge j (B.length + 1) with hj | hj
    · exact hL j hj
    · unfold renH afterH newH
      rw [List.getElem?_eq_none (by omega), newAll_get, if_neg (by simp; omega)]
      simp only [Option.bind_none, Option.map_none]
      rw [updAll_far upd' (BH B) (fun y hy => by have := hu y hy; omega)]
      simp [BH, List.getElem?_eq_none (show B.length ≤ j by omega)]

theorem impL_app : ∀ {a c b d : List SV}, ImpL a c → ImpL b d → ImpL (a ++ b) (c ++ d)
  | [], [], _, _, _, h => h
  | x :: a, y :: c, b, d, h, h2 => ⟨h.1, impL_app h.2 h2⟩
  | [], _ :: _, _, _, h, _ => h.elim
  | _ :: _, [], _, _, h, _ => h.elim
theorem ro_facts {w0 : World} {O : Own} {ρ : Rho} {sz n : Nat} {f : Nat → SV} {v : Value} (h : DenV w0 O ρ (.ro sz n f) v) : ∀ i, i < n → factsC (f i) := fun i hi => by
  rcases h with h | ⟨_, h⟩
  · simp at h
  · simp only [DenC] at h
    obtain ⟨a, cap, _, _, h3⟩ := h
    obtain ⟨b, o, _, h4⟩ := h3 (by omega)
    obtain ⟨us, _, _, h5⟩ := h4 i hi
    exact denC_facts _ _ h5
end Go.Vx

/- Plain law of numbers in bytes, as lists: what is carried, folded, least modulo 2^130 - 5. -/
namespace Go.Vx

/-- what is carried out of the first digits -/
def bcr (t : Nat → Int) : Nat → Int
  | 0 => 0
  | i + 1 => (bcr t i + t i) / 256
theorem bcr_leN {t : Nat → Int} : ∀ (i n : Nat), leN (i + n) t 0 / ((256 ^ i : Nat) : Int) = bcr t i + leN n t i
  | 0, n => by simp [bcr]
  | i + 1, n => by
    have ih := bcr_leN (t := t) i (n + 1)
    have e : ((256 ^ (i + 1) : Nat) : Int) = ((256 ^ i : Nat) : Int) * 256 := by rw [Nat.pow_succ]; omega
    rw [e, ← Int.ediv_ediv_of_nonneg (by exact Int.natCast_nonneg _), show i + 1 + n = i + (n + 1) by omega, ih]
    simp only [leN, bcr]
    omega
theorem bcr_end {t : Nat → Int} (n : Nat) : leN n t 0 / ((256 ^ n : Nat) : Int) = bcr t n := by
  have := bcr_leN (t := t) n 0
  simpa [leN] using this
theorem bcr_byte {t : Nat → Int} {n i : Nat} (hi : i < n) : (bcr t i + t i) % 256 = byteN (leN n t 0) i := by
  have e := bcr_leN (t := t) i (n - 1 - i + 1)
  rw [show i + (n - 1 - i + 1) = n by omega] at e
  unfold byteN
  rw [e]; simp only [leN]; omega
theorem bcr_bound {t : Nat → Int} {n : Nat} {M : Int} (hM : 0 ≤ M) (h : ∀ i, i < n → 0 ≤ t i ∧ t i ≤ M) : ∀ i, i ≤ n → 0 ≤ bcr t i ∧ bcr t i ≤ M
  | 0, _ => by simp only [bcr]; omega
  | i + 1, hi => by
    have ih := bcr_bound hM h i (by omega)
    have := h i (by omega)
    simp only [bcr]
    omega
def cdP (l : List Int) (n : Nat) : List Int := (List.range n).map fun i => (bcr (atL l) i + atL l i) % 256
theorem cdP_succ (l : List Int) (n : Nat) : cdP l (n + 1) = cdP l n ++ [(bcr (atL l) n + atL l n) % 256] := by
  unfold cdP; rw [List.range_succ, List.map_append]; rfl
theorem listF_map (n : Nat) (f : Nat → Int) : listF n f 0 = (List.range n).map f := by
  apply List.ext_getElem?
  intro j
  rw [listF_get, List.getElem?_map]
  by_cases h : j < n
  · rw [if_pos h, List.getElem?_range h, Nat.zero_add]; rfl
  · rw [if_neg h, List.getElem?_eq_none (by simp; omega)]; rfl
abbrev valL (l : List Int) : Int := leN l.length (atL l) 0
theorem cdP_all (l : List Int) : cdP l l.length = listF l.length (byteN (valL l)) 0 := by
  rw [listF_map]
  unfold cdP
  refine List.map_congr_left fun i hi => ?_
  exact bcr_byte (List.mem_range.1 hi)

theorem leN_congr : ∀ (n : Nat) {f g : Nat → Int} (i : Nat), (∀ j, j < n → f (i + j) = g (i + j)) → leN n f i = leN n g i
  | 0, _, _, _, _ => rfl
  | n + 1, f, g, i, h => by
    simp only [leN]
    have h0 := h 0 (by omega)
    rw [Nat.add_zero] at h0
    have h1 := leN_congr n (f := f) (g := g) (i + 1) (fun j hj => by have := h (j + 1) (by omega); rw [show i + 1 + j = i + (j + 1) by omega]; exact this)
    rw [h0, h1]
theorem leN_plus : ∀ (n : Nat) (f g : Nat → Int) (i : Nat), leN n (fun j => f j + g j) i = leN n f i + leN n g i
  | 0, _, _, _ => by simp [leN]
  | n + 1, f, g, i => by simp only [leN]; rw [leN_plus n f g (i + 1)]; omega
theorem leN_times (c : Int) : ∀ (n : Nat) (f : Nat → Int) (i : Nat), leN n (fun j => c * f j) i = c * leN n f i
  | 0, _, _ => by simp [leN]
  | n + 1, f, i => by
    simp only [leN]; rw [leN_times c n f (i + 1), Int.mul_add, ← Int.mul_assoc, ← Int.mul_assoc, Int.mul_comm c 256]
theorem leN_null : ∀ (n : Nat) {f : Nat → Int} (i : Nat), (∀ j, j < n → f (i + j) = 0) → leN n f i = 0
  | 0, _, _, _ => rfl
  | n + 1, f, i, h => by
    simp only [leN]
    have h0 := h 0 (by omega)
    rw [Nat.add_zero] at h0
    rw [h0, leN_null n (i + 1) fun j hj => by have := h (j + 1) (by omega); rw [show i + 1 + j = i + (j + 1) by omega]; exact this]
    rfl
theorem leN_moved : ∀ (n : Nat) {f g : Nat → Int} (i k : Nat), (∀ j, j < n → f (i + j) = g (k + j)) → leN n f i = leN n g k
  | 0, _, _, _, _, _ => rfl
  | n + 1, f, g, i, k, h => by
    simp only [leN]
    have h0 := h 0 (by omega)
    rw [Nat.add_zero, Nat.add_zero] at h0
    rw [h0, leN_moved n (i + 1) (k + 1) fun j hj => by have := h (j + 1) (by omega); rw [show i + 1 + j = i + (j + 1) by omega, show k + 1 + j = k + (j + 1) by omega]; exact this]
theorem leN_pos : ∀ (n : Nat) {f : Nat → Int} (i : Nat), (∀ j, j < n → 0 ≤ f (i + j)) → 0 ≤ leN n f i
  | 0, _, _, _ => by simp [leN]
  | n + 1, f, i, h => by
    simp only [leN]
    have h0 := h 0 (by omega)
    rw [Nat.add_zero] at h0
    have := leN_pos n (f := f) (i + 1) fun j hj => by have := h (j + 1) (by omega); rw [show i + 1 + j = i + (j + 1) by omega]; exact this
    omega
/-! ### what lies above 130 digits -/
abbrev E130 : Int := 1361129467683753853853498429727072845824
def foldV (V : Int) : Int := V % E130 + 5 * (V / E130)
def hQ (f : Nat → Int) (j : Nat) : Int := f j / 4 + f (j + 1) % 4 * 64
theorem leN_hQ (f : Nat → Int) : ∀ (m i : Nat), leN m (hQ f) i = (leN m f i + ((256 ^ m : Nat) : Int) * (f (i + m) % 4)) / 4
  | 0, i => by simp only [leN]; have : ((256 ^ 0 : Nat) : Int) = 1 := rfl; rw [this]; omega
  | m + 1, i => by
    simp only [leN]
    rw [leN_hQ f m (i + 1)]
    have e : ((256 ^ (m + 1) : Nat) : Int) = 256 * ((256 ^ m : Nat) : Int) := by rw [Nat.pow_succ]; omega
    rw [e, show i + 1 + m = i + (m + 1) by omega, Int.mul_assoc]
    unfold hQ
    cases m with
    | zero =>
      simp only [leN]
      have : ((256 ^ 0 : Nat) : Int) = 1 := rfl
      rw [this, show i + (0 + 1) = i + 1 from rfl]
      omega
    | succ m =>
      have e : ((256 ^ (m + 1) : Nat) : Int) = 256 * ((256 ^ m : Nat) : Int) := by rw [Nat.pow_succ]; omega
      rw [e, Int.mul_assoc]
      simp only [leN]
      generalize ((256 ^ m : Nat) : Int) * (f (i + (m + 1 + 1)) % 4) = Y
      generalize leN m f (i + 1 + 1) = Z
      omega
def lowF (f : Nat → Int) (j : Nat) : Int := if j < 16 then f j else f 16 % 4
def lowS (f : Nat → Int) (k j : Nat) : Int := lowF f j + (if j < k then 5 * hQ f (16 + j) else 0)
theorem p256_16 : ((256 ^ 16 : Nat) : Int) = 340282366920938463463374607431768211456 := rfl
theorem low_fold {l : List Int} (h1 : 17 ≤ l.length) (h2 : l.length ≤ 33) (hb : ∀ j, j < l.length → Byte (atL l j)) : leN 17 (lowS (atL l) (l.length - 16)) 0 = foldV (valL l) := by
  obtain ⟨m, hm⟩ : ∃ m, l.length = 16 + (m + 1) := ⟨l.length - 17, by omega⟩
  have hz : atL l (16 + (m + 1)) = 0 := by unfold atL; rw [List.getD_eq_getElem?_getD, List.getElem?_eq_none (by omega)]; rfl
  have hm' : m + 1 ≤ 17 := by omega
  unfold valL
  rw [hm] at hb ⊢
  rw [show 16 + (m + 1) - 16 = m + 1 by omega]
  have e0 : leN 17 (lowS (atL l) (m + 1)) 0 = leN 17 (lowF (atL l)) 0 + leN 17 (fun j => if j < m + 1 then 5 * hQ (atL l) (16 + j) else 0) 0 := leN_plus 17 _ _ 0
  have e1 : leN 17 (lowF (atL l)) 0 = leN 16 (atL l) 0 + ((256 ^ 16 : Nat) : Int) * (atL l 16 % 4) := by
    have c1 : leN 16 (lowF (atL l)) 0 = leN 16 (atL l) 0 := leN_congr 16 0 fun j hj => by rw [Nat.zero_add]; unfold lowF; rw [if_pos hj]
    have c2 : leN 1 (lowF (atL l)) (0 + 16) = atL l 16 % 4 := by simp only [leN, Nat.zero_add]; unfold lowF; simp
    rw [show (17 : Nat) = 16 + 1 from rfl, leN_add, c1, c2]
  have e2 : leN 17 (fun j => if j < m + 1 then 5 * hQ (atL l) (16 + j) else 0) 0 = 5 * leN (m + 1) (hQ (atL l)) 16 := by
    have ec := leN_add (m + 1) (17 - (m + 1)) (fun j => if j < m + 1 then 5 * hQ (atL l) (16 + j) else 0) 0
    rw [show m + 1 + (17 - (m + 1)) = 17 by omega] at ec
    rw [ec, leN_null (17 - (m + 1)) (0 + (m + 1)) (fun j hj => if_neg (by omega)), Int.mul_zero, Int.add_zero, ← leN_times]
    exact leN_moved (m + 1) 0 16 fun j hj => by rw [Nat.zero_add]; exact if_pos hj
  have e3 := leN_hQ (atL l) (m + 1) 16
  have e4 := leN_add 16 (m + 1) (atL l) 0
  rw [Nat.zero_add] at e4
  have b1 := leN_nonneg 16 (f := atL l) 0 fun j hj => by rw [Nat.zero_add]; exact hb j (by omega)
  rw [e0, e1, e2, e3, e4, hz, p256_16]
  have e5 : leN (m + 1) (atL l) 16 = atL l 16 + 256 * leN m (atL l) (16 + 1) := rfl
  rw [p256_16] at b1
  unfold foldV
  rw [e5]
  have : (0 : Int) % 4 = 0 := rfl
  rw [this, Int.mul_zero, Int.add_zero]
  generalize leN m (atL l) (16 + 1) = Z at *
  generalize leN 16 (atL l) 0 = L at *
  generalize atL l 16 = x at *
  clear e0 e1 e2 e3 e4 e5 this hb hz hm hm' h1 h2
  simp only [E130]
  omega
theorem hQ_byte {f : Nat → Int} {j : Nat} (h1 : Byte (f j)) (h2 : Byte (f (j + 1))) : 0 ≤ hQ f j ∧ hQ f j < 256 := by
  unfold Byte at h1 h2
  unfold hQ; omega
theorem byte_zero {l : List Int} {n : Nat} (hn : l.length = n) (hb : ∀ j, j < n → Byte (atL l j)) (j : Nat) : Byte (atL l j) := by
  by_cases h : j < n
  · exact hb j h
  · unfold atL; rw [List.getD_eq_getElem?_getD, List.getElem?_eq_none (by omega)]; exact ⟨by decide, by decide⟩
theorem lowS_bound {f : Nat → Int} (h : ∀ j, Byte (f j)) (k j : Nat) : 0 ≤ lowS f k j ∧ lowS f k j < 2000 := by
  have h1 := hQ_byte (h (16 + j)) (h (16 + j + 1))
  have h2 := h j
  have h3 := h 16
  unfold Byte at h2 h3
  unfold lowS lowF
  split <;> split <;> omega
theorem atLF {n : Nat} {a : Nat → Int} {j : Nat} (hj : j < n) : atL (listF n a 0) j = a j := by
  show (listF n a 0).getD j 0 = _
  rw [List.getD_eq_getElem?_getD, listF_get, if_pos hj, Nat.zero_add]; rfl
theorem valL_listF (n : Nat) (a : Nat → Int) : valL (listF n a 0) = leN n a 0 := by
  unfold valL
  rw [listF_length]
  exact leN_congr n 0 fun j hj => by rw [Nat.zero_add]; exact atLF hj
theorem low_set {f : Nat → Int} {k : Nat} (hk : k < 17) : (listF 17 (lowS f k) 0).set k ((listF 17 (lowS f k) 0).getD k 0 + 5 * hQ f (16 + k)) = listF 17 (lowS f (k + 1)) 0 := by
  refine extI (by simp [listF_length]) fun p hp => ?_
  rw [List.length_set, listF_length] at hp
  rw [setI (by rw [listF_length]; exact hp)]
  have e1 : ∀ k j, j < 17 → (listF 17 (lowS f k) 0).getD j 0 = lowS f k j := fun k j hj => atLF hj
  rw [e1 _ _ hk, e1 _ _ hp, e1 _ _ hp]
  unfold lowS
  by_cases e : k = p
  · subst e
    rw [if_pos rfl, if_neg (by omega), if_pos (by omega)]; omega
  · rw [if_neg e]
    by_cases h : p < k
    · rw [if_pos h, if_pos (by omega)]
    · rw [if_neg h, if_neg (by omega)]
theorem hs_succ {f : Nat → Int} (h : ∀ j, Byte (f j)) (k : Nat) : (decide (0 < leN (k + 1) (hQ f) 16)) = (decide (0 < leN k (hQ f) 16) || decide (0 < hQ f (16 + k))) := by
  rw [leN_add k 1]
  have h0 : 0 ≤ leN k (hQ f) 16 := leN_pos k 16 fun j _ => (hQ_byte (h _) (h _)).1
  have h1 : 0 ≤ hQ f (16 + k) := (hQ_byte (h _) (h _)).1
  have e : leN 1 (hQ f) (16 + k) = hQ f (16 + k) := by simp [leN]
  have hp : (0 : Int) < ((256 ^ k : Nat) : Int) := by exact_mod_cast Nat.pow_pos (by decide)
  rw [e]
  have h2 : 0 ≤ ((256 ^ k : Nat) : Int) * hQ f (16 + k) := Int.mul_nonneg (by omega) h1
  by_cases a : 0 < leN k (hQ f) 16
  · rw [decide_eq_true a, decide_eq_true (show 0 < leN k (hQ f) 16 + ((256 ^ k : Nat) : Int) * hQ f (16 + k) by omega)]; rfl
  · have a0 : leN k (hQ f) 16 = 0 := by omega
    rw [a0, Int.zero_add]
    by_cases b : 0 < hQ f (16 + k)
    · rw [decide_eq_true b, decide_eq_true (Int.mul_pos hp b)]; rfl
    · have b0 : hQ f (16 + k) = 0 := by omega
      rw [b0, Int.mul_zero]; rfl
theorem hs_all {l : List Int} (h1 : 17 ≤ l.length) (hb : ∀ j, j < l.length → Byte (atL l j)) : decide (0 < leN (l.length - 16) (hQ (atL l)) 16) = decide (E130 ≤ valL l) := by
  have hz : atL l (16 + (l.length - 16)) = 0 := by unfold atL; rw [List.getD_eq_getElem?_getD, List.getElem?_eq_none (by omega)]; rfl
  have e3 := leN_hQ (atL l) (l.length - 16) 16
  have e4 := leN_add 16 (l.length - 16) (atL l) 0
  rw [Nat.zero_add, show 16 + (l.length - 16) = l.length by omega] at e4
  have b1 := leN_nonneg 16 (f := atL l) 0 fun j hj => by rw [Nat.zero_add]; exact hb j (by omega)
  rw [e3, hz]
  unfold valL
  rw [e4, p256_16] at *
  have : (0 : Int) % 4 = 0 := rfl
  rw [this, Int.mul_zero, Int.add_zero]
  generalize leN (l.length - 16) (atL l) 16 = Z at *
  generalize leN 16 (atL l) 0 = L at *
  clear e3 e4 hz hb h1 this
  by_cases a : 0 < Z / 4
  · rw [decide_eq_true a, decide_eq_true]; simp only [E130]; omega
  · rw [decide_eq_false a, decide_eq_false]; simp only [E130]; omega
/-! ### least -/
def redF : Nat → Int → Int
  | 0, V => V
  | n + 1, V => if V < E130 then V else redF n (foldV V)
theorem foldV_mod (V : Int) : foldV V % P5 = V % P5 := by
  unfold foldV P5
  simp only [E130]
  have := Int.mul_ediv_add_emod V 1361129467683753853853498429727072845824
  have h2 : V % 1361129467683753853853498429727072845824 + 5 * (V / 1361129467683753853853498429727072845824) = V - 1361129467683753853853498429727072845819 * (V / 1361129467683753853853498429727072845824) := by omega
  rw [h2, Int.sub_mul_emod_self_left]
def bndR : Nat → Int
  | 0 => E130
  | 1 => E130 + 1000
  | 2 => E130 * 128
  | _ => E130 * E130
theorem foldV_bnd {V : Int} (h0 : 0 ≤ V) : ∀ n, n ≤ 2 → V < bndR (n + 1) → 0 ≤ foldV V ∧ (E130 ≤ V → foldV V < bndR n)
  | 0, _, h => by unfold foldV; simp only [bndR, E130] at *; omega
  | 1, _, h => by unfold foldV; simp only [bndR, E130] at *; omega
  | 2, _, h => by unfold foldV; simp only [bndR, E130] at *; omega
  | n + 3, hn, _ => by omega
theorem redF_spec : ∀ (n : Nat) {V : Int}, n ≤ 3 → 0 ≤ V → V < bndR n → 0 ≤ redF n V ∧ redF n V < E130 ∧ redF n V % P5 = V % P5
  | 0, V, _, h0, h => ⟨h0, h, rfl⟩
  | n + 1, V, hn, h0, h => by
    simp only [redF]
    split
    · rename_i hv; exact ⟨h0, hv, rfl⟩
    · rename_i hv
      obtain ⟨f1, f2⟩ := foldV_bnd h0 n (by omega) h
      obtain ⟨r1, r2, r3⟩ := redF_spec n (V := foldV V) (by omega) f1 (f2 (by omega))
      exact ⟨r1, r2, by rw [r3, foldV_mod]⟩
def hiM (i : Nat) : Int := if i = 16 then 3 else 255
def hiF (V : Int) : Nat → Bool
  | 0 => true
  | i + 1 => hiF V i && decide (byteN V (i + 1) = hiM (i + 1))
theorem hiF_all {V : Int} : ∀ n, hiF V n = true ↔ ∀ i, 1 ≤ i → i ≤ n → byteN V i = hiM i
  | 0 => by simp [hiF]; intro i h1 h2; omega
  | n + 1 => by
    simp only [hiF, Bool.and_eq_true, decide_eq_true_eq, hiF_all n]
    constructor
    · rintro ⟨h1, h2⟩ i hi hn
      by_cases e : i = n + 1
      · rw [e]; exact h2
      · exact h1 i hi (by omega)
    · intro h
      exact ⟨fun i h1 h2 => h i h1 (by omega), h _ (by omega) (by omega)⟩
theorem bndR_le : ∀ n, n ≤ 3 → bndR n ≤ E130 * E130
  | 0, _ => by simp only [bndR, E130]; decide
  | 1, _ => by simp only [bndR, E130]; decide
  | 2, _ => by simp only [bndR, E130]; decide
  | 3, _ => Int.le_refl _
  | n + 4, h => by omega
theorem fold_lt {V : Int} (h0 : 0 ≤ V) (h : V < E130 * E130) : 0 ≤ foldV V ∧ foldV V < 87112285931760246646623899502532662132736 := by
  unfold foldV
  simp only [E130] at *
  omega
theorem foldV_small {V : Int} (h0 : 0 ≤ V) (h : V < E130) : foldV V = V := by
  unfold foldV
  rw [Int.emod_eq_of_lt h0 h, Int.ediv_eq_zero_of_lt h0 h]; omega
theorem redF_small {V : Int} (h : V < E130) : ∀ n, redF n V = V
  | 0 => rfl
  | n + 1 => by simp only [redF]; rw [if_pos h]
theorem val_bytes {n : Nat} {N : Int} (h0 : 0 ≤ N) (h : N < ((256 ^ n : Nat) : Int)) : valL (listF n (byteN N) 0) = N := by
  rw [valL_listF, leN_byte]
  have : ((256 ^ 0 : Nat) : Int) = 1 := rfl
  rw [this, Int.ediv_one, Int.emod_eq_of_lt h0 h]
theorem bytes_list {n : Nat} {N : Int} (j : Nat) (hj : j < (listF n (byteN N) 0).length) : Byte (atL (listF n (byteN N) 0) j) := by
  rw [listF_length] at hj
  rw [atLF hj]
  exact ⟨Int.emod_nonneg _ (by decide), Int.emod_lt_of_pos _ (by decide)⟩
theorem hi_iff {V : Int} (h0 : 0 ≤ V) (h1 : V < E130) : hiF V 16 = true ↔ E130 - 256 ≤ V := by
  have hd : ∀ i, byteN V (i + 1) = V / 256 / ((256 ^ i : Nat) : Int) % 256 := fun i => by
    unfold byteN
    have e : ((256 ^ (i + 1) : Nat) : Int) = 256 * ((256 ^ i : Nat) : Int) := by rw [Nat.pow_succ]; omega
    rw [e, ← Int.ediv_ediv_of_nonneg (by decide)]
  have hv : valL (listF 17 (byteN V) 0) = V := val_bytes h0 (Int.lt_trans h1 (by decide))
  rw [hiF_all]
  constructor
  · intro h
    rw [valL_listF] at hv
    have e : leN 17 (byteN V) 0 = byteN V 0 + 256 * leN 16 (byteN V) 1 := rfl
    have e2 : leN 16 (byteN V) 1 = leN 16 hiM 1 := leN_congr 16 1 fun j hj => by rw [h (1 + j) (by omega) (by omega)]
    have e3 : leN 16 hiM 1 = 5316911983139663491615228241121378303 := by decide +kernel
    have hb : 0 ≤ byteN V 0 := Int.emod_nonneg _ (by decide)
    rw [e2, e3] at e
    rw [e] at hv
    simp only [E130]
    omega
  · intro h i h2 h3
    have hq : V / 256 = 5316911983139663491615228241121378303 := by simp only [E130] at *; omega
    obtain ⟨i, rfl⟩ : ∃ k, i = k + 1 := ⟨i - 1, by omega⟩
    rw [hd, hq]
    have hf : ∀ k : Fin 16, (5316911983139663491615228241121378303 : Int) / ((256 ^ k.val : Nat) : Int) % 256 = hiM (k.val + 1) := by decide +kernel
    exact hf ⟨i, by omega⟩
def leastR (V : Int) : Bool → Bool → Nat → Int
  | true, true => fun j => if j = 0 then byteN V 0 - 251 else 0
  | _, _ => byteN V
theorem least_hi {V : Int} (h0 : 0 ≤ V) (h1 : V < E130) : byteN V 0 = V % 256 := by
  unfold byteN
  have : ((256 ^ 0 : Nat) : Int) = 1 := rfl
  rw [this, Int.ediv_one]
theorem least_bytes {V : Int} (h0 : 0 ≤ V) (h1 : V < E130) (j : Nat) : leastR V (hiF V 16) (decide (251 ≤ byteN V 0)) j = byteN (V % P5) j := by
  have e0 := least_hi h0 h1
  have hi := hi_iff h0 h1
  cases a : hiF V 16 with
  | false =>
    have : ¬ E130 - 256 ≤ V := fun h => by rw [hi.2 h] at a; simp at a
    have e : V % P5 = V := Int.emod_eq_of_lt h0 (by unfold P5; simp only [E130] at *; omega)
    rw [e]; rfl
  | true =>
    have h2 := hi.1 a
    cases b : decide (251 ≤ byteN V 0) with
    | false =>
      have b := of_decide_eq_false b
      have e : V % P5 = V := Int.emod_eq_of_lt h0 (by unfold P5; simp only [E130] at *; omega)
      rw [e]; rfl
    | true =>
      have b := of_decide_eq_true b
      have e : V % P5 = V % 256 - 251 := by unfold P5; simp only [E130] at *; omega
      rw [e]
      show (if j = 0 then byteN V 0 - 251 else 0) = _
      rw [e0] at b ⊢
      have hs : 0 ≤ V % 256 - 251 ∧ V % 256 - 251 < 256 := by omega
      split
      · rename_i hj; subst hj
        unfold byteN
        have : ((256 ^ 0 : Nat) : Int) = 1 := rfl
        rw [this, Int.ediv_one]; omega
      · rename_i hj
        obtain ⟨k, rfl⟩ : ∃ k, j = k + 1 := ⟨j - 1, by omega⟩
        unfold byteN
        have e : ((256 ^ (k + 1) : Nat) : Int) = 256 * ((256 ^ k : Nat) : Int) := by rw [Nat.pow_succ]; omega
        rw [e, ← Int.ediv_ediv_of_nonneg (by decide), Int.ediv_eq_zero_of_lt hs.1 hs.2, Int.zero_ediv]
        rfl
/-! ### products -/
def mvC (a b : Nat → Int) : Nat → Nat → Int
  | 0, _ => 0
  | i + 1, j => bif (Nat.ble i j).and (Nat.blt j (i + 17)) then mvC a b i j + a i * b (j - i) else mvC a b i j
def mvR (a b : Nat → Int) (i j : Nat) : Int := bif (Nat.ble i j).and (Nat.blt j (i + 17)) then a i * b (j - i) else 0
theorem mvC_succ (a b : Nat → Int) (i j : Nat) : mvC a b (i + 1) j = mvC a b i j + mvR a b i j := by
  simp only [mvC, mvR]
  cases (Nat.ble i j).and (Nat.blt j (i + 17)) <;> simp
theorem mv_in {a b : Nat → Int} {i j : Nat} (h : i ≤ j) (h2 : j < i + 17) : mvR a b i j = a i * b (j - i) := by
  unfold mvR
  rw [Nat.ble_eq_true_of_le h, show Nat.blt j (i + 17) = true from Nat.ble_eq_true_of_le h2]; rfl
theorem mv_out {a b : Nat → Int} {i j : Nat} (h : j < i ∨ i + 17 ≤ j) : mvR a b i j = 0 := by
  unfold mvR
  have : (Nat.ble i j).and (Nat.blt j (i + 17)) = false := by
    rcases h with h | h
    · have : Nat.ble i j = false := by
        cases e : Nat.ble i j with
        | false => rfl
        | true => have := Nat.le_of_ble_eq_true e; omega
      rw [this]; rfl
    · have : Nat.blt j (i + 17) = false := by
        cases e : Nat.blt j (i + 17) with
        | false => rfl
        | true => have : j + 1 ≤ i + 17 := Nat.le_of_ble_eq_true e; omega
      rw [this]; cases Nat.ble i j <;> rfl
  rw [this]; rfl
theorem leN_row (a b : Nat → Int) {i : Nat} (hi : i < 17) : leN 33 (mvR a b i) 0 = ((256 ^ i : Nat) : Int) * (a i * leN 17 b 0) := by
  have c1 := leN_add i (33 - i) (mvR a b i) 0
  have c2 := leN_add 17 (16 - i) (mvR a b i) (0 + i)
  rw [show i + (33 - i) = 33 by omega] at c1
  rw [show 17 + (16 - i) = 33 - i by omega] at c2
  have e : leN 17 (mvR a b i) (0 + i) = a i * leN 17 b 0 := by
    rw [← leN_times]
    exact leN_moved 17 (0 + i) 0 fun j hj => by rw [mv_in (by omega) (by omega), show 0 + i + j - i = 0 + j by omega]
  rw [c1, c2, leN_null i 0 (fun j hj => mv_out (.inl (by omega))), leN_null (16 - i) (0 + i + 17) (fun j hj => mv_out (.inr (by omega))), Int.zero_add, Int.mul_zero, Int.add_zero, e]
theorem leN_rows (a b : Nat → Int) : ∀ i, i ≤ 17 → leN 33 (mvC a b i) 0 = leN i a 0 * leN 17 b 0
  | 0, _ => by rw [leN_null 33 0 (fun j _ => rfl)]; simp [leN]
  | i + 1, hi => by
    have e : mvC a b (i + 1) = fun j => mvC a b i j + mvR a b i j := funext fun j => mvC_succ a b i j
    have c := leN_add i 1 a 0
    rw [e, leN_plus, leN_rows a b i (by omega), leN_row a b (by omega), c, Int.add_mul]
    have : leN 1 a (0 + i) = a i := by simp [leN]
    rw [this, Int.mul_assoc]
theorem leN_prod (a b : Nat → Int) : leN 33 (mvC a b 17) 0 = leN 17 a 0 * leN 17 b 0 := leN_rows a b 17 (Nat.le_refl _)
theorem mvR_bound {a b : Nat → Int} (ha : ∀ j, j < 17 → Byte (a j)) (hb : ∀ j, j < 17 → Byte (b j)) {i : Nat} (hi : i < 17) (j : Nat) : 0 ≤ mvR a b i j ∧ mvR a b i j ≤ 65025 := by
  by_cases h : i ≤ j ∧ j < i + 17
  · rw [mv_in h.1 h.2]
    have h1 := ha i hi
    have h2 := hb (j - i) (by omega)
    unfold Byte at h1 h2
    have h3 : a i * b (j - i) ≤ 255 * 255 := Int.mul_le_mul (by omega) (by omega) h2.1 (by omega)
    exact ⟨Int.mul_nonneg h1.1 h2.1, by omega⟩
  · rw [mv_out (by omega)]; omega
theorem mv_bound {a b : Nat → Int} (ha : ∀ j, j < 17 → Byte (a j)) (hb : ∀ j, j < 17 → Byte (b j)) : ∀ (i : Nat), i ≤ 17 → ∀ j, 0 ≤ mvC a b i j ∧ mvC a b i j ≤ 65025 * i
  | 0, _, j => by simp [mvC]
  | i + 1, hi, j => by
    have h1 := mv_bound ha hb i (by omega) j
    have h2 := mvR_bound ha hb (show i < 17 by omega) j
    rw [mvC_succ]
    omega
/-! ### what is taken away by Clamp; sums -/
def clD (f : Nat → Int) (j : Nat) : Int := if j = 16 then 0 else if j % 4 = 3 then f j % 16 else if j % 4 = 0 ∧ 0 < j then f j - f j % 4 else f j
theorem uand252 {x : Int} (h : Byte x) : uand x 252 = x - x % 4 := by
  obtain ⟨n, rfl⟩ := Int.eq_ofNat_of_zero_le h.1
  have hn : n < 256 := by have := h.2; omega
  have : ∀ m : Fin 256, (m.val &&& 252) = m.val - m.val % 4 := by decide +kernel
  have e := this ⟨n, hn⟩
  show ((n &&& 252 : Nat) : Int) = _
  simp only at e
  rw [e]; omega
theorem clD_byte {f : Nat → Int} (h : ∀ j, j < 16 → Byte (f j)) (j : Nat) (hj : j < 17) : Byte (clD f j) := by
  unfold clD
  split
  · exact ⟨by decide, by decide⟩
  · have := h j (by omega)
    unfold Byte at this ⊢
    split
    · omega
    · split <;> omega
def dcC (o s : Nat → Int) : Nat → Int
  | 0 => 0
  | i + 1 => (dcC o s i + o i + s i).tdiv 256
def dfL (o s : Nat → Int) : Nat → Nat → List Prop
  | 0, _ => []
  | n + 1, i => Fits .i64 (dcC o s i + o i + s i) :: Fits .i64 (dcC o s i + o i) :: dfL o s n (i + 1)
theorem dcC_spec {o s : Nat → Int} {n : Nat} (ho : ∀ j, j < n → Byte (o j)) (hs : ∀ j, j < n → Byte (s j)) : ∀ i, i ≤ n → 0 ≤ dcC o s i ∧ dcC o s i ≤ 1 ∧ dcC o s i = carry o s i
  | 0, _ => by simp [dcC, carry]
  | i + 1, hi => by
    obtain ⟨h1, h2, h3⟩ := dcC_spec ho hs i (by omega)
    have h4 := ho i (by omega)
    have h5 := hs i (by omega)
    unfold Byte at h4 h5
    simp only [dcC, carry]
    rw [Int.tdiv_eq_ediv_of_nonneg (by omega), ← h3]
    omega
theorem dfL_ok {o s : Nat → Int} {N : Nat} (ho : ∀ j, j < N → Byte (o j)) (hs : ∀ j, j < N → Byte (s j)) : ∀ (n i : Nat), i + n ≤ N → AllC (dfL o s n i)
  | 0, _, _ => by simp [dfL, AllC]
  | n + 1, i, h => by
    obtain ⟨h1, h2, _⟩ := dcC_spec ho hs i (by omega)
    have h4 := ho i (by omega)
    have h5 := hs i (by omega)
    unfold Byte at h4 h5
    simp only [dfL, allC_cons]
    exact ⟨fits_of (by omega) (by omega), fits_of (by omega) (by omega), dfL_ok ho hs n (i + 1) (by omega)⟩
def dsB (o s : Nat → Int) (i : Nat) : Int := scut .u8 ((dcC o s i + o i + s i).tmod 256)
theorem carry_congr {o o' s s' : Nat → Int} : ∀ i, (∀ j, j < i → o j = o' j ∧ s j = s' j) → carry o s i = carry o' s' i
  | 0, _ => rfl
  | i + 1, h => by
    obtain ⟨h1, h2⟩ := h i (by omega)
    simp only [carry]
    rw [carry_congr i fun j hj => h j (by omega), h1, h2]
theorem dsB_eq {o s : Nat → Int} {n : Nat} (ho : ∀ j, j < n → Byte (o j)) (hs : ∀ j, j < n → Byte (s j)) {i : Nat} (hi : i < n) : dsB o s i = byteN (leN n o 0 + leN n s 0) i := by
  obtain ⟨h1, h2, h3⟩ := dcC_spec ho hs i (by omega)
  have h4 := ho i hi
  have h5 := hs i hi
  let o' : Nat → Int := fun j => if j < n then o j else 0
  let s' : Nat → Int := fun j => if j < n then s j else 0
  have ho' : ∀ j, 0 ≤ o' j := fun j => by show 0 ≤ (if j < n then o j else 0); split; exact (ho j ‹_›).1; exact Int.le_refl _
  have hs' : ∀ j, 0 ≤ s' j := fun j => by show 0 ≤ (if j < n then s j else 0); split; exact (hs j ‹_›).1; exact Int.le_refl _
  have eo : ∀ j, j < n → o j = o' j := fun j hj => (if_pos hj).symm
  have es : ∀ j, j < n → s j = s' j := fun j hj => (if_pos hj).symm
  have hb := carry_byte ho' hs' hi
  have l1 : leN n o 0 = leN n o' 0 := leN_congr n 0 fun j hj => by rw [Nat.zero_add]; exact eo j hj
  have l2 : leN n s 0 = leN n s' 0 := leN_congr n 0 fun j hj => by rw [Nat.zero_add]; exact es j hj
  have hc : carry o s i = carry o' s' i := carry_congr i fun j hj => ⟨eo j (by omega), es j (by omega)⟩
  rw [l1, l2, hb, ← hc, ← eo i hi, ← es i hi, ← h3]
  unfold Byte at h4 h5
  unfold dsB scut
  rw [Int.tmod_eq_emod_of_nonneg (by omega)]
  show (_ % 256) % 256 = _
  omega
end Go.Vx
