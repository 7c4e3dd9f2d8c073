/- A symbolic executor over the model's code, and that it is sound, part 5: lemmas for the proofs of this seat, no statement of their own. No conditions. -/
import Derived.Test.YthciddlfnajchaaDoorV4
import Derived.StillTail

set_option linter.unusedVariables false
/- Arguments that are slices of what holds slices of numbers. -/
namespace Go.Vx
open Go.ChangeShapes Go.WideShapes Go.RowKit

/-- kinds of cells: numbers and truth values -/
inductive CY where
  | i (k : IntKind)
  | b
  | s (k : IntKind)
def kindsY (P : Program) : Nat → TypeId → Option (List CY)
  | 0, _ => none
  | d + 1, t =>
    let r : Option (List CY) := match P.underlying t with
      | some (.int k) => some [.i k]
      | some .bool => some [.b]
      | some (.slice e) => match P.underlying e, Nat.beq (P.cellsOf e) 1 with
        | some (.int k), true => some [.s k]
        | _, _ => none
      | some (.array n e) => match kindsY P d e with
        | some l => some (List.replicate n l).flatten
        | none => none
      | some (.struct fs) => match tightFields P fs.toList 0, fs.all (·.name != "_") with
        | some _, true => match fs.toList.mapM fun f => kindsY P d f.type with
          | some ls => some ls.flatten
          | none => none
        | _, _ => none
      | _ => none
    match r with
    | some l => match Nat.beq l.length (P.cellsOf t) with
      | true => some l
      | false => none
    | none => none
theorem kindsY_len {P : Program} {d : Nat} {t : TypeId} {ks : List CY} (h : kindsY P d t = some ks) : ks.length = P.cellsOf t := by
  cases d with
  | zero => simp [kindsY] at h
  | succ d =>
    simp only [kindsY] at h
    split at h
    · split at h
      · rename_i hb
        simp only [Option.some.injEq] at h; subst h
        exact Nat.eq_of_beq_eq_true hb
      · simp at h
    · simp at h

def OkY (W : World) : CY → Option Value → Prop
  | .i k, v => ∃ n, v = some (.int k n) ∧ Fits k n
  | .b, v => ∃ b, v = some (.bool b)
  | .s k, v => ∃ (u : Value) (l : List Int), v = some u ∧ isAggV u = false ∧ l.length ≤ maxLen ∧ DenC W (O0 W) (fun _ => none) (.roi k l) [u]
def FlatY (W : World) (ks : List CY) (cs : List Value) : Prop := cs.length = ks.length ∧ ∀ (i : Nat) (k : CY), ks[i]? = some k → OkY W k cs[i]?
theorem FlatY.append {W : World} {ks ks' : List CY} {cs cs' : List Value} (h : FlatY W ks cs) (h' : FlatY W ks' cs') : FlatY W (ks ++ ks') (cs ++ cs') := by
  refine ⟨by simp [h.1, h'.1], fun i k hk => ?_⟩
  by_cases hi : i < ks.length
  · rw [List.getElem?_append_left hi] at hk
    have := h.2 i k hk
    rwa [List.getElem?_append_left (by rw [h.1]; exact hi)]
  · rw [List.getElem?_append_right (by omega)] at hk
    have := h'.2 _ k hk
    rwa [List.getElem?_append_right (by rw [h.1]; omega), h.1]

section
variable {H : Type} {enc : TypeId × Value → H} {P : Program} {w : World} {base : Nat} {spare : Nat → Bool} {held : Bool}
theorem flat_chunksY {ks : List CY} {cs : List Value} {sz : Nat} (hsz : ks.length = sz) : ∀ (n : Nat), (∀ i, i < n → FlatY w ks ((cs.drop (i * sz)).take sz)) → FlatY w (List.replicate n ks).flatten (cs.take (n * sz))
  | 0, _ => by simp [FlatY]
  | n + 1, h => by
    have h1 := flat_chunksY hsz n fun i hi => h i (by omega)
    have h2 := h n (by omega)
    have e1 : (List.replicate (n + 1) ks).flatten = (List.replicate n ks).flatten ++ ks := by
      rw [List.replicate_succ']; simp
    have e2 : cs.take ((n + 1) * sz) = cs.take (n * sz) ++ (cs.drop (n * sz)).take sz := by
      rw [Nat.succ_mul, List.take_add]
    rw [e1, e2]; exact h1.append h2

theorem trod_ints {t e : TypeId} {k : IntKind} (ht : P.underlying t = some (.slice e)) (he : P.underlying e = some (.int k)) (hc : P.cellsOf e = 1) {fuel : Nat} {cs : List Value} {x : DataW H × List MemPlace} (hf : DataW.trod enc P w base spare held fuel t cs = some x) : FlatY w [.s k] cs := by
  rcases open_ints ht he hc hf with ⟨h1, h2⟩ | ⟨a, len, cap, zs, h1, h2, h3, h4, h5, h6, h7, h8⟩
  · subst h1
    refine ⟨rfl, fun i k' hk' => ?_⟩
    cases i with
    | zero =>
      simp at hk'; subst hk'
      refine ⟨_, [], rfl, rfl, Nat.zero_le _, ?_⟩
      simp only [DenC]
      exact ⟨none, 0, rfl, by simp, by simp, by simp⟩
    | succ i => simp at hk'
  · subst h1
    have hlen : len ≤ zs.length := by rw [h5]; split <;> omega
    have hl2 : (zs.take len).length = len := by simp; omega
    refine ⟨rfl, fun i k' hk' => ?_⟩
    cases i with
    | succ i => simp at hk'
    | zero =>
    simp at hk'; subst hk'
    refine ⟨_, zs.take len, rfl, rfl, by simp; omega, ?_⟩
    simp only [DenC]
    refine ⟨some a, cap, by rw [hl2], by omega, fun hpos => ?_, fun n hn => fits_of_wf (h8 n (List.mem_of_mem_take hn))⟩
    have hspot : a.spot = none := by
      have := h7 0 (by omega)
      exact spot_none this
    obtain ⟨b, o, sp⟩ := a
    simp only at hspot; subst hspot
    refine ⟨b, o, rfl, fun j u hj => ?_⟩
    rw [List.getElem?_map, List.getElem?_take] at hj
    split at hj
    · rename_i hjl
      have := h7 j (by omega)
      have this : w.cell? ((adr b o).add j) = _ := this
      rw [adr_add] at this
      show w.cell? (adr b (o + j)) = some u
      rw [this]
      rw [List.getElem?_eq_getElem (by omega)] at hj
      simp at hj
      rw [← hj, List.getD_eq_getElem?_getD, List.getElem?_eq_getElem (by omega)]; rfl
    · simp at hj

theorem trod_kindsY : ∀ (d : Nat) (t : TypeId) (ks : List CY), kindsY P d t = some ks → ∀ (fuel : Nat) (cs : List Value) (x : DataW H × List MemPlace), DataW.trod enc P w base spare held fuel t cs = some x → FlatY w ks cs
  | 0, t, ks, h, _, _, _, _ => by simp [kindsY] at h
  | d + 1, t, ks, h, 0, _, _, hx => by simp [DataW.trod] at hx
  | d + 1, t, ks, h, fuel + 1, cs, x, hx => by
    simp only [kindsY] at h
    split at h
    · rename_i l hl
      split at h
      · rename_i hlen
        have hlen := Nat.eq_of_beq_eq_true hlen
        simp only [Option.some.injEq] at h; subst h
        split at hl
        · rename_i k hu
          simp only [Option.some.injEq] at hl; subst hl
          simp only [DataW.trod, hu] at hx
          split at hx <;> rename_i e <;> first | (simp at e; done) | skip
          all_goals first | (simp at hx; done) | skip
          simp only [Option.some.injEq, TypeDesc.int.injEq] at e
          subst e
          split at hx
          · rename_i hw
            refine ⟨rfl, fun i k' hk' => ?_⟩
            cases i with
            | zero => simp at hk'; subst hk'; exact ⟨_, by rw [hw.1]; rfl, fits_of_wf hw.2⟩
            | succ i => simp at hk'
          · simp at hx
        · rename_i hu
          simp only [Option.some.injEq] at hl; subst hl
          simp only [DataW.trod, hu] at hx
          split at hx <;> rename_i e <;> first | (simp at e; done) | skip
          all_goals first | (simp at hx; done) | skip
          refine ⟨rfl, fun i k' hk' => ?_⟩
          cases i with
          | zero => simp at hk'; subst hk'; exact ⟨_, rfl⟩
          | succ i => simp at hk'
        · rename_i e hu
          split at hl
          · rename_i k he hc
            simp only [Option.some.injEq] at hl; subst hl
            exact trod_ints hu he (Nat.eq_of_beq_eq_true hc) hx
          · simp at hl
        · rename_i n e hu
          split at hl
          · rename_i l0 hl0
            simp only [Option.some.injEq] at hl; subst hl
            simp only [DataW.trod, hu] at hx
            split at hx
            · rename_i hcs
              cases hm : (List.range n).mapM (fun i => DataW.trod enc P w base spare held fuel e ((cs.drop (i * P.cellsOf e)).take (P.cellsOf e))) with
              | none => simp [hm] at hx
              | some ys =>
                obtain ⟨_, g2⟩ := mapM_got hm
                have each : ∀ i, i < n → FlatY w l0 ((cs.drop (i * P.cellsOf e)).take (P.cellsOf e)) := fun i hi => by
                  obtain ⟨y, _, q⟩ := g2 i i (by simp [hi])
                  exact trod_kindsY d e l0 hl0 fuel _ y q
                by_cases hn : n = 0
                · subst hn
                  simp only [List.replicate_zero, List.flatten_nil, List.length_nil] at hlen ⊢
                  exact ⟨by rw [hcs, ← hlen]; rfl, by simp⟩
                · have hsz := kindsY_len hl0
                  have := flat_chunksY hsz n each
                  have e3 : cs.take (n * P.cellsOf e) = cs := List.take_of_length_le (by rw [hcs, ← hlen, ← hsz]; simp)
                  rwa [e3] at this
            · simp at hx
          · simp at hl
        · rename_i fs hu
          split at hl
          · rename_i n0 hnf ht
            split at hl
            · rename_i ls hls
              simp only [Option.some.injEq] at hl; subst hl
              simp only [DataW.trod, hu] at hx
              split at hx
              · rename_i hcs
                cases hm : fs.toList.mapM (fun f => DataW.trod enc P w base spare held fuel f.type ((cs.drop f.offset).take (P.cellsOf f.type))) with
                | none => simp [hm] at hx
                | some ys =>
                  obtain ⟨_, g2⟩ := mapM_got hm
                  obtain ⟨k1, k2⟩ := mapM_got hls
                  -- field by field
                  have key : ∀ (fl : List Field) (ll : List (List CY)) (n : Nat), tightFields P fl n = some n0 → ll.length = fl.length →
                      (∀ (i : Nat) (f : Field), fl[i]? = some f → ∃ l, ll[i]? = some l ∧ kindsY P d f.type = some l ∧ FlatY w l ((cs.drop f.offset).take (P.cellsOf f.type))) →
                      FlatY w ll.flatten ((cs.drop n).take ll.flatten.length) := by
                    intro fl
                    induction fl with
                    | nil =>
                      intro ll n _ hl _
                      have : ll = [] := by simpa using hl
                      subst this; simp [FlatY]
                    | cons f fl ih =>
                      intro ll n htf hl hf
                      cases ll with
                      | nil => simp at hl
                      | cons l ll =>
                        simp only [tightFields] at htf
                        split at htf
                        · rename_i hoff
                          obtain ⟨l', h1, h2, h3⟩ := hf 0 f (by simp)
                          simp at h1; subst h1
                          rw [hoff] at h3
                          have hlen2 := kindsY_len h2
                          have hr := ih ll (n + P.cellsOf f.type) htf (by simpa using hl) fun i f' hf' => by
                            obtain ⟨l'', q1, q2⟩ := hf (i + 1) f' (by simpa using hf')
                            exact ⟨l'', by simpa using q1, q2⟩
                          have e : (cs.drop n).take (l :: ll).flatten.length = (cs.drop n).take (P.cellsOf f.type) ++ (cs.drop (n + P.cellsOf f.type)).take ll.flatten.length := by
                            rw [List.flatten_cons, List.length_append, hlen2, List.take_add, List.drop_drop]
                          rw [e, List.flatten_cons]
                          exact h3.append hr
                        · simp at htf
                  have := key fs.toList ls 0 hnf k1 fun i f hf => by
                    obtain ⟨y, _, q⟩ := g2 i f hf
                    obtain ⟨l, q1, q2⟩ := k2 i f hf
                    exact ⟨l, q1, q2, trod_kindsY d f.type l q2 fuel _ y q⟩
                  rw [List.drop_zero, List.take_of_length_le (by rw [hcs, hlen]; exact Nat.le_refl _)] at this
                  exact this
              · simp at hx
            · simp at hl
          · simp at hl
        · simp at hl
      · simp at h
    · simp at h


/-- cells of these kinds -/
def svY : List CY → (Nat → Int) → (Nat → List Int) → Nat → List SV
  | [], _, _, _ => []
  | .i k :: ks, a, d, i => .int k (a i) :: svY ks a d (i + 1)
  | .b :: ks, a, d, i => .sbool (decide (a i = 1)) :: svY ks a d (i + 1)
  | .s k :: ks, a, d, i => .roi k (d i) :: svY ks a d (i + 1)
theorem denY {w : World} {ρ : Rho} {a : Nat → Int} {d : Nat → List Int} : ∀ {ks : List CY} {cs : List Value} {i : Nat}, cs.length = ks.length → (∀ (j : Nat) (k : CY), ks[j]? = some k → OkY w k cs[j]?) → (∀ j, a (i + j) = numX cs j) → (∀ j k u, ks[j]? = some (.s k) → cs[j]? = some u → DenC w (O0 w) (fun _ => none) (.roi k (d (i + j))) [u] ∧ isAggV u = false) → DenL w (O0 w) ρ (svY ks a d i) cs
  | [], cs, i, hl, _, _, _ => by simp [svY, DenL]; simpa using hl
  | k :: ks, [], i, hl, _, _, _ => by simp at hl
  | k :: ks, c :: cs, i, hl, h, ha, hs => by
    have h0 := h 0 k (by simp)
    have a0 : a i = numX (c :: cs) 0 := ha 0
    have hr := denY (ρ := ρ) (a := a) (d := d) (ks := ks) (cs := cs) (i := i + 1) (by simpa using hl) (fun j k' hj => by simpa using h (j + 1) k' (by simpa using hj)) (fun j => by
      rw [show i + 1 + j = i + (j + 1) by omega, ha (j + 1)]; simp [numX]) (fun j k' u h1 h2 => by
      rw [show i + 1 + j = i + (j + 1) by omega]; exact hs (j + 1) k' u (by simpa using h1) (by simpa using h2))
    cases k with
    | i k =>
      obtain ⟨n, h1, h2⟩ := h0
      simp at h1; subst h1
      have e : a i = n := by rw [a0]; rfl
      simp only [svY, DenL]
      exact ⟨_, cs, rfl, by simp only [DenC]; rw [e]; exact ⟨rfl, h2⟩, rfl, hr⟩
    | b =>
      obtain ⟨b, h1⟩ := h0
      simp at h1; subst h1
      have e : decide (a i = 1) = b := by rw [a0]; cases b <;> rfl
      simp only [svY, DenL]
      exact ⟨_, cs, rfl, by simp only [DenC]; rw [e], rfl, hr⟩
    | s k =>
      obtain ⟨h1, h2⟩ := hs 0 k c rfl rfl
      simp only [svY, DenL]
      exact ⟨_, cs, rfl, DenC.mono (ext_none ρ) _ _ h1, h2, hr⟩

open Classical in
/-- the numbers of a slice that stands in a cell -/
noncomputable def lsY (w : World) (k : IntKind) (c : Option Value) : List Int :=
  if h : ∃ l, ∃ u, c = some u ∧ isAggV u = false ∧ l.length ≤ maxLen ∧ DenC w (O0 w) (fun _ => none) (.roi k l) [u] then h.choose else []
theorem lsY_spec {w : World} {k : IntKind} {u : Value} (h : OkY w (.s k) (some u)) : DenC w (O0 w) (fun _ => none) (.roi k (lsY w k (some u))) [u] ∧ isAggV u = false := by
  have h' : ∃ l, ∃ v, some u = some v ∧ isAggV v = false ∧ l.length ≤ maxLen ∧ DenC w (O0 w) (fun _ => none) (.roi k l) [v] := by
    obtain ⟨v, l, h1, h2, h3, h4⟩ := h
    exact ⟨l, v, h1, h2, h3, h4⟩
  unfold lsY
  rw [dif_pos h']
  obtain ⟨v, h1, h2, _, h4⟩ := h'.choose_spec
  simp only [Option.some.injEq] at h1; subst h1
  exact ⟨h4, h2⟩
theorem lsY_len (w : World) (k : IntKind) (c : Option Value) : (lsY w k c).length ≤ maxLen := by
  unfold lsY
  split
  · rename_i h
    obtain ⟨v, _, _, h3, _⟩ := h.choose_spec
    exact h3
  · exact Nat.zero_le _
def kindY : List CY → Nat → IntKind
  | [], _ => .u8
  | .s k :: _, 0 => k
  | _ :: _, 0 => .u8
  | _ :: ks, i + 1 => kindY ks i
theorem kindY_get : ∀ {ks : List CY} {j : Nat} {k : IntKind}, ks[j]? = some (.s k) → kindY ks j = k
  | [], _, _, h => by simp at h
  | c :: ks, 0, k, h => by simp at h; subst h; rfl
  | c :: ks, j + 1, k, h => by
    have := kindY_get (ks := ks) (j := j) (k := k) (by simpa using h)
    cases c <;> exact this

theorem open_rowsY0 {W : World} {t e : TypeId} {ks : List CY} {v : Value} {d : DataW H} {ps : List MemPlace} {r : Reach} {b0 : Nat} (ht : P.underlying t = some (.slice e)) (hk : kindsY P 8 e = some ks) (hpos : 0 < ks.length)
    (hval : Value.okWide P W r b0 t v) (hd : DataW.Trod enc P W base spare held t v d ps) (F : List Value → SV) (hF : ∀ cs, FlatY W ks cs → DenC W (O0 W) (fun _ => none) (F cs) cs) (ρ : Rho) :
    ∃ (n : Nat) (g : Nat → List Value), n ≤ maxLen ∧ DenV W (O0 W) ρ (.ro ks.length n fun i => F (g i)) v := by
  obtain ⟨fuel, hf⟩ := hd
  have hv : isAggV v = false := by
    unfold Value.okWide at hval
    rw [ht] at hval
    simp only at hval
    unfold Cell.okWide at hval
    rw [ht] at hval
    simp only at hval
    cases v <;> simp [isAggV]
    all_goals (simp [Cell.ok, ht] at hval)
  rw [not_agg_cells hv] at hf
  rcases DataW.trod_slice ht hf with h0 | ⟨a, len, cap, elems, rest, n, _, h1, _, hb, hl, hm, hlen, hel, hsp, hns⟩
  · have h1 := h0.1
    simp at h1; subst h1
    refine ⟨0, fun _ => [], Nat.zero_le _, den_cell rfl rfl ?_⟩
    simp only [DenC]
    exact ⟨none, 0, rfl, Nat.le_refl _, by simp⟩
  · simp at h1; subst h1
    have hsz := kindsY_len hk
    have each : ∀ i, i < len → ∃ cs, W.cells? base (a.add (i * P.cellsOf e)) (P.cellsOf e) = some cs ∧ FlatY W ks cs := fun i hi => by
      have h2 := hel i hi
      rw [List.getElem?_eq_getElem (by omega)] at h2
      obtain ⟨cs, q1, q2⟩ := Option.bind_eq_some_iff.1 h2
      exact ⟨cs, q1, trod_kindsY 8 e ks hk n cs _ q2⟩
    refine ⟨len, fun i => (W.cells? base (a.add (i * P.cellsOf e)) (P.cellsOf e)).getD [], by omega, den_cell rfl rfl ?_⟩
    simp only [DenC]
    refine ⟨some a, cap, rfl, hl, fun hpos2 => ?_⟩
    have hspot : a.spot = none := by
      obtain ⟨cs, q1, q2⟩ := each 0 hpos2
      obtain ⟨g1, g2⟩ := cells_mem q1
      have hc0 : 0 < cs.length := by rw [g1, ← hsz]; exact hpos
      have := g2 0 _ (List.getElem?_eq_getElem hc0)
      rw [Nat.zero_mul] at this
      have e0 : a.add 0 = a := by simp [Addr.add]
      rw [e0] at this
      exact spot_none this
    obtain ⟨b, o, sp⟩ := a
    simp only at hspot; subst hspot
    refine ⟨b, o, rfl, fun i hi => ?_⟩
    obtain ⟨cs, q1, q2⟩ := each i hi
    obtain ⟨g1, g2⟩ := cells_mem q1
    refine ⟨cs, by rw [g1, hsz], fun j u hj => ?_, ?_⟩
    · have := g2 j u hj
      have e1 : (Addr.add ⟨b, o, none⟩ (i * P.cellsOf e)) = adr b (o + i * P.cellsOf e) := adr_add b o _
      rw [e1, adr_add] at this
      show W.cell? (adr b (o + i * ks.length + j)) = some u
      rw [hsz]; exact this
    · have : (W.cells? base (Addr.add ⟨b, o, none⟩ (i * P.cellsOf e)) (P.cellsOf e)).getD [] = cs := by rw [q1]; rfl
      rw [this]
      exact hF cs q2
/-- a slice of structs that hold slices of numbers -/
theorem open_rowsY {W : World} {t e : TypeId} {ks : List CY} {v : Value} {d : DataW H} {ps : List MemPlace} {r : Reach} {b0 : Nat} (ht : P.underlying t = some (.slice e)) (hk : kindsY P 8 e = some ks) (hpos : 0 < ks.length)
    (hval : Value.okWide P W r b0 t v) (hd : DataW.Trod enc P W base spare held t v d ps) (ρ : Rho) :
    ∃ (n : Nat) (a : Nat → Nat → Int) (d : Nat → Nat → List Int), n ≤ maxLen ∧ (∀ i j, (d i j).length ≤ maxLen) ∧ DenV W (O0 W) ρ (.ro ks.length n fun i => .agg (svY ks (a i) (d i) 0)) v := by
  obtain ⟨n, g, h1, h2⟩ := open_rowsY0 ht hk hpos hval hd (fun cs => .agg (svY ks (numX cs) (fun j => lsY W (kindY ks j) cs[j]?) 0)) (fun cs h => by
    simp only [DenC]
    refine denY h.1 h.2 (fun j => by rw [Nat.zero_add]) fun j k u hj hu => ?_
    rw [Nat.zero_add, kindY_get hj, hu]
    have := h.2 j _ hj
    rw [hu] at this
    exact lsY_spec this) ρ
  exact ⟨n, _, _, h1, fun i j => lsY_len _ _ _, h2⟩
/-- a slice of slices of numbers -/
theorem open_lists {W : World} {t e : TypeId} {k : IntKind} {v : Value} {d : DataW H} {ps : List MemPlace} {r : Reach} {b0 : Nat} (ht : P.underlying t = some (.slice e)) (hk : kindsY P 8 e = some [.s k])
    (hval : Value.okWide P W r b0 t v) (hd : DataW.Trod enc P W base spare held t v d ps) (ρ : Rho) :
    ∃ (n : Nat) (d : Nat → List Int), n ≤ maxLen ∧ (∀ i, (d i).length ≤ maxLen) ∧ DenV W (O0 W) ρ (.ro 1 n fun i => .roi k (d i)) v := by
  obtain ⟨n, g, h1, h2⟩ := open_rowsY0 ht hk (by simp) hval hd (fun cs => .roi k (lsY W k cs[0]?)) (fun cs h => by
    match cs, h with
    | [u], h => exact (lsY_spec (h.2 0 (.s k) rfl)).1
    | [], h => exact absurd h.1 (by simp)
    | _ :: _ :: _, h => exact absurd h.1 (by simp)) ρ
  exact ⟨n, _, h1, fun i => lsY_len _ _ _, h2⟩
end
end Go.Vx

/- Memory that was written and is written no more: it stands from then on as if it had been given. A law's text is walked in pieces, each over a world of its own. -/
namespace Go.Vx
open Go

section
variable {w0 w1 : World} {O O1 : Own} {ρ ρ1 : Rho}
mutual
theorem denC_sub (hO : ∀ b o v, O.mem b o v → O1.mem b o v) : ∀ (ρ : Rho) (c : SV) (vs : List Value), DenC w0 O ρ c vs → DenC w1 O1 ρ c vs
  | _, .any, _, _ => by simp [DenC]
  | _, .bool _, _, x => by simpa [DenC] using x
  | _, .sbool _, _, x => by simpa [DenC] using x
  | _, .lit _ _, _, x => by simpa [DenC] using x
  | _, .int _ _, _, x => by simpa [DenC] using x
  | _, .raw _, _, x => by simpa [DenC] using x
  | _, .ptr id off, _, x => by simpa only [DenC] using x
  | _, .sptr .., _, x => by simpa only [DenC] using x
  | _, .sl .., _, x => by simpa only [DenC] using x
  | _, .own id, _, x => by simpa only [DenC] using x
  | _, .ro sz n f, _, x => by
    simp only [DenC] at x ⊢
    obtain ⟨a, cap, h1, h2, h3⟩ := x
    refine ⟨a, cap, h1, h2, fun hn => ?_⟩
    obtain ⟨b, o, g1, g2⟩ := h3 hn
    refine ⟨b, o, g1, fun i hi => ?_⟩
    obtain ⟨us, u1, u2, u3⟩ := g2 i hi
    exact ⟨us, u1, fun j v hj => hO _ _ _ (u2 j v hj), denC_sub hO _ (f i) us u3⟩
  | _, .roi k l, _, x => by
    simp only [DenC] at x ⊢
    obtain ⟨a, cap, h1, h2, h3, h4⟩ := x
    refine ⟨a, cap, h1, h2, fun hn => ?_, h4⟩
    obtain ⟨b, o, g1, g2⟩ := h3 hn
    exact ⟨b, o, g1, fun j v hj => hO _ _ _ (g2 j v hj)⟩
  | _, .rob q k l, _, x => by
    simp only [DenC] at x ⊢
    obtain ⟨a, cap, h1, h2, h3, h4⟩ := x
    refine ⟨a, cap, h1, h2, fun hn => ?_, h4⟩
    obtain ⟨b, o, g1, g0, g2⟩ := h3 hn
    exact ⟨b, o, g1, g0, fun j v hj => hO _ _ _ (g2 j v hj)⟩
  | _, .rop v, _, x => by
    simp only [DenC] at x ⊢
    obtain ⟨b, o, us, h1, h2, h3⟩ := x
    exact ⟨b, o, us, h1, fun j v hj => hO _ _ _ (h2 j v hj), denC_sub hO _ v us h3⟩
  | ρ, .agg cs, vs, x => by
    simp only [DenC] at x ⊢
    exact denL_sub hO ρ cs vs x
  | ρ, .tuple ws, _, x => by
    simp only [DenC] at x ⊢
    obtain ⟨arr, h1, h2⟩ := x
    exact ⟨arr, h1, denT_sub hO ρ ws _ h2⟩
  | ρ, .func g first cap, _, x => by
    simp only [DenC] at x ⊢
    obtain ⟨a, c, h1, h2, h3⟩ := x
    exact ⟨a, c, h1, denT_sub hO ρ first _ h2, denT_sub hO ρ cap _ h3⟩
theorem denL_sub (hO : ∀ b o v, O.mem b o v → O1.mem b o v) : ∀ (ρ : Rho) (cs : List SV) (vs : List Value), DenL w0 O ρ cs vs → DenL w1 O1 ρ cs vs
  | _, [], _, x => by simpa [DenL] using x
  | ρ, c :: cs, vs, x => by
    simp only [DenL] at x ⊢
    obtain ⟨v, r, h1, h2, h3, h4⟩ := x
    exact ⟨v, r, h1, denC_sub hO ρ c _ h2, h3, denL_sub hO ρ cs r h4⟩
theorem denT_sub (hO : ∀ b o v, O.mem b o v → O1.mem b o v) : ∀ (ρ : Rho) (cs : List SV) (vs : List Value), DenT w0 O ρ cs vs → DenT w1 O1 ρ cs vs
  | _, [], _, x => by simpa [DenT] using x
  | ρ, c :: cs, vs, x => by
    simp only [DenT] at x ⊢
    obtain ⟨v, r, h1, h2, h4⟩ := x
    exact ⟨v, r, h1, h2.imp id (fun y => ⟨y.1, denC_sub hO ρ c _ y.2⟩), denT_sub hO ρ cs r h4⟩
end


theorem denV_sub (hO : ∀ b o v, O.mem b o v → O1.mem b o v) {c : SV} {v : Value} (h : DenV w0 O ρ c v) : DenV w1 O1 ρ c v :=
  h.imp id fun y => ⟨y.1, denC_sub hO ρ c _ y.2⟩
theorem glob_sub {g : Ctx} (hO : ∀ b o v, O.mem b o v → O1.mem b o v) (h : GlobOk g w0 O) : GlobOk g w1 O1 := fun n v hn => by
  obtain ⟨us, h1, h2⟩ := h n v hn
  exact ⟨us, fun j v hj => hO _ _ _ (h1 j v hj), denC_sub hO _ _ _ h2⟩

variable {w : World}
theorem cellsAt_all (h : ∀ c vs, DenC w0 O ρ c vs → DenC w1 O1 ρ1 c vs) {b base : Nat} {cs : List SV} (x : CellsAt w0 O ρ w b base cs) : CellsAt w1 O1 ρ1 w b base cs := fun j c hc =>
  let ⟨v, g1, g2, g3⟩ := x j c hc
  ⟨v, g1, h _ _ g2, g3⟩
theorem ownAt_all (h : ∀ c vs, DenC w0 O ρ c vs → DenC w1 O1 ρ1 c vs) {bd : Body} {loc : Option (Nat × Nat)} {len cap : Nat} {F : Foot} (x : OwnAt w0 O ρ w bd loc len cap F) : OwnAt w1 O1 ρ1 w bd loc len cap F := by
  obtain ⟨h1, h2, h3, h4⟩ := x
  refine ⟨h1, h2, h3, ?_⟩
  cases loc with
  | none => exact h4
  | some y => exact ⟨h4.1, cellsAt_all h h4.2.1, h4.2.2⟩
theorem holds_all (hO : ∀ b o v, O.mem b o v → O1.mem b o v) (hl : ∀ b o, O.lent b o → O1.lent b o) (h : ∀ c vs, DenC w0 O ρ c vs → DenC w1 O1 ρ1 c vs) {bd : Body} {hd : Hd} {F : Foot} (x : Holds w0 O ρ w bd hd F) : Holds w1 O1 ρ1 w bd hd F := by
  cases bd with
  | log l =>
    cases hd with
    | sl a b c => exact x
    | «at» b base =>
      obtain ⟨loc, len, cap, F1, h1, h2, h3, h4, h5, h6, h7⟩ := x
      exact ⟨loc, len, cap, F1, h1, h2, h3, h4, h5, ownAt_all h h6, h7⟩
  | cells cs =>
    cases hd with
    | «at» b base => exact ⟨x.1, x.2.1, cellsAt_all h x.2.2⟩
    | sl a b c => exact x.elim
  | ints k l =>
    cases hd with
    | «at» b base => exact ⟨x.1, x.2.1, cellsAt_all h x.2.2⟩
    | sl a b c => exact ownAt_all h x
  | lists q k l =>
    cases hd with
    | «at» b base => exact ⟨x.1, x.2.1, cellsAt_all h x.2.2⟩
    | sl a b c => exact ownAt_all h x
  | rows ks l =>
    cases hd with
    | «at» b base => exact ⟨x.1, x.2.1, cellsAt_all h x.2.2⟩
    | sl a b c => exact ownAt_all h x
  | grow ks l =>
    cases hd with
    | «at» b base => exact x.elim
    | sl a b c =>
      obtain ⟨n, F0, h1, h2, h3, h4⟩ := x
      exact ⟨n, F0, h1, ownAt_all h h2, h3, fun b o hp => let ⟨q, v, hv⟩ := h4 b o hp; ⟨hl _ _ q, v, hO _ _ _ hv⟩⟩
end

/-- a world that stands behind another one: what stood there stands, and what it keeps is kept -/
structure Grow (W : World) (OW : Own) (w0 : World) (O : Own) : Prop where
  mem : ∀ b o v, OW.mem b o v → O.mem b o v
  back : ∀ w', Frame w0 O w' → Frame W OW w'
  newer : ∀ b o v, O.mem b o v → OW.mem b o v ∨ W.heap.size ≤ b ∨ OW.own b o
  own : ∀ b o, b < W.heap.size → O.own b o → OW.own b o
  size : W.heap.size ≤ w0.heap.size
theorem Grow.refl (W : World) (OW : Own) : Grow W OW W OW := ⟨fun _ _ _ h => h, fun _ h => h, fun _ _ _ h => .inl h, fun _ _ _ h => h, Nat.le_refl _⟩
theorem Grow.trans {W w0 w1 : World} {OW O O1 : Own} (h : Grow W OW w0 O) (h' : Grow w0 O w1 O1) : Grow W OW w1 O1 :=
  ⟨fun b o v x => h'.mem _ _ _ (h.mem _ _ _ x), fun w' x => h.back _ (h'.back _ x), fun b o v x => by
    rcases h'.newer b o v x with y | y | y
    · exact h.newer b o v y
    · exact .inr (.inl (Nat.le_trans h.size y))
    · rcases Nat.lt_or_ge b W.heap.size with z | z
      · exact .inr (.inr (h.own b o z y))
      · exact .inr (.inl z), fun b o x y => h.own b o x (h'.own b o (Nat.lt_of_lt_of_le x h.size) y), Nat.le_trans h.size h'.size⟩

def reO (M : Nat → Nat → Value → Prop) (L : Nat → Nat → Prop) (H' : Nat → Option Body) (Φ : Nat → Foot) : Own := ⟨fun b o => ∃ id, H' id ≠ none ∧ Φ id b o, M, L⟩

section
variable {w0 w : World} {O : Own} {ρ : Rho} {H : Nat → Option Body} {Φ : Nat → Foot}
theorem RelH.rebase (x : RelH w0 O ρ H w Φ) {M : Nat → Nat → Value → Prop} {H' : Nat → Option Body} (hH : ∀ id bd, H' id = some bd → H id = some bd) (hM : ∀ b o v, M b o v → w.cell? (adr b o) = some v) (hMO : ∀ b o v, O.mem b o v → M b o v)
    (hnew : ∀ b o v, M b o v → O.mem b o v ∨ w0.heap.size ≤ b ∨ O.own b o) (hdis : ∀ id b o v, H' id ≠ none → Φ id b o → M b o v → False) : RelH w (reO M O.lent H' Φ) ρ H' w Φ ∧ Grow w0 O w (reO M O.lent H' Φ) := by
  have hn : ∀ id, H' id ≠ none → H id ≠ none := fun id h e => by
    cases hb : H' id with
    | none => exact h hb
    | some bd => rw [hH id bd hb] at e; simp at e
  refine ⟨⟨Frame.refl w _ (fun b o _ ⟨id, h1, h2⟩ => x.quiet (hn id h1) h2) fun b o v h => ⟨hM b o v h, fun ⟨id, h1, h2⟩ => hdis id b o v h1 h2 h⟩, fun id bd hb => ?_, fun id id' b o hne h1 h2 => x.disj id id' b o hne (hn _ h1) (hn _ h2), fun id b o h1 h2 => ⟨(x.mine id b o (hn _ h1) h2).1, fun _ => ⟨id, h1, h2⟩⟩⟩, ?_⟩
  · obtain ⟨hd, q1, q2⟩ := x.holds id bd (hH id bd hb)
    exact ⟨hd, q1, holds_all (O := O) (O1 := reO M O.lent H' Φ) (fun b o v h => hMO b o v h) (fun _ _ h => h) (fun c vs h => denC_sub (fun b o v h => hMO b o v h) ρ c vs h) q2⟩
  · exact ⟨hMO, fun w' h => x.frame.comp h fun b o hb ⟨id, h1, h2⟩ => (x.mine id b o (hn _ h1) h2).2 hb, hnew, fun b o hb ⟨id, h1, h2⟩ => (x.mine id b o (hn _ h1) h2).2 hb, x.frame.size⟩

theorem RelH.memCell (x : RelH w0 O ρ H w Φ) {b o : Nat} {v : Value} (h : O.mem b o v) : w.cell? (adr b o) = some v := x.frame.cell (x.frame.mem _ _ _ h).1 (x.frame.mem _ _ _ h).2
theorem RelH.memFar (x : RelH w0 O ρ H w Φ) {id b o : Nat} {v : Value} (hn : H id ≠ none) (h1 : Φ id b o) (h : O.mem b o v) : False :=
  (x.frame.mem _ _ _ h).2 ((x.mine id b o hn h1).2 (World.block_lt_of_cell? w0 (adr b o) (x.frame.mem _ _ _ h).1))

/-- a chunk is given up: what it holds stands from now on -/
theorem RelH.freeze (x : RelH w0 O ρ H w Φ) {id : Nat} (hid : H id ≠ none) : ∃ O1, RelH w O1 ρ (upH H id none) w Φ ∧ Grow w0 O w O1 ∧ ∀ b o v, Φ id b o → w.cell? (adr b o) = some v → O1.mem b o v := by
  have hne : ∀ i, upH H id none i ≠ none → i ≠ id ∧ H i ≠ none := fun i hi => by
    unfold upH at hi
    by_cases e : i = id
    · rw [if_pos e] at hi; exact absurd rfl hi
    · rw [if_neg e] at hi; exact ⟨e, hi⟩
  refine ⟨reO (fun b o v => O.mem b o v ∨ (Φ id b o ∧ w.cell? (adr b o) = some v)) O.lent (upH H id none) Φ, ?_⟩
  obtain ⟨q1, q2⟩ := x.rebase (M := fun b o v => O.mem b o v ∨ (Φ id b o ∧ w.cell? (adr b o) = some v)) (H' := upH H id none) (fun i bd hb => by
    have h := hne i (by rw [hb]; simp)
    unfold upH at hb
    rwa [if_neg h.1] at hb) (fun b o v h => by
    rcases h with h | h
    · exact x.memCell h
    · exact h.2) (fun b o v h => .inl h) (fun b o v h => by
    rcases h with h | h
    · exact .inl h
    · rcases Nat.lt_or_ge b w0.heap.size with e | e
      · exact .inr (.inr ((x.mine id b o hid h.1).2 e))
      · exact .inr (.inl e)) (fun i b o v hi h1 h => by
    obtain ⟨g1, g2⟩ := hne i hi
    rcases h with h | h
    · exact x.memFar g2 h1 h
    · exact x.disj i id b o g1 g2 hid h1 h.1)
  exact ⟨q1, q2, fun b o v h1 h2 => .inr ⟨h1, h2⟩⟩

variable {O1 : Own} {id : Nat} {ρ1 : Rho} {k : IntKind}
theorem frozen_own {l : List Int} (x : RelH w0 O ρ H w Φ) (hb : H id = some (.ints k l)) (hm : ∀ b o v, Φ id b o → w.cell? (adr b o) = some v → O1.mem b o v) {v : Value} (hv : DenV w0 O ρ (.own id) v) : DenV w O1 ρ1 (.roi k l) v := by
  obtain ⟨loc, len, cap, e1, rfl⟩ := own_den hv
  obtain ⟨_, g1, g2, g3, g4⟩ := own_at x hb e1
  simp only [ecount] at g1; subst g1
  obtain ⟨hd, hr, hh⟩ := x.holds id _ hb
  have hf : ∀ n ∈ l, Fits k n := holds_facts hh
  refine den_cell rfl rfl ?_
  simp only [DenC]
  refine ⟨_, cap, rfl, g2, fun hl => ?_, hf⟩
  cases loc with
  | none => simp only at g4; omega
  | some p =>
    refine ⟨p.1, p.2, rfl, fun j u hu => ?_⟩
    simp only at g4
    obtain ⟨h1, h2, _⟩ := g4
    rw [List.getElem?_map] at hu
    cases hj : l[j]? with
    | none => simp [hj] at hu
    | some n =>
      simp [hj] at hu; subst hu
      have hjl := (List.getElem?_eq_some_iff.1 hj).1
      obtain ⟨v, c1, c2, _⟩ := h2 j (.int k n) (by simp [cellsOf, hj])
      simp only [DenC] at c2
      obtain ⟨c2, _⟩ := c2
      simp at c2; subst c2
      exact hm _ _ _ ((h1 _ _).2 ⟨rfl, by omega, by simp only [esz]; omega⟩) c1

theorem frozen_sl {l : List Int} (x : RelH w0 O ρ H w Φ) (hb : H id = some (.ints k l)) (hm : ∀ b o v, Φ id b o → w.cell? (adr b o) = some v → O1.mem b o v) {m off j len : Nat} {kn : Bool} (hl : off + j + len ≤ l.length) {v : Value} (hv : DenV w0 O ρ (.sl id m off 1 j len kn) v) :
    DenV w O1 ρ1 (.roi k ((l.drop (off + j)).take len)) v := by
  obtain ⟨a, cap, rfl, g2, g3⟩ := sl_den hv
  obtain ⟨hd, hr, hh⟩ := x.holds id _ hb
  have hf : ∀ n ∈ l, Fits k n := holds_facts hh
  have hlen : ((l.drop (off + j)).take len).length = len := by rw [List.length_take, List.length_drop]; omega
  refine den_cell rfl rfl ?_
  simp only [DenC]
  rw [hlen]
  refine ⟨_, cap, rfl, g2, fun h0 => ?_, fun n hn => hf n (List.mem_of_mem_drop (List.mem_of_mem_take hn))⟩
  obtain ⟨hd', b, base, e1, e2, rfl⟩ := g3 h0
  rw [e1] at hr; cases hr
  obtain ⟨_, hc, hF⟩ := hh.cells (by intro l; simp) e2
  have hF := hF (by intro ks l; simp)
  refine ⟨b, _, rfl, fun i u hu => ?_⟩
  rw [List.getElem?_map] at hu
  cases hj : ((l.drop (off + j)).take len)[i]? with
  | none => simp [hj] at hu
  | some n =>
    simp [hj] at hu; subst hu
    rw [List.getElem?_take] at hj
    split at hj
    · rw [List.getElem?_drop] at hj
      have hjl := (List.getElem?_eq_some_iff.1 hj).1
      obtain ⟨v, c1, c2, _⟩ := hc (off + j + i) (.int k n) (by simp [cellsOf, hj])
      simp only [DenC] at c2
      obtain ⟨c2, _⟩ := c2
      simp at c2; subst c2
      have e : base + (off * 1 + j) + i = base + (off + j + i) := by omega
      rw [e]
      exact hm _ _ _ (hF (off + j + i) (by simp [cellsOf]; omega)) c1
    · simp at hj

theorem frozen_slN {q : Nat} {l : List Int} (x : RelH w0 O ρ H w Φ) (hb : H id = some (.ints k l)) (hm : ∀ b o v, Φ id b o → w.cell? (adr b o) = some v → O1.mem b o v) {m off j len : Nat} {kn : Bool} (hq : ∀ b o, Φ id b o → q ≤ b) (hl : off + j + len ≤ l.length) {v : Value} (hv : DenV w0 O ρ (.sl id m off 1 j len kn) v) :
    DenV w O1 ρ1 (.rob q k ((l.drop (off + j)).take len)) v := by
  obtain ⟨a, cap, rfl, g2, g3⟩ := sl_den hv
  obtain ⟨hd, hr, hh⟩ := x.holds id _ hb
  have hf : ∀ n ∈ l, Fits k n := holds_facts hh
  have hlen : ((l.drop (off + j)).take len).length = len := by rw [List.length_take, List.length_drop]; omega
  refine den_cell rfl rfl ?_
  simp only [DenC]
  rw [hlen]
  refine ⟨_, cap, rfl, g2, fun h0 => ?_, fun n hn => hf n (List.mem_of_mem_drop (List.mem_of_mem_take hn))⟩
  obtain ⟨hd', b, base, e1, e2, rfl⟩ := g3 h0
  rw [e1] at hr; cases hr
  obtain ⟨_, hc, hF⟩ := hh.cells (by intro l; simp) e2
  have hF := hF (by intro ks l; simp)
  have hj0 : off + j < l.length := by omega
  refine ⟨b, _, rfl, hq b (base + (off + j)) (hF (off + j) (by simp [cellsOf]; omega)), fun i u hu => ?_⟩
  rw [List.getElem?_map] at hu
  cases hj : ((l.drop (off + j)).take len)[i]? with
  | none => simp [hj] at hu
  | some n =>
    simp [hj] at hu; subst hu
    rw [List.getElem?_take] at hj
    split at hj
    · rw [List.getElem?_drop] at hj
      have hjl := (List.getElem?_eq_some_iff.1 hj).1
      obtain ⟨v, c1, c2, _⟩ := hc (off + j + i) (.int k n) (by simp [cellsOf, hj])
      simp only [DenC] at c2
      obtain ⟨c2, _⟩ := c2
      simp at c2; subst c2
      have e : base + (off * 1 + j) + i = base + (off + j + i) := by omega
      rw [e]
      exact hm _ _ _ (hF (off + j + i) (by simp [cellsOf]; omega)) c1
    · simp at hj

def listsF (q : Nat) (k : IntKind) (ls : List (List Int)) : Nat → SV := fun i => .rob q k (ls.getD i [])
theorem frozen_lists {q : Nat} {ls : List (List Int)} (x : RelH w0 O ρ H w Φ) (hb : H id = some (.lists q k ls)) (hm : ∀ b o v, Φ id b o → w.cell? (adr b o) = some v → O1.mem b o v) (hO : ∀ b o v, O.mem b o v → O1.mem b o v) {v : Value} (hv : DenV w0 O ρ (.own id) v) :
    DenV w O1 ρ1 (.ro 1 ls.length (listsF q k ls)) v := by
  obtain ⟨loc, len, cap, e1, rfl⟩ := own_den hv
  obtain ⟨_, g1, g2, g3, g4⟩ := own_at x hb e1
  simp only [ecount] at g1; subst g1
  refine den_cell rfl rfl ?_
  simp only [DenC]
  refine ⟨_, cap, rfl, g2, fun hl => ?_⟩
  cases loc with
  | none => simp only at g4; omega
  | some p =>
    simp only at g4
    obtain ⟨h1, h2, _⟩ := g4
    refine ⟨p.1, p.2, rfl, fun i hi => ?_⟩
    obtain ⟨v, c1, c2, _⟩ := h2 i (.rob q k (ls.getD i [])) (by simp [cellsOf, List.getD, hi])
    refine ⟨[v], rfl, fun j u hu => ?_, ?_⟩
    · match j, hu with
      | 0, hu =>
        simp at hu; subst hu
        have e : p.2 + i * 1 + 0 = p.2 + i := by omega
        rw [e]
        exact hm _ _ _ ((h1 _ _).2 ⟨rfl, by omega, by simp only [esz]; omega⟩) c1
    · have := denC_sub (w1 := w) hO ρ _ _ c2
      simp only [listsF, DenC] at this ⊢
      exact this
end

/-! ### a law's text in pieces -/
def StG (g : Ctx) (W : World) (OW : Own) (nT : Nat) (S : List (Nat × SV)) (B : List Body) (a : Act) (w : World) : Prop :=
  ∃ w0 O ρ Φ, GlobOk g w0 O ∧ Grow W OW w0 O ∧ RelA nT w0 O ρ (tget (mkT S)) (BH B) Φ a w ∧ ∀ j, B.length ≤ j → ρ j = none

section
variable {g : Ctx} {W : World} {OW : Own} {nT : Nat} {a : Act} {w : World} {S : List (Nat × SV)} {B : List Body}

theorem StG.of {c : Code} {e : Ex} {S' : List (Nat × SV)} {B' : List Body} {m : Nat} (h : ∀ w0 O, GlobOk g w0 O → SimC g.P w0 O nT c S B e S' B' m) (x : StG g W OW nT S B a w) {Q : Exit → Act → World → Prop} (hQ : ∀ a' w', StG g W OW nT S' B' a' w' → Q e.up a' w') : wpL g.P c Q a w := by
  obtain ⟨w0, O, ρ, Φ, hG, hgr, r, hr⟩ := x
  exact wpL_mono (h w0 O hG ρ Φ a w r hr) fun e' a' w' ⟨he, ρ', Φ', _, q2, q3⟩ => by
    subst he
    exact hQ a' w' ⟨w0, O, ρ', Φ', hG, hgr, q3, q2⟩

theorem StG.run {n : Nat} {pl : List Plan} {c : Code} {B' : List Body} {keep ids : List Nat} {e : Ex} {vals : List SV} {C : List Prop} (x : StG g W OW nT S B a w) (hU : CtxU g) (hn : nT < 65535)
    (h : runC g n nT pl c S B keep ids = some (e, vals, B'.map some, C)) (hC : AllC C) (hnd : ids.Nodup) (hk : ∀ k ∈ keep, k < 65535) (hB : B.length < 65535) {Q : Exit → Act → World → Prop} (hQ : ∀ a' w', StG g W OW nT (keep.zip vals) B' a' w' → Q e.up a' w') : c.wp g.P Q a w :=
  wpL_wp (StG.of (fun w0 O hG => SimC.run (m := 0) hU hn h hC hnd (fun j hj => by omega) hk hB hG) x hQ)

theorem StG.pre {S1 : List (Nat × SV)} (x : StG g W OW nT S B a w) (hi : ∀ t, DenImp (tget (mkT S) t) (tget (mkT S1) t)) : StG g W OW nT S1 B a w := by
  obtain ⟨w0, O, ρ, Φ, hG, hgr, r, hr⟩ := x
  exact ⟨w0, O, ρ, Φ, hG, hgr, ⟨r.size, r.defers, fun t => hi t _ _ _ _ (r.tmps t), r.heap⟩, hr⟩

theorem StG.preI {B1 : List Body} (x : StG g W OW nT S B a w) (hi : BImpL B B1) : StG g W OW nT S B1 a w := by
  obtain ⟨w0, O, ρ, Φ, hG, hgr, r, hr⟩ := x
  exact ⟨w0, O, ρ, Φ, hG, hgr, ⟨r.size, r.defers, r.tmps, relH_imp hi r.heap⟩, by rw [← hi.get.1]; exact hr⟩

theorem StG.adopt (x : StG g W OW nT S B a w) (bd : Body) (t : Nat) (hb : emptyB bd) (ht : tget (mkT S) t = .raw (.slice none 0 0)) (hk : ∀ y ∈ S, y.1 < 65535) (hm : t ∈ S.map (·.1)) : StG g W OW nT (setS S t (.own B.length)) (B ++ [bd]) a w := by
  obtain ⟨w0, O, ρ, Φ, hG, hgr, r, hr⟩ := x
  have hn := hr B.length (Nat.le_refl _)
  have x := relH_funext (fun j => (BH_append B bd j).symm) (r.heap.adopt hn hb)
  refine ⟨w0, O, upR ρ B.length (.sl none 0 0), _, hG, hgr, ⟨r.size, r.defers, fun t' => ?_, x⟩, fun j hj => ?_⟩
  · rw [tget_setS hk, if_pos hm]
    split
    · rename_i e; subst e
      have := r.tmps t'
      rw [ht] at this
      exact den_nil this
    · exact DenV.mono (Ext.up hn _) (r.tmps t')
  · simp at hj
    simp [upR, show j ≠ B.length by omega]; exact hr j (by omega)

theorem zip_rel {R : SV → SV → Prop} (h0 : R .any .any) : ∀ (keep : List Nat) (vals vals' : List SV), (∀ t ∈ keep, t < 65535) → vals.length = vals'.length → (∀ (i : Nat) (c c' : SV), vals[i]? = some c → vals'[i]? = some c' → R c c') → ∀ t, R (tget (mkT (keep.zip vals)) t) (tget (mkT (keep.zip vals')) t)
  | [], _, _, _, _, _, t => by simpa [mkT, tget, Tr.get_lf] using h0
  | k :: keep, [], vals', _, hl, _, t => by
    have : vals' = [] := List.eq_nil_of_length_eq_zero (by simpa using hl.symm)
    subst this
    simpa [mkT, tget, Tr.get_lf] using h0
  | k :: keep, v :: vals, [], _, hl, _, t => by simp at hl
  | k :: keep, v :: vals, v' :: vals', hk, hl, h, t => by
    have e1 : tget (mkT ((k :: keep).zip (v :: vals))) t = if t = k then v else tget (mkT (keep.zip vals)) t := Tr.get_set _ _ _ _ _ (hk k (by simp))
    have e2 : tget (mkT ((k :: keep).zip (v' :: vals'))) t = if t = k then v' else tget (mkT (keep.zip vals')) t := Tr.get_set _ _ _ _ _ (hk k (by simp))
    rw [e1, e2]
    split
    · exact h 0 v v' rfl rfl
    · exact zip_rel h0 keep vals vals' (fun y hy => hk y (by simp [hy])) (by simpa using hl) (fun i c c' h1 h2 => h (i + 1) c c' (by simpa using h1) (by simpa using h2)) t

theorem upto_nodup : ∀ n, (upto n).Nodup
  | 0 => List.nodup_nil
  | n + 1 => by
    refine List.nodup_append.2 ⟨upto_nodup n, by simp, fun x hx y hy => ?_⟩
    obtain ⟨j, hj⟩ := List.getElem?_of_mem hx
    rw [upto_get] at hj
    split at hj
    · simp at hj hy; omega
    · simp at hj
/-- the last chunk is given up -/
theorem StG.freeze {bd : Body} {keep : List Nat} {vals vals' : List SV} (x : StG g W OW nT (keep.zip vals) (B ++ [bd]) a w) (hB : B.map (mapB (idx (upto B.length))) = B) (hk : ∀ t ∈ keep, t < 65535) (hl : vals.length = vals'.length)
    (hv : ∀ (i : Nat) (c c' : SV), vals[i]? = some c → vals'[i]? = some c' → c' = mapC (idx (upto B.length)) c ∨
      ∀ w0 O ρ H w Φ O1, RelH w0 O ρ H w Φ → H B.length = some bd → (∀ b o v, O.mem b o v → O1.mem b o v) → (∀ b o v, Φ B.length b o → w.cell? (adr b o) = some v → O1.mem b o v) → (∀ b o, Φ B.length b o → b < W.heap.size → OW.own b o) → ∀ v ρ1, DenV w0 O ρ c v → DenV w O1 ρ1 c' v) :
    StG g W OW nT (keep.zip vals') B a w := by
  obtain ⟨w0, O, ρ, Φ, hG, hgr, r, hr⟩ := x
  have hid : BH (B ++ [bd]) B.length = some bd := by simp [BH]
  obtain ⟨O1, q1, q2, q3⟩ := r.heap.freeze (id := B.length) (by rw [hid]; simp)
  have hnd := upto_nodup B.length
  have q4 := relH_ren q1 hnd
  refine ⟨w, O1, inR ρ (upto B.length), inF Φ (upto B.length), glob_sub q2.mem hG, hgr.trans q2, ⟨r.size, r.defers, fun t => ?_, relH_funext (fun j => ?_) q4⟩, fun j hj => ?_⟩
  · refine zip_rel (R := fun c c' => ∀ v, DenV w0 O ρ c v → DenV w O1 (inR ρ (upto B.length)) c' v) (fun v h => .inl rfl) keep vals vals' hk hl (fun i c c' h1 h2 v hd => ?_) t _ (r.tmps t)
    rcases hv i c c' h1 h2 with rfl | h
    · exact denV_map (inR_idx ρ (upto B.length)) (denV_sub (w1 := w) q2.mem hd)
    · exact h w0 O ρ _ w Φ O1 r.heap hid q2.mem q3 (fun b o h1 h2 => hgr.own b o h2 ((r.heap.mine _ b o (by rw [hid]; simp) h1).2 (Nat.lt_of_lt_of_le h2 hgr.size))) v _ hd
  · unfold renH
    rw [upto_get]
    rcases Nat.lt_or_ge j B.length with hj | hj
    · rw [if_pos hj]
      have hb := congrArg (fun l => l[j]?) hB
      simp only [List.getElem?_map] at hb
      simp only [Option.bind_some]
      unfold upH BH
      rw [if_neg (by omega), List.getElem?_append_left hj]
      exact hb
    · rw [if_neg (by omega)]
      simp [BH, List.getElem?_eq_none hj]
  · simp [inR, upto_get, show ¬ j < B.length by omega]

/-! ### loops -/
theorem StG.iter {c : Code} {S : Nat → List (Nat × SV)} {B : Nat → List Body} {N : Nat} {Q : Exit → Act → World → Prop}
    (round : ∀ i, i < N → ∀ a w, StG g W OW nT (S i) (B i) a w → ∀ Q' : Exit → Act → World → Prop, (∀ a' w', StG g W OW nT (S (i + 1)) (B (i + 1)) a' w' → Q' .normal a' w') → c.wp g.P Q' a w)
    (last : ∀ a w, StG g W OW nT (S N) (B N) a w → c.wp g.P (Exit.then (fun _ _ => False) Q) a w) : ∀ i, i ≤ N → ∀ a w, StG g W OW nT (S i) (B i) a w → (Code.loop c).wp g.P Q a w := by
  have key : ∀ n i, i + n = N → ∀ a w, StG g W OW nT (S i) (B i) a w → LoopWp g.P c Q a w := by
    intro n
    induction n with
    | zero =>
      intro i hi a w h
      have : i = N := by omega
      subst this
      refine LoopWp.round (wp_mono (last a w h) fun e a w hq => ?_)
      cases e with
      | normal => exact hq.elim
      | _ => exact hq
    | succ n ih =>
      intro i hi a w h
      exact LoopWp.round (round i (by omega) a w h _ fun a' w' h' => ih (i + 1) (by omega) a' w' h')
  intro i hi a w h
  exact LoopWp.wp (key (N - i) i (by omega) a w h)

/-! ### the first pieces of a text -/
def takeSeq : Nat → Code → Code
  | 0, _ => .skip
  | n + 1, .seq a b => .seq a (takeSeq n b)
  | _, _ => .ret
def dropSeq : Nat → Code → Code
  | 0, c => c
  | n + 1, .seq _ b => dropSeq n b
  | _, _ => .skip

theorem exec_cut {w0 : World} {O : Own} (hc : CtxOk g w0 O) : ∀ (k : Nat) (f : Nat) (c : Code) (T : Tmps) (H : Heap) (pl : List Plan) (o : Out), nT < 65535 → exec g (LoopGood g) f nT pl (takeSeq k c) T H = some o → o.e = .normal → AllC o.C →
    H.nx ≤ o.H.nx ∧ ∀ (Q : Exit → Act → World → Prop) ρ Φ a w, RelA nT w0 O ρ (tget T) (hget H) Φ a w → (∀ id, H.nx ≤ id → id < o.H.nx → ρ id = none) → (∀ a' w', Done nT w0 O ρ (tget o.T) (hget o.H) H.nx o.H.nx a' w' → (dropSeq k c).wp g.P Q a' w') → c.wp g.P Q a w
  | 0, f, c, T, H, pl, o, hn, h, he, hC => by
    cases f with
    | zero => simp [exec] at h
    | succ f =>
      unfold exec takeSeq at h
      simp only [Option.some.injEq] at h; subst h
      exact ⟨Nat.le_refl _, fun Q ρ Φ a w r hf hq => hq a w ⟨ρ, Φ, Ext.refl ρ, fun _ h => absurd rfl h, r⟩⟩
  | k + 1, f, c, T, H, pl, o, hn, h, he, hC => by
    cases f with
    | zero => simp [exec] at h
    | succ f =>
      cases c with
      | seq x y =>
        unfold exec takeSeq at h
        simp only at h
        split at h
        · rename_i T1 H1 pl1 C1 h1
          split at h
          · rename_i o2 h2
            simp only [Option.some.injEq] at h; subst h
            obtain ⟨c1, c2⟩ := hC.append
            have k1 := exec_ok hc f _ _ _ _ _ _ hn h1 c1
            have k2 := exec_cut hc k f y _ _ _ _ hn h2 he c2
            refine ⟨Nat.le_trans k1.1 k2.1, fun Q ρ Φ a w r hf hq => ?_⟩
            have hx := wpL_wp (k1.2 ρ Φ a w r fun id p q => hf id p (Nat.lt_of_lt_of_le q k2.1))
            refine wp_seq (wp_mono hx fun e' a' w' ⟨he', ρ', Φ', q1, q2, q3⟩ => ?_)
            subst he'
            exact k2.2 Q ρ' Φ' a' w' q3 (fresh_after q2 hf k1.1) fun a2 w2 hd => hq a2 w2 (Done.trans q1 q2 k1.1 k2.1 hd)
          · simp at h
        · rename_i hne
          obtain ⟨e1, T1, H1, pl1, C1⟩ := o
          simp only at he; subst he
          exact (hne _ _ _ _ h).elim
      | _ => all_goals (unfold exec takeSeq at h; simp only [Option.some.injEq] at h; subst h; simp at he)

theorem StG.cut {k n : Nat} {pl : List Plan} {c : Code} {B' : List Body} {keep ids : List Nat} {vals : List SV} {C : List Prop} (x : StG g W OW nT S B a w) (hU : CtxU g) (hn : nT < 65535)
    (h : runC g n nT pl (takeSeq k c) S B keep ids = some (.normal, vals, B'.map some, C)) (hC : AllC C) (hnd : ids.Nodup) (hk : ∀ k ∈ keep, k < 65535) (hB : B.length < 65535) {Q : Exit → Act → World → Prop}
    (hQ : ∀ a' w', StG g W OW nT (keep.zip vals) B' a' w' → (dropSeq k c).wp g.P Q a' w') : c.wp g.P Q a w := by
  obtain ⟨w0, O, ρ, Φ, hG, hgr, r, hr⟩ := x
  unfold runC at h
  split at h
  · rename_i e1 T H1 pl1 C1 hx
    simp only [Option.some.injEq, Prod.mk.injEq] at h
    obtain ⟨rfl, hv, hb, rfl⟩ := h
    obtain ⟨s1, s2⟩ := exec_cut (hU w0 O hG) k n c _ _ _ _ hn hx rfl hC
    rw [← hget_mkB hB] at r
    refine s2 Q ρ Φ a w r (fun id hid _ => hr id hid) fun a' w' ⟨ρ', Φ', q1, q2, q3⟩ => hQ a' w' ⟨w0, O, inR ρ' ids, inF Φ' ids, hG, hgr, ⟨q3.size, q3.defers, fun t => ?_, ?_⟩, fun j hj => ?_⟩
    · have hz : ∀ y ∈ keep.zip vals, y.1 < 65535 ∧ y.2 = mapC (idx ids) (tget T y.1) := fun y hy => by
        rw [← hv] at hy
        rw [List.mem_iff_getElem?] at hy
        obtain ⟨i, hi⟩ := hy
        rw [List.getElem?_zip_eq_some] at hi
        obtain ⟨i1, i2⟩ := hi
        refine ⟨hk _ (List.mem_of_getElem? i1), ?_⟩
        rw [List.getElem?_map, i1] at i2
        simpa using i2.symm
      rcases tget_mkT _ t fun y hy => (hz y hy).1 with e | ⟨y, h1, h2, h3⟩
      · rw [e]; exact .inl rfl
      · rw [h3, (hz y h1).2, h2]
        exact denV_map (inR_idx ρ' ids) (q3.tmps t)
    · refine relH_funext (fun j => ?_) (relH_ren q3.heap hnd)
      unfold renH BH
      have := congrArg (fun l => l[j]?) hb
      simp only [List.getElem?_map] at this
      cases hj : ids[j]? with
      | none =>
        rw [hj] at this
        cases hb' : B'[j]? with
        | none => rfl
        | some b => rw [hb'] at this; simp at this
      | some id =>
        rw [hj] at this
        cases hb' : B'[j]? with
        | none => rw [hb'] at this; simp at this
        | some b => rw [hb'] at this; simpa using this
    · have : ids.length = B'.length := by have := congrArg List.length hb; simpa using this
      simp [inR, List.getElem?_eq_none (show ids.length ≤ j by omega)]
  · simp at h

/-- a law from its entry on -/
theorem FnOk.ofG {f : FuncId} {fn : Func} {c : Code} {args : List SV} {v : SV} {t : Nat} (hU : CtxU g) (hf : g.P.funcs[f]? = some fn) (hb : fn.body = some c) (hn : fn.ntmps < 65535) (hl : args.length ≤ fn.ntmps) (hr : fn.results.toList = [.tmp t]) (hS : entryT args 0 = mkT S)
    (hv : ∀ w0 O ρ w1 O1 ρ1 u, DenV w0 O ρ v u → DenV w1 O1 ρ1 v u)
    (h : ∀ W OW, GlobOk g W OW → ∀ a w, StG g W OW fn.ntmps S [] a w → c.wp g.P (fun e a' w' => e = .ret ∧ ∃ S' B', StG g W OW fn.ntmps S' B' a' w' ∧ tget (mkT S') t = v) a w) : FnOk g f args [] { val := v } := by
  intro w0 O hG ρ Φ vs w hd x hr0
  refine .inl ⟨fn, hf, (hU w0 O hG).names f fn c hf hb, by rw [hb]; rfl, ?_⟩
  have r := entry_rel hn hl hd x
  rw [hS] at r
  refine calls_of_wp hf hb (wp_mono (h w0 O hG _ w ⟨w0, O, ρ, Φ, hG, Grow.refl _ _, r, fun j _ => hr0 j (Nat.zero_le _)⟩) fun e' a' w' ⟨he, S', B', ⟨w1, O1, ρ1, Φ1, _, hgr, q3, _⟩, ht⟩ => ?_)
  subst he
  obtain ⟨u, r1, r2⟩ := results_den (P := g.P) (fn := fn) (vs := [tget (mkT S') t]) q3.heap q3.tmps (by rw [hr]; rfl)
  rw [ht] at r2
  refine ⟨q3.defers, u, r1, u, rfl, ρ, fun _ _ _ => False, hv _ _ _ _ _ _ u r2, fun j h hh => hh, fun j _ => hr0 j (Nat.zero_le _), ?_⟩
  exact ⟨hgr.back _ q3.heap.frame, fun id bd hb => by simp [afterH, newH, newAll, updAll, BH] at hb, fun _ _ _ _ _ h => absurd (by simp [afterH, newH, newAll, updAll, BH]) h, fun _ _ _ h => absurd (by simp [afterH, newH, newAll, updAll, BH]) h⟩
theorem sbool_all {b : Bool} : ∀ (w0 : World) (O : Own) (ρ : Rho) (w1 : World) (O1 : Own) (ρ1 : Rho) (u : Value), DenV w0 O ρ (.sbool b) u → DenV w1 O1 ρ1 (.sbool b) u := fun _ _ _ _ _ _ _ h => h.imp (fun h => h) fun y => ⟨y.1, by simpa only [DenC] using y.2⟩
theorem bool_all {b : Bool} : ∀ (w0 : World) (O : Own) (ρ : Rho) (w1 : World) (O1 : Own) (ρ1 : Rho) (u : Value), DenV w0 O ρ (.bool b) u → DenV w1 O1 ρ1 (.bool b) u := fun _ _ _ _ _ _ _ h => h.imp (fun h => h) fun y => ⟨y.1, by simpa only [DenC] using y.2⟩
end
end Go.Vx

/- A call whose memory stands from then on: two lists that a function makes. -/
namespace Go.Vx
open Go

section
variable {g : Ctx}
/-- what a call of a function leaves that is walked in pieces -/
theorem callG {f : FuncId} {fn : Func} {c : Code} {args : List SV} {rs : List SV} {S0 : List (Nat × SV)} (hU : CtxU g) (hf : g.P.funcs[f]? = some fn) (hb : fn.body = some c) (hn : fn.ntmps < 65535) (hl : args.length ≤ fn.ntmps) (hS : entryT args 0 = mkT S0)
    {q : Nat} (hcallee : ∀ W OW, q ≤ W.heap.size → (∀ b o, ¬ OW.own b o) → GlobOk g W OW → ∀ a w, StG g W OW fn.ntmps S0 [] a w → c.wp g.P (fun e a' w' => e = .ret ∧ ∃ S' B', StG g W OW fn.ntmps S' B' a' w' ∧ retV g.P (BH B') (mkT S') fn.results.toList = some rs) a w)
    (cargs : ∀ w0 O ρ w1 O1 ρ1 vs, (∀ b o v, O.mem b o v → O1.mem b o v) → DenT w0 O ρ args vs → DenT w1 O1 ρ1 args vs)
    (crs : ∀ w0 O ρ w1 O1 ρ1 v, (∀ b o v, O.mem b o v → O1.mem b o v) → DenV w0 O ρ (retSV rs) v → DenV w1 O1 ρ1 (retSV rs) v)
    {w0 : World} {O : Own} {ρ : Rho} {H : Nat → Option Body} {Φ : Nat → Foot} {w : World} {vs : List Value} (hq : q ≤ w.heap.size) (hG : GlobOk g w0 O) (x : RelH w0 O ρ H w Φ) (hd : DenT w0 O ρ args vs) :
    CallR g.P f vs.toArray w (fun u w' => ∃ O1, RelH w' O1 ρ H w' Φ ∧ Grow w0 O w' O1 ∧ GlobOk g w' O1 ∧ DenV w' O1 ρ (retSV rs) u) := by
  have x1 := rel_in x (ids := []) List.nodup_nil (fun id h => by simp at h)
  have hG1 : GlobOk g w (inO O Φ []) := glob_cong (O := O) rfl hG
  refine .inl ⟨fn, hf, (hU w0 O hG).names f fn c hf hb, by rw [hb]; rfl, ?_⟩
  have x2 : RelH w (inO O Φ []) (fun _ => none) (BH []) w (fun _ _ _ => False) := ⟨x1.frame, fun id bd h => by simp [BH] at h, fun id id' b o _ h => absurd (by simp [BH]) h, fun id b o h => absurd (by simp [BH]) h⟩
  have r := entry_rel hn hl (cargs w0 O ρ w (inO O Φ []) (fun _ => none) vs (fun _ _ _ h => h) hd) x2
  rw [hS] at r
  refine calls_of_wp hf hb (wp_mono (hcallee w (inO O Φ []) hq (fun b o h => by simp [inO] at h) hG1 _ w ⟨w, inO O Φ [], fun _ => none, _, hG1, Grow.refl _ _, r, fun _ _ => rfl⟩) fun e' a' w' ⟨he, S', B', ⟨w1, O1, ρ1, Φ1, hG2, hgr, q3, _⟩, hrs⟩ => ?_)
  subst he
  obtain ⟨u, r1, r2⟩ := results_den (P := g.P) (fn := fn) q3.heap q3.tmps hrs
  have hfr : Frame w (inO O Φ []) w' := hgr.back _ q3.heap.frame
  have x4 : RelH w (inO O Φ []) (fun _ => none) (fun _ => none) w' (fun _ _ _ => False) := ⟨hfr, fun id bd h => by simp at h, fun id id' b o _ h => absurd rfl h, fun id b o h => absurd rfl h⟩
  have x3 := rel_out x (ids := []) (fun id h => by simp at h) (src := fun _ => none) (back := fun _ => none) (ρ2 := fun _ => none) (ρ' := ρ) (H' := H) x4 (Ext.refl ρ) (fun _ _ _ h => by simp at h) (fun _ _ _ h => by simp at h) (fun _ _ _ h => by simp at h) (fun _ _ h => by simp at h) (fun _ _ h => by simp at h) (fun _ _ _ => rfl)
  have hF : outF (fun _ => none) Φ (fun _ _ _ => False) = Φ := rfl
  rw [hF] at x3
  have hold : ∀ b o v, O1.mem b o v → O.mem b o v ∨ w.heap.size ≤ b := fun b o v h => by
    rcases hgr.newer b o v h with h | h | ⟨id, h, _⟩
    · exact .inl h
    · exact .inr h
    · simp at h
  obtain ⟨y1, y2⟩ := x3.rebase (M := O1.mem) (H' := H) (fun _ _ h => h) (fun b o v h => q3.heap.memCell h) (fun b o v h => hgr.mem b o v h) (fun b o v h => by
    rcases hold b o v h with h | h
    · exact .inl h
    · exact .inr (.inl (Nat.le_trans x.frame.size h))) (fun id b o v hi h1 h => by
    rcases hold b o v h with h | h
    · exact x.memFar hi h1 h
    · exact absurd (x.mine id b o hi h1).1 (by omega))
  exact ⟨q3.defers, u, r1, u, rfl, reO O1.mem O.lent H Φ, y1, y2, glob_sub (O := O1) (fun _ _ _ h => h) hG2, crs w1 O1 ρ1 w' (reO O1.mem O.lent H Φ) ρ u (fun _ _ _ h => h) r2⟩

variable {P : Program} {ops : Array Oper} {Q : Exit → Act → World → Prop} {a : Act} {w : World}
theorem wpO {i : Nat} {rest : List Nat} {o : Oper} (ho : ops[i]? = some o) (hg : o.guard = none) (h : o.wp P a w (wpOps P ops Q rest) Q) : wpOps P ops Q (i :: rest) a w := by
  unfold wpOps
  rw [ho]
  simp only
  rw [if_pos (by unfold Region.wanted; rw [hg])]
  exact .inl h
/-- a step that makes a value out of values -/
theorem wpO_val {nT : Nat} {w0 : World} {O : Own} {ρ : Rho} {T : Nat → SV} {H : Nat → Option Body} {Φ : Nat → Foot} (x : RelA nT w0 O ρ T H Φ a w) {i : Nat} {rest : List Nat} {o : Oper} {d : Nat} {c : SV} (ho : ops[i]? = some o) (hg : o.guard = none) (hd : o.dst = some d) (hn : d < nT)
    (hr : ∃ u, (execOp a.eval o).run P w = .ok (.value u) w ∧ DenV w0 O ρ c u) (k : ∀ u, RelA nT w0 O ρ (putF T (some d) c) H Φ (a.put (some d) u) w → wpOps P ops Q rest (a.put (some d) u) w) : wpOps P ops Q (i :: rest) a w := by
  obtain ⟨u, h1, h2⟩ := hr
  refine wpO ho hg ?_
  unfold Oper.wp
  rw [h1, Oper.upon_value, hd]
  exact k u (x.put (Ext.refl ρ) h2 x.heap (by intro d' e; cases e; exact hn))
theorem exec_move {o : Oper} {t : Nat} (h : o.op = .move (.tmp t) ∨ o.op = .assign (.tmp t)) : (execOp a.eval o).run P w = .ok (.value (a.tmps.getD t undef)) w := by
  obtain ⟨dst, op, ty, pos, after, guard⟩ := o
  rcases h with h | h <;> (simp only at h; subst h; rfl)
theorem exec_extract {o : Oper} {t i : Nat} (h : o.op = .extract (.tmp t) i) {arr : Array Value} {u : Value} (ht : a.tmps.getD t undef = .tuple arr) (hu : arr[i]? = some u) : (execOp a.eval o).run P w = .ok (.value u) w := by
  obtain ⟨dst, op, ty, pos, after, guard⟩ := o
  simp only at h; subst h
  simp [execOp, Act.eval, ht, Instr.extract, hu]
end
theorem ro_sub {w0 : World} {O : Own} {ρ : Rho} {w1 : World} {O1 : Own} {ρ1 : Rho} (hO : ∀ b o v, O.mem b o v → O1.mem b o v) {sz n : Nat} {f : Nat → SV} {v : Value} (h : DenV w0 O ρ (.ro sz n f) v) : DenV w1 O1 ρ1 (.ro sz n f) v := by
  have h := denV_sub (w1 := w1) hO h
  rcases h with h | ⟨h1, h2⟩
  · simp at h
  · refine .inr ⟨h1, ?_⟩
    simp only [DenC] at h2 ⊢
    exact h2
theorem roT_sub {w0 : World} {O : Own} {ρ : Rho} {w1 : World} {O1 : Own} {ρ1 : Rho} (hO : ∀ b o v, O.mem b o v → O1.mem b o v) {sz n : Nat} {f : Nat → SV} {vs : List Value} (h : DenT w0 O ρ [.ro sz n f] vs) : DenT w1 O1 ρ1 [.ro sz n f] vs := by
  simp only [DenT] at h ⊢
  obtain ⟨v, r, rfl, h1, h2⟩ := h
  exact ⟨v, r, rfl, ro_sub hO h1, h2⟩
theorem ro2_sub {w0 : World} {O : Own} {ρ : Rho} {w1 : World} {O1 : Own} {ρ1 : Rho} (hO : ∀ b o v, O.mem b o v → O1.mem b o v) {sz n sz' n' : Nat} {f f' : Nat → SV} {v : Value} (h : DenV w0 O ρ (.tuple [.ro sz n f, .ro sz' n' f']) v) : DenV w1 O1 ρ1 (.tuple [.ro sz n f, .ro sz' n' f']) v := by
  rcases h with h | ⟨h1, h2⟩
  · simp at h
  · refine .inr ⟨h1, ?_⟩
    simp only [DenC, DenT] at h2 ⊢
    obtain ⟨arr, e1, v1, r1, e2, h3, v2, r2, e3, h4, h5⟩ := h2
    exact ⟨arr, e1, v1, r1, e2, ro_sub (w0 := w0) (ρ := ρ) (ρ1 := ρ1) hO h3, v2, r2, e3, ro_sub (w0 := w0) (ρ := ρ) (ρ1 := ρ1) hO h4, h5⟩

theorem putF_same (T : Nat → SV) (d : Nat) (v : SV) : putF T (some d) v d = v := by simp [putF]
theorem putF_ne (T : Nat → SV) {d t : Nat} (v : SV) (h : d ≠ t) : putF T (some d) v t = T t := by simp [putF, h]
/-- a call that hands back two lists -/
theorem StG.two {g : Ctx} {W : World} {OW : Own} {nT id : Nat} {S : List (Nat × SV)} {B : List Body} {a : Act} {w : World} {ops : Array Oper} {o0 o1 o2 o3 o4 o5 o6 : Oper} (hops : ops = #[o0, o1, o2, o3, o4, o5, o6]) {x t1 t2 t3 t4 t5 t6 t7 : Nat}
    (e0 : o0.op = .move (.tmp x)) (e2 : o2.op = .move (.tmp t2)) (e3 : o3.op = .extract (.tmp t3) 0) (e4 : o4.op = .extract (.tmp t3) 1) (e5 : o5.op = .assign (.tmp t4)) (e6 : o6.op = .assign (.tmp t5))
    (hg : o0.guard = none ∧ o1.guard = none ∧ o2.guard = none ∧ o3.guard = none ∧ o4.guard = none ∧ o5.guard = none ∧ o6.guard = none)
    (hd : o0.dst = some t1 ∧ o1.dst = some t2 ∧ o2.dst = some t3 ∧ o3.dst = some t4 ∧ o4.dst = some t5 ∧ o5.dst = some t6 ∧ o6.dst = some t7)
    (ht : t1 < nT ∧ t2 < nT ∧ t3 < nT ∧ t4 < nT ∧ t5 < nT ∧ t6 < nT ∧ t7 < nT) (hne : t4 ≠ t3 ∧ t5 ≠ t4 ∧ t6 ≠ t5)
    {f : FuncId} {fn : Func} {c : Code} {n n' : Nat} {sz sz' sz2 n2 : Nat} {F F0 F1 : Nat → SV} {S0 : List (Nat × SV)} (hU : CtxU g) (hf : g.P.funcs[f]? = some fn) (hb : fn.body = some c) (hn : fn.ntmps < 65535) (hl : 1 ≤ fn.ntmps) (hS : entryT [.ro sz2 n2 F] 0 = mkT S0)
    (hc : ∀ T : Nat → SV, T t1 = .ro sz2 n2 F → calleeV g T o1.op = some (f, [.ro sz2 n2 F])) (ho1 : ∀ y, y ∈ o1.op.operands → y = .tmp t1 ∨ ∃ k, y = .func k)
    {q : Nat} (hcallee : ∀ W OW, q ≤ W.heap.size → (∀ b o, ¬ OW.own b o) → GlobOk g W OW → ∀ a w, StG g W OW fn.ntmps S0 [] a w → c.wp g.P (fun e a' w' => e = .ret ∧ ∃ S' B', StG g W OW fn.ntmps S' B' a' w' ∧ retV g.P (BH B') (mkT S') fn.results.toList = some [.ro sz n F0, .ro sz' n' F1]) a w)
    (hq : q ≤ W.heap.size) (hx : tget (mkT S) x = .ro sz2 n2 F) (h : StG g W OW nT S B a w) {S' : List (Nat × SV)}
    (hS' : ∀ t, tget (mkT S') t = .any ∨ tget (mkT S') t = (if t = t7 then .ro sz' n' F1 else if t = t6 then .ro sz n F0 else if t = t5 ∨ t = t4 ∨ t = t3 ∨ t = t2 ∨ t = t1 then .any else tget (mkT S) t)) {Q : Exit → Act → World → Prop} (hQ : ∀ a' w', StG g W OW nT S' B a' w' → Q .normal a' w') : (Code.region id ops false).wp g.P Q a w := by
  subst hops
  obtain ⟨g0, g1, g2, g3, g4, g5, g6⟩ := hg
  obtain ⟨d0, d1, d2, d3, d4, d5, d6⟩ := hd
  obtain ⟨l1, l2, l3, l4, l5, l6, l7⟩ := ht
  obtain ⟨w0, O, ρ, Φ, hG, hgr, r, hr⟩ := h
  refine wp_region ?_
  show wpOps g.P _ Q [0, 1, 2, 3, 4, 5, 6] a w
  refine wpO_val r (o := o0) (d := t1) (c := .ro sz2 n2 F) rfl g0 d0 l1 ⟨_, exec_move (.inl e0), by have := r.tmps x; rw [hx] at this; exact this⟩ fun u0 r => ?_
  refine wpO (o := o1) rfl g1 ?_
  unfold Oper.wp
  obtain ⟨vs, hvs, hex⟩ := calleeV_spec (a := a.put (some t1) u0) (w0 := w0) (O := O) (ρ := ρ) (hc (putF (tget (mkT S)) (some t1) (.ro sz2 n2 F)) (putF_same _ _ _)) (fun y hy => by
    rcases ho1 y hy with rfl | ⟨k, rfl⟩
    · exact r.tmps t1
    · exact den_cell rfl rfl (by simp only [DenC, opnd, Act.eval]; exact ⟨#[], #[], rfl, by simp [DenT], by simp [DenT]⟩))
  rw [hex]
  refine CallR.upon (callG (args := [.ro sz2 n2 F]) hU hf hb hn hl hS hcallee (fun _ _ _ _ _ _ _ hO h => roT_sub hO h) (fun _ _ _ _ _ _ _ hO h => ro2_sub hO h) (Nat.le_trans hq (Nat.le_trans hgr.size r.heap.frame.size)) hG r.heap hvs) fun v w' ⟨O1, y1, y2, y3, y4⟩ => ?_
  rw [d1]
  have r1 : RelA nT w' O1 ρ (putF (putF (tget (mkT S)) (some t1) (.ro sz2 n2 F)) (some t2) (.tuple [.ro sz n F0, .ro sz' n' F1])) (BH B) Φ ((a.put (some t1) u0).put (some t2) v) w' := by
    have r' : RelA nT w' O1 ρ (putF (tget (mkT S)) (some t1) (.ro sz2 n2 F)) (BH B) Φ (a.put (some t1) u0) w' := ⟨r.size, r.defers, fun t => denV_sub y2.mem (r.tmps t), y1⟩
    exact r'.put (Ext.refl ρ) y4 y1 (by intro d' e; cases e; exact l2)
  refine wpO_val r1 (o := o2) (d := t3) (c := .tuple [.ro sz n F0, .ro sz' n' F1]) rfl g2 d2 l3 ⟨_, exec_move (.inl e2), by have := r1.tmps t2; rw [putF_same] at this; exact this⟩ fun u2 r2 => ?_
  have htup : ∀ {w0 : World} {O : Own} {ρ : Rho} {v : Value}, DenV w0 O ρ (.tuple [.ro sz n F0, .ro sz' n' F1]) v → ∃ arr u v', v = .tuple arr ∧ arr[0]? = some u ∧ arr[1]? = some v' ∧ DenV w0 O ρ (.ro sz n F0) u ∧ DenV w0 O ρ (.ro sz' n' F1) v' := fun {w0 O ρ v} h => by
    obtain ⟨h, _⟩ := denV_cell h (by simp) rfl
    simp only [DenC, DenT] at h
    obtain ⟨arr, e, v1, r1, e1, h1, v2, r2, e2, h2, e3⟩ := h
    simp at e; subst e; subst e3; subst e2
    refine ⟨arr, v1, v2, rfl, ?_, ?_, h1, h2⟩
    · rw [← Array.getElem?_toList, e1]; rfl
    · rw [← Array.getElem?_toList, e1]; rfl
  obtain ⟨arr, q0, q1, p1, p2, p3, p4, p5⟩ := htup (by have := r2.tmps t3; rw [putF_same] at this; exact this)
  refine wpO_val r2 (o := o3) (d := t4) (c := .ro sz n F0) rfl g3 d3 l4 ⟨q0, exec_extract e3 p1 p2, p4⟩ fun u3 r3 => ?_
  obtain ⟨arr', q0', q1', p1', p2', p3', p4', p5'⟩ := htup (by have := r3.tmps t3; rw [putF_ne _ _ hne.1, putF_same] at this; exact this)
  refine wpO_val r3 (o := o4) (d := t5) (c := .ro sz' n' F1) rfl g4 d4 l5 ⟨q1', exec_extract e4 p1' p3', p5'⟩ fun u4 r4 => ?_
  refine wpO_val r4 (o := o5) (d := t6) (c := .ro sz n F0) rfl g5 d5 l6 ⟨_, exec_move (.inr e5), by have := r4.tmps t4; rw [putF_ne _ _ hne.2.1, putF_same] at this; exact this⟩ fun u5 r5 => ?_
  refine wpO_val r5 (o := o6) (d := t7) (c := .ro sz' n' F1) rfl g6 d6 l7 ⟨_, exec_move (.inr e6), by have := r5.tmps t5; rw [putF_ne _ _ hne.2.2, putF_same] at this; exact this⟩ fun u6 r6 => ?_
  refine hQ _ _ ⟨w', O1, ρ, Φ, y3, hgr.trans y2, r6.sub fun t => ?_, hr⟩
  rcases hS' t with e | e
  · exact .inr e
  · rw [e]
    by_cases h7 : t = t7
    · subst h7; left; rw [if_pos rfl, putF_same]
    · rw [if_neg h7, putF_ne _ _ (Ne.symm h7)]
      by_cases h6 : t = t6
      · subst h6; left; rw [if_pos rfl, putF_same]
      · rw [if_neg h6, putF_ne _ _ (Ne.symm h6)]
        by_cases h5 : t = t5 ∨ t = t4 ∨ t = t3 ∨ t = t2 ∨ t = t1
        · right; rw [if_pos h5]
        · left
          rw [if_neg h5]
          simp only [not_or] at h5
          rw [putF_ne _ _ (Ne.symm h5.1), putF_ne _ _ (Ne.symm h5.2.1), putF_ne _ _ (Ne.symm h5.2.2.1), putF_ne _ _ (Ne.symm h5.2.2.2.1), putF_ne _ _ (Ne.symm h5.2.2.2.2)]
end Go.Vx

/- One cell of memory that was given up is written over: what stands then. -/
namespace Go.Vx
open Go

section
variable {W w0 w : World} {OW O : Own} {ρ : Rho} {H : Nat → Option Body} {Φ : Nat → Foot}

theorem poke1 (x : RelH w0 O ρ H w Φ) (hgr : Grow W OW w0 O) (hcl : ∀ id bd, H id = some bd → cleanB bd = true) {b o : Nat} {v0 : Value} (u : Value) (hm : O.mem b o v0) (hb : W.heap.size ≤ b) :
    ∃ O1, RelH (w.setCell (adr b o) u) O1 ρ H (w.setCell (adr b o) u) Φ ∧ Grow W OW (w.setCell (adr b o) u) O1 ∧ (∀ b' o' v, O.mem b' o' v → ¬ (b' = b ∧ o' = o) → O1.mem b' o' v) ∧ O1.mem b o u := by
  have F1 := hgr.back w x.frame
  have hc := x.memCell hm
  have hsz : (w.setCell (adr b o) u).heap.size = w.heap.size := by simp
  let O2 : Own := ⟨fun b' o' => (∃ id, H id ≠ none ∧ Φ id b' o') ∨ (b' = b ∧ o' = o), fun b' o' v => O.mem b' o' v ∧ ¬ (b' = b ∧ o' = o), O.lent⟩
  have x1 : RelH w O2 ρ H w Φ := ⟨Frame.refl w O2 (fun b' o' _ h => by
    rcases h with ⟨id, h1, h2⟩ | ⟨rfl, rfl⟩
    · exact x.quiet h1 h2
    · exact F1.calm _ hb) (fun b' o' v h => ⟨x.memCell h.1, fun hh => by
    rcases hh with ⟨id, h1, h2⟩ | hh
    · exact x.memFar h1 h2 h.1
    · exact h.2 hh⟩), fun id bd hb => by
      obtain ⟨hd, q1, q2⟩ := x.holds id bd hb
      exact ⟨hd, q1, holds_clean (hcl id bd hb) q2⟩, x.disj, fun id b' o' hn h1 => ⟨(x.mine id b' o' hn h1).1, fun _ => .inl ⟨id, hn, h1⟩⟩⟩
  have g1 : Grow W OW w O2 := ⟨fun b' o' v h => ⟨hgr.mem _ _ _ h, fun hh => by
      have h1 := World.block_lt_of_cell? W (adr b' o') (F1.mem _ _ _ h).1
      have h1 : b' < W.heap.size := h1
      omega⟩, fun w' h => F1.comp h fun b' o' hb' ho => by
      rcases ho with ⟨id, h1, h2⟩ | ⟨rfl, _⟩
      · exact hgr.own _ _ hb' ((x.mine id b' o' h1 h2).2 (Nat.lt_of_lt_of_le hb' hgr.size))
      · omega, fun b' o' v h => hgr.newer _ _ _ h.1, fun b' o' hb' ho => by
      rcases ho with ⟨id, h1, h2⟩ | ⟨rfl, _⟩
      · exact hgr.own _ _ hb' ((x.mine id b' o' h1 h2).2 (Nat.lt_of_lt_of_le hb' hgr.size))
      · omega, F1.size⟩
  have hne : ∀ id b' o', H id ≠ none → Φ id b' o' → ¬ (b' = b ∧ o' = o) := fun id b' o' h1 h2 hh => by
    obtain ⟨rfl, rfl⟩ := hh
    exact x.memFar h1 h2 hm
  have x2 : RelH w O2 ρ H (w.setCell (adr b o) u) Φ := x1.move (x1.frame.setCell u fun _ => .inr ⟨rfl, rfl⟩) (by rw [hsz]; exact Nat.le_refl _) fun id hn b' o' hF =>
    ⟨World.cell?_setCell_other _ _ _ _ (by rw [Ne, adr_inj]; exact fun hh => hne id b' o' hn hF ⟨hh.1.symm, hh.2.symm⟩), by rw [World.frozen?_setCell]⟩
  obtain ⟨y1, y2⟩ := x2.rebase (M := fun b' o' v => (O.mem b' o' v ∧ ¬ (b' = b ∧ o' = o)) ∨ (b' = b ∧ o' = o ∧ v = u)) (H' := H) (fun _ _ h => h) (fun b' o' v h => by
      rcases h with h | ⟨rfl, rfl, rfl⟩
      · rw [World.cell?_setCell_other _ _ _ _ (by rw [Ne, adr_inj]; exact fun hh => h.2 ⟨hh.1.symm, hh.2.symm⟩)]
        exact x.memCell h.1
      · exact World.cell?_setCell_same _ _ _ hc) (fun b' o' v h => .inl h) (fun b' o' v h => by
      rcases h with h | ⟨rfl, rfl, rfl⟩
      · exact .inl h
      · exact .inr (.inr (.inr ⟨rfl, rfl⟩))) (fun id b' o' v hi h1 h => by
      rcases h with h | ⟨rfl, rfl, rfl⟩
      · exact x.memFar hi h1 h.1
      · exact hne id _ _ hi h1 ⟨rfl, rfl⟩)
  exact ⟨_, y1, g1.trans y2, fun b' o' v h h2 => .inl ⟨h, h2⟩, .inr ⟨rfl, rfl, rfl⟩⟩

/-- a list of lists, one number of one of which was written over -/
theorem den_poke {w1 : World} {O1 : Own} {ρ1 : Rho} {q n : Nat} {d : Nat → List Int} {v : Value} {b o : Nat} {k : IntKind} {nn old : Int} (x : RelH w0 O ρ H w Φ) (h : DenV w0 O ρ (.ro 1 n (fun i => .rob q k (d i))) v)
    (hm : O.mem b o (.int k old)) (hsub : ∀ b' o' v, O.mem b' o' v → ¬ (b' = b ∧ o' = o) → O1.mem b' o' v) (hnew : O1.mem b o (.int k nn)) (hf : Fits k nn) :
    ∃ d' : Nat → List Int, (∀ i, (d' i).length = (d i).length) ∧ (∀ i, i < n → ∀ x ∈ d' i, Fits k x) ∧ DenV w1 O1 ρ1 (.ro 1 n (fun i => .roi k (d' i))) v := by
  obtain ⟨h1, h2⟩ := denV_cell h (by simp) rfl
  simp only [DenC] at h1
  obtain ⟨a, cap, e1, e2, e3⟩ := h1
  by_cases hn : 0 < n
  · obtain ⟨b0, o0, rfl, g2⟩ := e3 hn
    have key : ∀ i, ∃ l : List Int, l.length = (d i).length ∧ (i < n → ∃ us : List Value, us.length = 1 ∧ MemAt w1 O1 b0 (o0 + i * 1) us ∧ DenC w1 O1 (fun _ => none) (.roi k l) us) := by
      intro i
      by_cases hi : i < n
      · obtain ⟨us, u1, u2, u3⟩ := g2 i hi
        obtain ⟨a', cap', rfl, f2, f3, f4⟩ := u3
        have hfar : ∀ (j : Nat) v, ([Value.slice a' (d i).length cap'] : List Value)[j]? = some v → O1.mem b0 (o0 + i * 1 + j) v := fun j v hj => by
          refine hsub _ _ _ (u2 j v hj) fun ⟨ha, hb⟩ => ?_
          have m1 := x.memCell (u2 j v hj)
          have m2 := x.memCell hm
          rw [ha, hb, m2] at m1
          match j, hj with
          | 0, hj => simp at hj; subst hj; simp at m1
        by_cases h0 : 0 < (d i).length
        · obtain ⟨bi, oi, rfl, f5, f6⟩ := f3 h0
          refine ⟨(List.range (d i).length).map fun j => if bi = b ∧ oi + j = o then nn else (d i).getD j 0, by simp, fun _ => ⟨_, u1, hfar, ?_⟩⟩
          simp only [DenC]
          refine ⟨some (adr bi oi), cap', by simp, by simpa using f2, fun _ => ⟨bi, oi, rfl, fun j v hj => ?_⟩, fun m hm' => ?_⟩
          · rw [List.getElem?_map, List.getElem?_map] at hj
            rcases Nat.lt_or_ge j (d i).length with hjl | hjl
            · rw [List.getElem?_range hjl] at hj
              simp only [Option.map_some, Option.some.injEq] at hj
              by_cases hc : bi = b ∧ oi + j = o
              · rw [if_pos hc] at hj
                obtain ⟨rfl, rfl⟩ := hc
                subst hj
                exact hnew
              · rw [if_neg hc] at hj
                refine hsub _ _ _ (f6 j v ?_) hc
                rw [List.getElem?_map, List.getElem?_eq_getElem hjl, Option.map_some, ← hj]
                congr 2
                rw [List.getD_eq_getElem?_getD, List.getElem?_eq_getElem hjl, Option.getD_some]
            · rw [List.getElem?_eq_none (by simpa using hjl)] at hj
              simp at hj
          · simp only [List.mem_map, List.mem_range] at hm'
            obtain ⟨j, hj, rfl⟩ := hm'
            by_cases hc : bi = b ∧ oi + j = o
            · rw [if_pos hc]; exact hf
            · rw [if_neg hc]
              refine f4 _ ?_
              rw [List.getD_eq_getElem?_getD, List.getElem?_eq_getElem hj, Option.getD_some]
              exact List.getElem_mem hj
        · refine ⟨d i, rfl, fun _ => ⟨_, u1, hfar, ?_⟩⟩
          simp only [DenC]
          exact ⟨a', cap', rfl, f2, fun h => absurd h h0, f4⟩
      · exact ⟨d i, rfl, fun h => absurd h hi⟩
    refine ⟨fun i => Classical.choose (key i), fun i => (Classical.choose_spec (key i)).1, fun i hi => ?_, den_cell rfl h2 ?_⟩
    · obtain ⟨us, _, _, h5⟩ := (Classical.choose_spec (key i)).2 hi
      simp only [DenC] at h5
      obtain ⟨_, _, _, _, _, h6⟩ := h5
      exact h6
    simp only [DenC]
    refine ⟨_, cap, e1, e2, fun _ => ⟨b0, o0, rfl, fun i hi => ?_⟩⟩
    have := (Classical.choose_spec (key i)).2 hi
    simp only [DenC] at this
    exact this
  · refine ⟨d, fun _ => rfl, fun i hi => absurd (Nat.lt_of_le_of_lt (Nat.zero_le _) hi) hn, den_cell rfl h2 ?_⟩
    simp only [DenC]
    exact ⟨a, cap, e1, e2, fun h => absurd h hn⟩

/-! ### accounts of lists, of lists that are known to be new memory too -/
def wk1 : SV → SV
  | .rob _ k l => .roi k l
  | c => c
def wkS : SV → SV
  | .ro sz n f => .ro sz n (fun i => wk1 (f i))
  | c => c
def roW (F : SumF) : SumF := fun args B => F (args.map wkS) B
theorem wk1_imp (c : SV) {us : List Value} (h : DenC w0 O ρ c us) : DenC w0 O ρ (wk1 c) us := by
  cases c with
  | rob q k l => exact rob_roi h
  | _ => exact h
theorem wkS_imp (c : SV) : DenImp c (wkS c) := by
  cases c with
  | ro sz n f =>
    intro w0 O ρ v h
    obtain ⟨h1, h2⟩ := denV_cell h (by simp) rfl
    refine den_cell rfl h2 ?_
    simp only [wkS, DenC] at h1 ⊢
    obtain ⟨a, cap, e1, e2, e3⟩ := h1
    exact ⟨a, cap, e1, e2, fun h0 => let ⟨b, o, g1, g2⟩ := e3 h0; ⟨b, o, g1, fun i hi => let ⟨us, u1, u2, u3⟩ := g2 i hi; ⟨us, u1, u2, wk1_imp _ u3⟩⟩⟩
  | _ => exact DenImp.refl _
theorem wkL_imp : ∀ l : List SV, ImpL l (l.map wkS)
  | [] => trivial
  | c :: cs => ⟨wkS_imp c, wkL_imp cs⟩
theorem acc_roW {g : Ctx} {f : FuncId} {F : SumF} (h : Acc g f F) : Acc g f (roW F) := fun args B out ho hC => FnOk.imp (args' := args.map wkS) (h _ B out ho hC) (wkL_imp args)

/-! ### a drawn region that writes at its end -/
variable {P : Program} {ops : Array Oper} {a : Act}
theorem still_val {Q : Act → Prop} {o : Oper} {rest : List Oper} {u : Value} (hg : o.guard = none) (hr : (execOp a.eval o).run P w = .ok (.value u) w) (h : wpStill P ops w Q rest (a.put o.dst u)) : wpStill P ops w Q (o :: rest) a := by
  unfold wpStill
  rw [if_pos (by unfold Region.wanted; rw [hg])]
  unfold Oper.still
  rw [hr]
  simp only [Oper.stillUpon]
  exact ⟨trivial, h⟩
theorem exec_index {o : Oper} {t e : TypeId} {x : Nat} {i : Operand} (h : o.op = .indexAddr t (.tmp x) i) (hu : P.underlying t = some (.slice e)) (he : knownT P e = true) {b base len cap : Nat} {k : IntKind} {ii : Int} (h1 : a.tmps.getD x undef = .slice (some (adr b base)) len cap) (h2 : a.eval i = .int k ii) (hi : 0 ≤ ii ∧ ii < len) :
    (execOp a.eval o).run P w = .ok (.value (.pointer (some (adr b (base + ii.toNat * P.cellsOf e))))) w := by
  obtain ⟨dst, op, ty, pos, after, guard⟩ := o
  simp only at h; subst h
  simp only [execOp, Sem.run_bind]
  have : a.eval (.tmp x) = .slice (some (adr b base)) len cap := h1
  rw [this, h2, run_indexSl hu he hi]
  rfl
theorem exec_load {o : Oper} {t : TypeId} {x : Nat} (h : o.op = .load t (.tmp x)) {dd : TypeDesc} (hu : P.underlying t = some dd) (hagg : isAggT P t = false) (h1c : P.cellsOf t = 1) {b base : Nat} {v : Value} (h1 : a.tmps.getD x undef = .pointer (some (adr b base))) (hc : w.cell? (adr b base) = some v) :
    (execOp a.eval o).run P w = .ok (.value v) w := by
  obtain ⟨dst, op, ty, pos, after, guard⟩ := o
  simp only at h; subst h
  simp only [execOp, Sem.run_bind]
  have : a.eval (.tmp x) = .pointer (some (adr b base)) := h1
  rw [this, loadAt_ptr, (run_loadVar t hu (vs := [v]) (by simpa using h1c.symm) (fun j u hj => by
    match j, hj with
    | 0, hj => simp at hj; subst hj; exact hc)).2 hagg v rfl]
  rfl
theorem exec_xor {o : Oper} {t t2 : TypeId} {x : Nat} {y : Operand} (h : o.op = .binOp .xor t (.tmp x) y t2) {k : IntKind} {m n : Int} (h1 : a.tmps.getD x undef = .int k m) (h2 : a.eval y = .int k n) :
    (execOp a.eval o).run P w = .ok (.value (.int k (k.wrap (((BitVec.ofInt k.bits m).toNat ^^^ (BitVec.ofInt k.bits n).toNat : Nat) : Int)))) w := by
  obtain ⟨dst, op, ty, pos, after, guard⟩ := o
  simp only at h; subst h
  have e : a.eval (.tmp x) = .int k m := h1
  simp only [execOp, Sem.run_bind, e, h2, eqGuard_num, run_xor, Result.andThen_ok]
  rfl
theorem exec_store {o : Oper} {t : TypeId} {x y : Nat} (h : o.op = .store t (.tmp x) (.tmp y)) {dd : TypeDesc} (hu : P.underlying t = some dd) (h1c : P.cellsOf t = 1) {b base : Nat} {k : IntKind} {n : Int} {v : Value} (h1 : a.tmps.getD x undef = .pointer (some (adr b base)))
    (h2 : a.tmps.getD y undef = .int k n) (hc : w.cell? (adr b base) = some v) (hf : w.frozen? (adr b base) = false) :
    (execOp a.eval o).run P w = .ok .skip (w.setCell (adr b base) (.int k n)) := by
  obtain ⟨dst, op, ty, pos, after, guard⟩ := o
  simp only at h; subst h
  have e1 : a.eval (.tmp x) = .pointer (some (adr b base)) := h1
  have e2 : a.eval (.tmp y) = .int k n := h2
  obtain ⟨i, hi⟩ := under_info hu
  have hsz : (Value.int k n).cells.size = P.cellsOf t := by rw [h1c]; rfl
  have hst : (storeCells (adr b base) [Value.int k n]).run P w = .ok () (w.setCell (adr b base) (.int k n)) := by
    simp only [storeCells, Sem.run_bind, adr_add, Nat.add_zero]
    rw [run_store P w _ _ _ (by rfl), hc]
    simp only [hf, Bool.false_eq_true, if_false, Result.andThen_ok]
    rfl
  have : (Instr.storeAt t (.pointer (some (adr b base))) (.int k n)).run P w = .ok () (w.setCell (adr b base) (.int k n)) := by
    simp only [Instr.storeAt, Instr.sureAddr, storeVar, Sem.run_bind, Sem.run_pure, Result.andThen_ok, run_sizeOf t hi, hsz, ne_eq, not_true_eq_false, if_false]
    exact hst
  simp only [execOp, Sem.run_bind, e1, e2, this, Result.andThen_ok]
  rfl
theorem still_raw {nT : Nat} {T : Nat → SV} {Q : Act → Prop} {o : Oper} {rest : List Oper} {u : Value} {d : Nat} (r : RelA nT w0 O ρ T H Φ a w) (hg : o.guard = none) (hd : o.dst = some d) (hn : d < nT) (hv : isAggV u = false)
    (hr : (execOp a.eval o).run P w = .ok (.value u) w) (k : ∀ a', RelA nT w0 O ρ (putF T (some d) (.raw u)) H Φ a' w → wpStill P ops w Q rest a') : wpStill P ops w Q (o :: rest) a := by
  refine still_val hg hr ?_
  rw [hd]
  exact k _ (r.put (Ext.refl ρ) (den_cell rfl hv (by simp only [DenC]; exact ⟨trivial, hv⟩)) r.heap (by intro d' e; cases e; exact hn))
theorem raw_at {nT : Nat} {T : Nat → SV} (r : RelA nT w0 O ρ T H Φ a w) {t : Nat} {u : Value} (h : T t = .raw u) : a.tmps.getD t undef = u := by
  have := r.tmps t
  rw [h] at this
  exact denV_raw this
end
end Go.Vx

/- Rows that are lent: what stands in them is read as constant memory, while more is appended; behind it they are one's own again. -/
namespace Go.Vx
open Go

/-- nothing in it looks at constant memory -/
def freeC : SV → Bool
  | .bool _ | .sbool _ | .lit .. | .int .. | .raw _ | .ptr .. | .sptr .. | .sl .. | .own _ => true
  | .func _ first cap => (first.all fun c => match c with | .ptr .. | .own _ | .int .. | .lit .. => true | _ => false) && (cap.all fun c => match c with | .ptr .. | .own _ | .int .. | .lit .. => true | _ => false)
  | _ => false
def freeB : Body → Bool
  | .cells cs => cs.all freeC
  | .lists .. => false
  | _ => true
section
variable {w0 w1 : World} {O O1 : Own} {ρ : Rho} {w : World}
theorem denT_small : ∀ {cs : List SV} {vs : List Value}, (cs.all fun c => match c with | .ptr .. | .own _ | .int .. | .lit .. => true | _ => false) = true → DenT w0 O ρ cs vs → DenT w1 O1 ρ cs vs
  | [], vs, _, h => by simpa [DenT] using h
  | c :: cs, vs, hc, h => by
    simp only [List.all_cons, Bool.and_eq_true] at hc
    simp only [DenT] at h ⊢
    obtain ⟨v, r, h1, h2, h3⟩ := h
    refine ⟨v, r, h1, h2.imp id fun y => ⟨y.1, ?_⟩, denT_small hc.2 h3⟩
    obtain ⟨_, y⟩ := y
    cases c <;> simp at hc <;> simpa only [DenC] using y
theorem denC_free {c : SV} {vs : List Value} (h : freeC c = true) (x : DenC w0 O ρ c vs) : DenC w1 O1 ρ c vs := by
  cases c <;> simp only [freeC] at h <;> first | (simp at h; done) | (simpa only [DenC] using x; done) | skip
  case func f first cap =>
    simp only [Bool.and_eq_true] at h
    simp only [DenC] at x ⊢
    obtain ⟨a, c, h1, h2, h3⟩ := x
    exact ⟨a, c, h1, denT_small h.1 h2, denT_small h.2 h3⟩
theorem denV_free {c : SV} {v : Value} (h : freeC c = true) (x : DenV w0 O ρ c v) : DenV w1 O1 ρ c v := x.imp id fun y => ⟨y.1, denC_free h y.2⟩
theorem cellsAt_free {cs : List SV} (h : ∀ c ∈ cs, freeC c = true) {b base : Nat} (x : CellsAt w0 O ρ w b base cs) : CellsAt w1 O1 ρ w b base cs := fun j c hc =>
  let ⟨v, g1, g2, g3⟩ := x j c hc
  ⟨v, g1, denC_free (h c (List.mem_of_getElem? hc)) g2, g3⟩
theorem holds_free {bd : Body} (h : freeB bd = true) (hng : ∀ ks l, bd ≠ .grow ks l) {hd : Hd} {F : Foot} (x : Holds w0 O ρ w bd hd F) : Holds w1 O1 ρ w bd hd F := by
  cases bd with
  | cells cs =>
    cases hd with
    | «at» b base => exact ⟨x.1, x.2.1, cellsAt_free (List.all_eq_true.1 h) x.2.2⟩
    | sl a b c => exact x.elim
  | lists q k l => simp [freeB] at h
  | grow ks l => exact absurd rfl (hng ks l)
  | _ => exact holds_clean rfl x
end

section
variable {w0 w : World} {O : Own} {ρ : Rho} {H : Nat → Option Body} {Φ : Nat → Foot}
theorem holds_allN {w1 : World} {O1 : Own} (hO : ∀ b o v, O.mem b o v → O1.mem b o v) {bd : Body} (hng : ∀ ks l, bd ≠ .grow ks l) {hd : Hd} {F : Foot} (x : Holds w0 O ρ w bd hd F) : Holds w1 O1 ρ w bd hd F := by
  have h : ∀ c vs, DenC w0 O ρ c vs → DenC w1 O1 ρ c vs := fun c vs h => denC_sub hO ρ c vs h
  cases bd with
  | log l =>
    cases hd with
    | sl a b c => exact x
    | «at» b base =>
      obtain ⟨loc, len, cap, F1, h1, h2, h3, h4, h5, h6, h7⟩ := x
      exact ⟨loc, len, cap, F1, h1, h2, h3, h4, h5, ownAt_all h h6, h7⟩
  | cells cs =>
    cases hd with
    | «at» b base => exact ⟨x.1, x.2.1, cellsAt_all h x.2.2⟩
    | sl a b c => exact x.elim
  | grow ks l => exact absurd rfl (hng ks l)
  | ints k l =>
    cases hd with
    | «at» b base => exact ⟨x.1, x.2.1, cellsAt_all h x.2.2⟩
    | sl a b c => exact ownAt_all h x
  | lists q k l =>
    cases hd with
    | «at» b base => exact ⟨x.1, x.2.1, cellsAt_all h x.2.2⟩
    | sl a b c => exact ownAt_all h x
  | rows ks l =>
    cases hd with
    | «at» b base => exact ⟨x.1, x.2.1, cellsAt_all h x.2.2⟩
    | sl a b c => exact ownAt_all h x
/-- the first rows of a chunk are lent -/
def lentF (ρ : Rho) (k n : Nat) : Foot := fun b o => ∃ loc len cap, ρ k = some (.sl loc len cap) ∧ preF loc n b o
theorem RelH.lend (x : RelH w0 O ρ H w Φ) {k : Nat} {ks : List IntKind} {l : List (List Int)} (hk : H k = some (.rows ks l)) {loc : Option (Nat × Nat)} {len cap : Nat} (hr : ρ k = some (.sl loc len cap)) (hng : ∀ id bd, H id = some bd → ∀ ks l, bd ≠ .grow ks l) :
    ∃ O1, RelH w O1 ρ (upH H k (some (.grow ks l))) w (upF Φ k fun b o => Φ k b o ∧ ¬ preF loc (l.length * ks.length) b o) ∧ Grow w0 O w O1 ∧ (∀ b o v, preF loc (l.length * ks.length) b o → w.cell? (adr b o) = some v → O1.mem b o v) ∧
      (∀ b o, O1.lent b o → ∃ id, H id ≠ none ∧ Φ id b o) := by
  have how := (own_at x hk hr).2
  obtain ⟨g1, g2, g3, g4⟩ := how
  have hpk : ∀ b o, preF loc (l.length * ks.length) b o → Φ k b o := fun b o ⟨base, e1, e2, e3⟩ => by
    subst e1
    simp only at g4
    simp only [ecount] at g1
    have := Nat.mul_le_mul_right ks.length g2
    rw [g1] at this
    exact (g4.1 b o).2 ⟨rfl, e2, by simp only [esz]; omega⟩
  have hkn : H k ≠ none := by rw [hk]; simp
  let Φ1 : Nat → Foot := upF Φ k fun b o => Φ k b o ∧ ¬ preF loc (l.length * ks.length) b o
  have hsub : ∀ id b o, Φ1 id b o → Φ id b o := fun id b o h => by
    by_cases e : id = k
    · subst e; simp only [Φ1, upF, if_pos] at h; exact h.1
    · simpa only [Φ1, upF, if_neg e] using h
  have hnk : ∀ id, upH H k (some (Body.grow ks l)) id ≠ none → H id ≠ none := fun id h => by
    by_cases e : id = k
    · subst e; exact hkn
    · simpa only [upH, if_neg e] using h
  let O1 : Own := ⟨fun b o => ∃ id, H id ≠ none ∧ Φ1 id b o, fun b o v => O.mem b o v ∨ (preF loc (l.length * ks.length) b o ∧ w.cell? (adr b o) = some v), preF loc (l.length * ks.length)⟩
  have hfar : ∀ id b o, H id ≠ none → Φ1 id b o → preF loc (l.length * ks.length) b o → False := fun id b o h1 h2 h3 => by
    by_cases e : id = k
    · subst e; simp only [Φ1, upF, if_pos] at h2; exact h2.2 h3
    · exact x.disj id k b o e h1 hkn (hsub id b o h2) (hpk b o h3)
  have hframe : Frame w O1 w := Frame.refl w O1 (fun b o _ ⟨id, h1, h2⟩ => x.quiet h1 (hsub id b o h2)) fun b o v h => by
    rcases h with h | ⟨h1, h2⟩
    · exact ⟨x.memCell h, fun ⟨id, q1, q2⟩ => x.memFar q1 (hsub id b o q2) h⟩
    · exact ⟨h2, fun ⟨id, q1, q2⟩ => hfar id b o q1 q2 h1⟩
  refine ⟨O1, ⟨hframe, fun id bd hb => ?_, fun id id' b o hne h1 h2 q1 q2 => x.disj id id' b o hne (hnk _ h1) (hnk _ h2) (hsub id b o q1) (hsub id' b o q2), fun id b o h1 h2 => ⟨(x.mine id b o (hnk id h1) (hsub id b o h2)).1, fun _ => ⟨id, hnk id h1, h2⟩⟩⟩, ?_, fun b o v h1 h2 => .inr ⟨h1, h2⟩, fun b o h => ⟨k, hkn, hpk b o h⟩⟩
  · by_cases e : id = k
    · subst e
      simp only [upH, if_pos, Option.some.injEq] at hb
      subst hb
      refine ⟨_, hr, l.length, Φ id, Nat.le_refl _, ?_, fun b o => by simp only [upF, if_pos], fun b o hp => ⟨hp, ?_⟩⟩
      · refine ⟨g1, g2, g3, ?_⟩
        cases loc with
        | none => exact g4
        | some p => exact ⟨g4.1, cellsAt_all (fun c vs h => denC_sub (O1 := O1) (fun b o v h => .inl h) ρ c vs h) g4.2.1, g4.2.2⟩
      · obtain ⟨base, e1, e2, e3⟩ := hp
        subst e1
        simp only at g4
        have := Nat.mul_le_mul_right ks.length g2
        simp only [ecount] at g1
        rw [g1] at this
        obtain ⟨⟨v, hv⟩, _⟩ := g4.2.2 (o - base) (by simp only [esz]; omega)
        rw [show base + (o - base) = o by omega] at hv
        exact ⟨v, .inr ⟨⟨base, rfl, e2, e3⟩, hv⟩⟩
    · simp only [upH, if_neg e] at hb
      obtain ⟨hd, q1, q2⟩ := x.holds id bd hb
      refine ⟨hd, q1, ?_⟩
      simp only [upF, if_neg e]
      exact holds_allN (O1 := O1) (fun b o v h => Or.inl h) (hng id bd hb) q2
  · refine ⟨fun _ _ _ h => .inl h, fun w' h => x.frame.comp h fun b o hb ⟨id, h1, h2⟩ => (x.mine id b o h1 (hsub id b o h2)).2 hb, fun b o v h => ?_, fun b o hb ⟨id, h1, h2⟩ => (x.mine id b o h1 (hsub id b o h2)).2 hb, x.frame.size⟩
    rcases h with h | ⟨h1, _⟩
    · exact .inl h
    · rcases Nat.lt_or_ge b w0.heap.size with q | q
      · exact .inr (.inr ((x.mine k b o hkn (hpk b o h1)).2 q))
      · exact .inr (.inl q)

/-- rows as constant memory -/
def rowF (ks : List IntKind) (l : List (List Int)) (i : Nat) : SV := .agg (svF ks (fun j => (l.getD i []).getD j 0) 0)
theorem svF_zip : ∀ {ks : List IntKind} {r : List Int} {a : Nat → Int} {i : Nat}, r.length = ks.length → (∀ j, j < r.length → a (i + j) = r.getD j 0) → svF ks a i = List.zipWith SV.int ks r
  | [], [], _, _, _, _ => rfl
  | [], _ :: _, _, _, h, _ => by simp at h
  | _ :: _, [], _, _, h, _ => by simp at h
  | k :: ks, n :: r, a, i, h, ha => by
    have h0 := ha 0 (by simp)
    have hr := svF_zip (ks := ks) (r := r) (a := a) (i := i + 1) (by simpa using h) fun j hj => by
      have := ha (j + 1) (by simp; omega)
      rw [show i + 1 + j = i + (j + 1) by omega, this]; rfl
    simp only [svF, List.zipWith_cons_cons]
    rw [hr, show a i = n from h0]
theorem lent_ro (x : RelH w0 O ρ H w Φ) {k : Nat} {ks : List IntKind} {l : List (List Int)} (hk : H k = some (.rows ks l)) {O1 : Own} {ρ1 : Rho} (hm : ∀ b o v, lentF ρ k (l.length * ks.length) b o → w.cell? (adr b o) = some v → O1.mem b o v) {v : Value} (hv : DenV w0 O ρ (.own k) v) :
    DenV w O1 ρ1 (.ro ks.length l.length (rowF ks l)) v := by
  obtain ⟨loc, len, cap, e1, rfl⟩ := own_den hv
  obtain ⟨_, g1, g2, g3, g4⟩ := own_at x hk e1
  simp only [ecount] at g1; subst g1
  refine den_cell rfl rfl ?_
  simp only [DenC]
  refine ⟨_, cap, rfl, g2, fun hl => ?_⟩
  cases loc with
  | none => simp only at g4; omega
  | some p =>
    simp only at g4
    obtain ⟨h1, h2, h3⟩ := g4
    refine ⟨p.1, p.2, rfl, fun i hi => ?_⟩
    have hlen : (l.getD i []).length = ks.length := g3 _ (by rw [List.getD]; simp [hi])
    have hcell : ∀ j c, (List.zipWith SV.int ks (l.getD i []))[j]? = some c → (cellsOf (.rows ks l))[i * ks.length + j]? = some c := fun j c hc => by
      have hj : j < ks.length := by have := (List.getElem?_eq_some_iff.1 hc).1; rw [List.length_zipWith] at this; omega
      simp only [cellsOf]
      rw [flat_get _ ks.length i j _ hj, List.getElem?_map]
      · rw [List.getD_eq_getElem?_getD, List.getElem?_eq_getElem hi] at hc
        rw [List.getElem?_eq_getElem hi]
        exact hc
      · intro r hr
        obtain ⟨r', q1, rfl⟩ := List.mem_map.1 hr
        simp [g3 r' q1]
    have hlt : ∀ j, j < ks.length → i * ks.length + j < l.length * ks.length := fun j hj => by
      have := Nat.mul_le_mul_right ks.length (show i + 1 ≤ l.length from hi)
      rw [Nat.add_mul] at this
      omega
    -- the row's values
    have hvals : ∀ j, j < ks.length → ∃ n, (List.zipWith SV.int ks (l.getD i []))[j]? = some (.int (ks.getD j .u8) n) ∧ w.cell? (adr p.1 (p.2 + (i * ks.length + j))) = some (.int (ks.getD j .u8) n) ∧ Fits (ks.getD j .u8) n := fun j hj => by
      have hz : (List.zipWith SV.int ks (l.getD i []))[j]? = some (.int (ks.getD j .u8) ((l.getD i []).getD j 0)) := by
        rw [List.getElem?_zipWith, getD_get hj .u8, getD_get (l := l.getD i []) (by omega) 0]
      obtain ⟨u, c1, c2, _⟩ := h2 _ _ (hcell j _ hz)
      simp only [DenC, List.cons.injEq, and_true] at c2
      obtain ⟨rfl, c2⟩ := c2
      exact ⟨_, hz, c1, c2⟩
    refine ⟨List.zipWith (fun k n => Value.int k n) ks (l.getD i []), by rw [List.length_zipWith, hlen, Nat.min_self], fun j u hu => ?_, ?_⟩
    · have hj : j < ks.length := by have := (List.getElem?_eq_some_iff.1 hu).1; rw [List.length_zipWith] at this; omega
      obtain ⟨n, q1, q2, q3⟩ := hvals j hj
      rw [List.getElem?_zipWith, getD_get hj .u8, getD_get (l := l.getD i []) (by omega) 0] at hu
      rw [List.getElem?_zipWith, getD_get hj .u8, getD_get (l := l.getD i []) (by omega) 0] at q1
      simp only [Option.some.injEq, SV.int.injEq, true_and] at q1 hu
      subst hu; subst q1
      rw [show p.2 + i * ks.length + j = p.2 + (i * ks.length + j) by omega]
      exact hm _ _ _ ⟨_, _, _, e1, p.2, rfl, by omega, by have := hlt j hj; omega⟩ q2
    · unfold rowF
      rw [svF_zip (r := l.getD i []) hlen (fun j _ => by rw [Nat.zero_add])]
      simp only [DenC]
      refine DenL.mk (by simp) fun j c hc => ?_
      have hj : j < ks.length := by have := (List.getElem?_eq_some_iff.1 hc).1; rw [List.length_zipWith] at this; omega
      obtain ⟨n, q1, q2, q3⟩ := hvals j hj
      rw [hc] at q1
      simp only [Option.some.injEq] at q1
      subst q1
      refine ⟨.int (ks.getD j .u8) n, ?_, by simp only [DenC]; exact ⟨trivial, q3⟩, rfl⟩
      rw [List.getElem?_zipWith, getD_get hj .u8, getD_get (l := l.getD i []) (by omega) 0] at hc ⊢
      simp only [Option.some.injEq, SV.int.injEq, true_and] at hc ⊢
      rw [hc]

def thawB : Body → Body
  | .grow ks l => .rows ks l
  | b => b
theorem RelH.thaw (x : RelH w0 O ρ H w Φ) {O1 : Own} (hgr : Grow w0 O w O1) (hlent : ∀ b o, O1.lent b o → ∃ id, H id ≠ none ∧ Φ id b o) {ρ' : Rho} {H1 : Nat → Option Body} {w' : World} {Φ1 : Nat → Foot} (x' : RelH w O1 ρ' H1 w' Φ1)
    (hfree : ∀ id bd, H1 id = some bd → freeB bd = true) (hone : ∀ id id' ks l ks' l', H1 id = some (.grow ks l) → H1 id' = some (.grow ks' l') → id = id') : ∃ Φ', RelH w0 O ρ' (fun id => (H1 id).map thawB) w' Φ' := by
  let full : Nat → Foot := fun id b o => ∃ ks l loc len cap base, H1 id = some (.grow ks l) ∧ ρ' id = some (.sl loc len cap) ∧ loc = some (b, base) ∧ base ≤ o ∧ o < base + cap * ks.length
  have hn : ∀ id, (H1 id).map thawB ≠ none → H1 id ≠ none := fun id h e => h (by rw [e]; rfl)
  have grow : ∀ id ks l, H1 id = some (.grow ks l) → ∃ loc len cap, ρ' id = some (.sl loc len cap) ∧ GrowAt w O1 ρ' w' ks l loc len cap (Φ1 id) := fun id ks l h => by
    obtain ⟨hd, q1, q2⟩ := x'.holds id _ h
    cases hd with
    | «at» b base => exact q2.elim
    | sl loc len cap => exact ⟨loc, len, cap, q1, q2⟩
  -- a cell of the whole array is the chunk's or lent
  have part : ∀ id b o, full id b o → Φ1 id b o ∨ (O1.lent b o ∧ ∃ v, O1.mem b o v) := fun id b o ⟨ks, l, loc, len, cap, base, h1, h2, h3, h4, h5⟩ => by
    obtain ⟨loc', len', cap', q1, c, F0, q2, q3, q4, q5⟩ := grow id ks l h1
    rw [h2] at q1; cases q1
    by_cases hp : preF loc (c * ks.length) b o
    · exact .inr (q5 b o hp)
    · refine .inl ((q4 b o).2 ⟨?_, hp⟩)
      subst h3
      exact (q3.2.2.2.1 b o).2 ⟨rfl, h4, by simpa only [esz] using h5⟩
  refine ⟨fun id b o => Φ1 id b o ∨ full id b o, hgr.back w' x'.frame, fun id bd hb => ?_, fun id id' b o hne h1 h2 q1 q2 => ?_, fun id b o h1 h2 => ?_⟩
  · cases hb1 : H1 id with
    | none => rw [hb1] at hb; simp at hb
    | some b1 =>
      rw [hb1] at hb
      simp only [Option.map_some, Option.some.injEq] at hb
      by_cases hg : ∃ ks l, b1 = .grow ks l
      · obtain ⟨ks, l, rfl⟩ := hg
        subst hb
        obtain ⟨loc, len, cap, q1, c, F0, q2, q3, q4, q5⟩ := grow id ks l hb1
        refine ⟨_, q1, q3.1, q3.2.1, q3.2.2.1, ?_⟩
        obtain ⟨_, _, _, q3⟩ := q3
        cases loc with
        | none =>
          refine ⟨q3.1, fun b o h => ?_⟩
          rcases h with h | ⟨_, _, _, _, _, base, _, h2, h3, _⟩
          · exact q3.2 b o ((q4 b o).1 h).1
          · rw [q1] at h2; cases h2; simp at h3
        | some p =>
          refine ⟨fun b o => ⟨fun h => ?_, fun h => ?_⟩, cellsAt_free (fun c hc => ?_) q3.2.1, q3.2.2⟩
          · rcases h with h | ⟨ks', l', loc', len', cap', base, h1, h2, h3, h4, h5⟩
            · exact (q3.1 b o).1 ((q4 b o).1 h).1
            · rw [hb1] at h1; cases h1
              rw [q1] at h2; cases h2
              simp only [Option.some.injEq] at h3
              subst h3
              exact ⟨rfl, h4, h5⟩
          · obtain ⟨rfl, h1, h2⟩ := h
            exact .inr ⟨ks, l, _, len, cap, p.2, hb1, q1, rfl, h1, h2⟩
          · have := cells_clean (bd := .rows ks l) rfl c hc
            cases c <;> simp [cleanC] at this <;> rfl
      · have hng : ∀ ks l, b1 ≠ .grow ks l := fun ks l e => hg ⟨ks, l, e⟩
        have e : thawB b1 = b1 := by
          cases b1 with
          | grow ks l => exact absurd rfl (hng ks l)
          | _ => rfl
        rw [e] at hb
        subst hb
        obtain ⟨hd, q1, q2⟩ := x'.holds id b1 hb1
        refine ⟨hd, q1, ?_⟩
        have eF : (fun b o => Φ1 id b o ∨ full id b o) = Φ1 id := by
          funext b o
          refine propext ⟨fun h => ?_, .inl⟩
          rcases h with h | ⟨ks', l', _, _, _, _, h1, _⟩
          · exact h
          · rw [hb1] at h1; cases h1; exact absurd rfl (hng ks' l')
        rw [eF]
        exact holds_free (hfree id b1 hb1) hng q2
  · have hA := hn id h1
    have hB := hn id' h2
    have key : ∀ i i', i ≠ i' → H1 i ≠ none → H1 i' ≠ none → Φ1 i b o → (Φ1 i' b o ∨ full i' b o) → False := fun i i' hi n1 n2 p1 p2 => by
      rcases p2 with p2 | p2
      · exact x'.disj i i' b o hi n1 n2 p1 p2
      · rcases part i' b o p2 with p2 | ⟨_, v, p2⟩
        · exact x'.disj i i' b o hi n1 n2 p1 p2
        · exact x'.memFar n1 p1 p2
    rcases q1 with q1 | q1
    · exact key id id' hne hA hB q1 q2
    · rcases q2 with q2 | q2
      · exact key id' id (fun e => hne e.symm) hB hA q2 (.inr q1)
      · obtain ⟨ks, l, _, _, _, _, m1, _⟩ := q1
        obtain ⟨ks', l', _, _, _, _, m2, _⟩ := q2
        exact hne (hone id id' ks l ks' l' m1 m2)
  · have own1 : ∀ b o, Φ1 id b o → b < w'.heap.size ∧ (b < w0.heap.size → O.own b o) := fun b o h => by
      obtain ⟨m1, m2⟩ := x'.mine id b o (hn id h1) h
      exact ⟨m1, fun hb => hgr.own b o hb (m2 (Nat.lt_of_lt_of_le hb x.frame.size))⟩
    rcases h2 with h2 | h2
    · exact own1 b o h2
    · rcases part id b o h2 with h2 | ⟨q1, v, q2⟩
      · exact own1 b o h2
      · obtain ⟨id', m1, m2⟩ := hlent b o q1
        obtain ⟨p1, p2⟩ := x.mine id' b o m1 m2
        exact ⟨Nat.lt_of_lt_of_le p1 x'.frame.size, p2⟩
end

/-- a piece of code in which a chunk's rows are lent -/
theorem SimC.lend {g : Ctx} {w0 : World} {O : Own} (hG : GlobOk g w0 O) {nT m k t0 : Nat} {c : Code} {S S1 S' : List (Nat × SV)} {B B1 B1' : List Body} {e : Ex} {ks : List IntKind} {l : List (List Int)}
    (hB : B[k]? = some (.rows ks l)) (hB1 : B1 = B.set k (.grow ks l)) (hng : ∀ b ∈ B, ∀ ks l, b ≠ .grow ks l) (ht0 : tget (mkT S) t0 = .own k)
    (hS : ∀ t, tget (mkT S1) t = tget (mkT S) t ∨ tget (mkT S1) t = .any ∨ (tget (mkT S) t = .own k ∧ tget (mkT S1) t = .ro ks.length l.length (rowF ks l)))
    (hfS : ∀ t, tget (mkT S') t = .any ∨ freeC (tget (mkT S') t) = true) (hfB : ∀ b ∈ B1', freeB b = true) (hone : ∀ (i i' : Nat) ks l ks' l', B1'[i]? = some (.grow ks l) → B1'[i']? = some (.grow ks' l') → i = i')
    (h : ∀ w1 O1, GlobOk g w1 O1 → SimC g.P w1 O1 nT c S1 B1 e S' B1' m) : SimC g.P w0 O nT c S B e S' (B1'.map thawB) m := by
  intro ρ Φ a w r hr
  have hk : BH B k = some (.rows ks l) := hB
  have hden := r.tmps t0
  rw [ht0] at hden
  obtain ⟨loc, len, cap, e1, _⟩ := own_den hden
  obtain ⟨O1, q1, q2, q3, q4⟩ := r.heap.lend hk e1 (fun id bd hb => hng bd (List.mem_of_getElem? hb))
  have eH : ∀ j, upH (BH B) k (some (.grow ks l)) j = BH B1 j := fun j => by
    subst hB1
    unfold upH BH
    rw [List.getElem?_set]
    by_cases e : j = k
    · subst e
      have := (List.getElem?_eq_some_iff.1 hB).1
      simp [this]
    · rw [if_neg e, if_neg (fun h => e h.symm)]
  have hlen : B1.length = B.length := by subst hB1; simp
  have r1 : RelA nT w O1 ρ (tget (mkT S1)) (BH B1) (upF Φ k fun b o => Φ k b o ∧ ¬ preF loc (l.length * ks.length) b o) a w := ⟨r.size, r.defers, fun t => by
    rcases hS t with e | e | ⟨e, e'⟩
    · rw [e]; exact denV_sub q2.mem (r.tmps t)
    · rw [e]; exact .inl rfl
    · have := r.tmps t
      rw [e] at this
      rw [e']
      exact lent_ro r.heap hk (fun b o v ⟨loc', len', cap', h1, h2⟩ h3 => by
        rw [e1] at h1; cases h1
        exact q3 b o v h2 h3) this, relH_funext eH q1⟩
  refine wpL_mono (h w O1 (glob_sub q2.mem hG) ρ _ a w r1 (fun j hj => hr j (by omega))) fun e' a' w' ⟨he, ρ', Φ', p1, p2, p3⟩ => ⟨he, ρ', ?_⟩
  obtain ⟨Φ'', y⟩ := r.heap.thaw q2 q4 p3.heap (fun id bd hb => hfB bd (List.mem_of_getElem? hb)) (fun id id' ks l ks' l' h1 h2 => hone id id' ks l ks' l' h1 h2)
  refine ⟨Φ'', p1, fun j hj => p2 j (by simpa using hj), p3.size, p3.defers, fun t => ?_, relH_funext (fun j => ?_) y⟩
  · rcases hfS t with e | e
    · rw [e]; exact .inl rfl
    · exact denV_free e (p3.tmps t)
  · unfold BH; rw [List.getElem?_map]
end Go.Vx

/- A function whose body is told of by pieces of code; a log that grows while its rows are lent. -/
namespace Go.Vx
open Go

section
variable {P : Program} {w0 : World} {O : Own} {nT m : Nat}
theorem wpL_of {c : Code} {Q : Exit → Act → World → Prop} {a : Act} {w : World} (hc : ∀ d, c ≠ .loop d) (h : c.wp P Q a w) : wpL P c Q a w := by
  cases c <;> first | exact absurd rfl (hc _) | exact h
theorem SimC.seq {x y : Code} {S S1 S2 : List (Nat × SV)} {B B1 B2 : List Body} {e : Ex} {m' : Nat} (hm : m' ≤ m) (h1 : SimC P w0 O nT x S B .normal S1 B1 m) (h2 : SimC P w0 O nT y S1 B1 e S2 B2 m') : SimC P w0 O nT (.seq x y) S B e S2 B2 m' := by
  intro ρ Φ a w r hr
  show (Code.seq x y).wp _ _ _ _
  refine wp_seq (wp_mono (wpL_wp (h1 ρ Φ a w r hr)) fun e' a' w' ⟨he, ρ', Φ', q1, q2, q3⟩ => ?_)
  subst he
  exact wp_mono (wpL_wp (h2 ρ' Φ' a' w' q3 q2)) fun e2 a2 w2 ⟨he2, ρ2, Φ2, p1, p2, p3⟩ => ⟨he2, ρ2, Φ2, fun j h hj hh => p1 j h hj (q1 j h (Nat.lt_of_lt_of_le hj hm) hh), p2, p3⟩
theorem SimC.seqOut {x y : Code} {S S1 : List (Nat × SV)} {B B1 : List Body} {e : Ex} (h1 : SimC P w0 O nT x S B e S1 B1 m) (he : e ≠ .normal) : SimC P w0 O nT (.seq x y) S B e S1 B1 m := by
  intro ρ Φ a w r hr
  show (Code.seq x y).wp _ _ _ _
  refine wp_seq (wp_mono (wpL_wp (h1 ρ Φ a w r hr)) fun e' a' w' h => ?_)
  obtain ⟨e1, hd⟩ := h
  subst e1
  cases e with
  | normal => exact absurd rfl he
  | exit i => exact ⟨rfl, hd⟩
  | ret => exact ⟨rfl, hd⟩
theorem SimC.block {c : Code} {id : Nat} {S S1 : List (Nat × SV)} {B B1 : List Body} {e e2 : Ex} (h1 : SimC P w0 O nT c S B e S1 B1 m) (h2 : (e = .exit id ∧ e2 = .normal) ∨ (e ≠ .exit id ∧ e2 = e)) : SimC P w0 O nT (.block id c) S B e2 S1 B1 m := by
  intro ρ Φ a w r hr
  show (Code.block id c).wp _ _ _ _
  refine wp_block (wp_mono (wpL_wp (h1 ρ Φ a w r hr)) fun e' a' w' h => ?_)
  obtain ⟨e1, hd⟩ := h
  subst e1
  rcases h2 with ⟨rfl, rfl⟩ | ⟨hne, rfl⟩
  · simp only [Ex.up, Exit.inBlock, if_true]; exact ⟨trivial, hd⟩
  · cases e2 with
    | normal => exact ⟨rfl, hd⟩
    | exit i =>
      have hi : ¬ i = id := fun e => hne (by rw [e])
      simp only [Ex.up, Exit.inBlock, if_neg hi]; exact ⟨trivial, hd⟩
    | ret => exact ⟨rfl, hd⟩

/-- the first pieces by a run -/
theorem SimC.cut {g : Ctx} {k n m' : Nat} {pl : List Plan} {c : Code} {S S2 : List (Nat × SV)} {B B' B2 : List Body} {keep ids : List Nat} {vals : List SV} {C : List Prop} {e : Ex} (hc : ∀ d, c ≠ .loop d) (hU : CtxU g) (hn : nT < 65535)
    (h : runC g n nT pl (takeSeq k c) S B keep ids = some (.normal, vals, B'.map some, C)) (hC : AllC C) (hnd : ids.Nodup) (hm : ∀ j, j < m' → ids[j]? = some j) (hk : ∀ k ∈ keep, k < 65535) (hB : B.length < 65535) (hG : GlobOk g w0 O)
    (hQ : SimC g.P w0 O nT (dropSeq k c) (keep.zip vals) B' e S2 B2 m') : SimC g.P w0 O nT c S B e S2 B2 m' := by
  intro ρ Φ a w r hr
  unfold runC at h
  split at h
  · rename_i e1 T H1 pl1 C1 hx
    simp only [Option.some.injEq, Prod.mk.injEq] at h
    obtain ⟨rfl, hv, hb, rfl⟩ := h
    obtain ⟨s1, s2⟩ := exec_cut (hU w0 O hG) k n c _ _ _ _ hn hx rfl hC
    rw [← hget_mkB hB] at r
    refine wpL_of hc (s2 _ ρ Φ a w r (fun id hid _ => hr id hid) fun a' w' ⟨ρ', Φ', q1, q2, q3⟩ => ?_)
    refine wp_mono (wpL_wp (hQ (inR ρ' ids) (inF Φ' ids) a' w' ⟨q3.size, q3.defers, fun t => ?_, ?_⟩ fun j hj => ?_)) fun e2 a2 w2 ⟨he2, ρ2, Φ2, p1, p2, p3⟩ => ⟨he2, ρ2, Φ2, fun j h hj hh => p1 j h hj (by simp [inR, hm j hj, q1 j h hh]), p2, p3⟩
    · have hz : ∀ y ∈ keep.zip vals, y.1 < 65535 ∧ y.2 = mapC (idx ids) (tget T y.1) := fun y hy => by
        rw [← hv] at hy
        rw [List.mem_iff_getElem?] at hy
        obtain ⟨i, hi⟩ := hy
        rw [List.getElem?_zip_eq_some] at hi
        obtain ⟨i1, i2⟩ := hi
        refine ⟨hk _ (List.mem_of_getElem? i1), ?_⟩
        rw [List.getElem?_map, i1] at i2
        simpa using i2.symm
      rcases tget_mkT _ t fun y hy => (hz y hy).1 with e | ⟨y, h1, h2, h3⟩
      · rw [e]; exact .inl rfl
      · rw [h3, (hz y h1).2, h2]
        exact denV_map (inR_idx ρ' ids) (q3.tmps t)
    · refine relH_funext (fun j => ?_) (relH_ren q3.heap hnd)
      unfold renH BH
      have := congrArg (fun l => l[j]?) hb
      simp only [List.getElem?_map] at this
      cases hj : ids[j]? with
      | none =>
        rw [hj] at this
        cases hb' : B'[j]? with
        | none => rfl
        | some b => rw [hb'] at this; simp at this
      | some id =>
        rw [hj] at this
        cases hb' : B'[j]? with
        | none => rw [hb'] at this; simp at this
        | some b => rw [hb'] at this; simpa using this
    · have : ids.length = B'.length := by have := congrArg List.length hb; simpa using this
      simp [inR, List.getElem?_eq_none (show ids.length ≤ j by omega)]
  · simp at h

/-- told of with a log as cells and rows -/
theorem SimC.unlogAt {c : Code} {S S' : List (Nat × SV)} {B B1 : List Body} {e : Ex} {k : Nat} {l l' : List (List Int)} (hk : B[k]? = some (.log l)) (hkm : k < m) (hmB : m ≤ B.length) (hB1 : B1.length = B.length)
    (h : SimC P w0 O nT c S (B.set k (.cells [.int .i64 l.length, .own B.length]) ++ [.rows [.i64, .i64] l]) e S' (B1 ++ [.rows [.i64, .i64] l']) m) (hB1k : B1[k]? = some (.cells [.int .i64 l'.length, .own B.length]))
    (hc : ∀ b ∈ B1.set k (.log l'), mapB (idx (upto B.length)) b = b) : SimC P w0 O nT c S B e [] (B1.set k (.log l')) m := by
  have hkl : k < B.length := (List.getElem?_eq_some_iff.1 hk).1
  intro ρ Φ a w r hr
  have h1 : ρ B.length = none := hr _ (Nat.le_refl _)
  obtain ⟨loc, len, cap, Φ1, x1⟩ := r.heap.unlog (id := k) (k := B.length) (l := l) hk h1
  obtain ⟨hd, hr0, hh⟩ := r.heap.holds k (.log l) hk
  obtain ⟨b, base, rfl, _⟩ := holds_log hh
  have x1 := relH_funext (H' := BH (B.set k (.cells [.int .i64 l.length, .own B.length]) ++ [Body.rows [.i64, .i64] l])) (fun j => by
    rw [BH_append, List.length_set]
    unfold upH
    split
    · rfl
    · split
      · rename_i e; subst e; simp [BH, hkl]
      · rename_i e; simp [BH, List.getElem?_set_ne (Ne.symm e)]) x1
  have hext : Ext ρ (upR ρ B.length (.sl loc len cap)) := Ext.up h1 _
  have hlen : (B.set k (.cells [.int .i64 l.length, .own B.length]) ++ [Body.rows [.i64, .i64] l]).length = B.length + 1 := by simp
  refine wpL_mono (h _ Φ1 a w ⟨r.size, r.defers, fun t => DenV.mono hext (r.tmps t), x1⟩ (fun j hj => by
    rw [hlen] at hj; simp [upR, show j ≠ B.length by omega]; exact hr j (by omega))) fun e' a' w' ⟨he, ρ2, Φ2, q1, q2, q3⟩ => ⟨he, ?_⟩
  have hr2 : ρ2 k = some (.at b base) := q1 k _ hkm (hext k _ hr0)
  have x2 := q3.heap.tolog (id := k) (k := B.length) (l := l') (by unfold BH; rw [List.getElem?_append_left (by omega)]; exact hB1k) (by unfold BH; rw [List.getElem?_append_right (by omega), hB1]; simp) hr2
  refine ⟨inR ρ2 (upto B.length), _, fun j hd hj hh => ?_, fun j hj => ?_, q3.size, q3.defers, fun t => .inl rfl, relH_funext (fun j => ?_) (relH_ren x2 (ids := upto B.length) (upto_nodup _))⟩
  · simp only [inR, upto_get, if_pos (show j < B.length by omega), Option.bind_some]
    exact q1 j hd hj (hext j _ hh)
  · simp only [List.length_set, hB1] at hj
    simp [inR, upto_get, show ¬ j < B.length by omega]
  · unfold renH
    rw [upto_get]
    by_cases e1 : j < B.length
    · rw [if_pos e1]
      simp only [Option.bind_some]
      have hg : upH (upH (BH (B1 ++ [Body.rows [.i64, .i64] l'])) B.length none) k (some (.log l')) j = (B1.set k (.log l'))[j]? := by
        unfold upH
        by_cases e2 : j = k
        · subst e2
          rw [if_pos rfl, List.getElem?_set_self (by omega)]
        · rw [if_neg e2, if_neg (by omega), List.getElem?_set_ne (Ne.symm e2)]
          unfold BH
          rw [List.getElem?_append_left (by omega)]
      rw [hg]
      show _ = BH (B1.set k (.log l')) j
      unfold BH
      have hj1 : j < (B1.set k (.log l')).length := by simp; omega
      rw [List.getElem?_eq_getElem hj1, Option.map_some, hc _ (List.getElem_mem hj1)]
    · rw [if_neg e1]
      unfold BH
      rw [List.getElem?_eq_none (by simp; omega)]
      rfl
end

/-- a function without a result, out of its body's account -/
theorem FnOk.ofSim {g : Ctx} {f : FuncId} {fn : Func} {c : Code} {args : List SV} {B B' : List Body} {upd : List (Nat × Option Body)} {C : List Prop} {e : Ex} {S S' : List (Nat × SV)} (hU : CtxU g) (hf : g.P.funcs[f]? = some fn) (hb : fn.body = some c) (hn : fn.ntmps < 65535) (hl : args.length ≤ fn.ntmps)
    (hr : fn.results.toList = []) (hS : entryT args 0 = mkT S) (he : e = .normal ∨ e = .ret) (hupd : ∀ j, updAll upd (BH B) j = BH B' j) (hlen : B'.length = B.length)
    (h : ∀ w0 O, GlobOk g w0 O → SimC g.P w0 O fn.ntmps c S B e S' B' B.length) : FnOk g f args B { val := .tuple [], upd, C } := by
  intro w0 O hG ρ Φ vs w hd x hr0
  refine .inl ⟨fn, hf, (hU w0 O hG).names f fn c hf hb, by rw [hb]; rfl, ?_⟩
  have r := entry_rel hn hl hd x
  rw [hS] at r
  refine calls_of_wp hf hb (wp_mono (wpL_wp (h w0 O hG ρ Φ _ w r hr0)) fun e' a' w' ⟨he', ρ', Φ', q1, q2, q3⟩ => ?_)
  subst he'
  obtain ⟨u, r1, r2⟩ := results_den (P := g.P) (fn := fn) (vs := []) q3.heap q3.tmps (by rw [hr]; rfl)
  have fin : ∃ ρ' Φ', DenV w0 O ρ' (SV.tuple []) u ∧ (∀ j h, ρ j = some h → ρ' j = some h) ∧ (∀ j, B.length + ([] : List Body).length ≤ j → ρ' j = none) ∧ RelH w0 O ρ' (afterH B { val := .tuple [], upd, C }) w' Φ' := by
    refine ⟨ρ', Φ', r2, fun j h hh => ?_, fun j hj => q2 j (by simpa [hlen] using hj), relH_funext (fun j => ?_) q3.heap⟩
    · rcases Nat.lt_or_ge j B.length with e | e
      · exact q1 j h e hh
      · rw [hr0 j e] at hh; simp at hh
    · exact (hupd j).symm
  rcases he with rfl | rfl
  · exact ⟨q3.defers, u, r1, u, rfl, fin⟩
  · exact ⟨q3.defers, u, r1, u, rfl, fin⟩
end Go.Vx
