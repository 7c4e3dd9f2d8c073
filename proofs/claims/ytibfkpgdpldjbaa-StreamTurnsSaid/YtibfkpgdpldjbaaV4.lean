/- A symbolic executor over the model's code, and that it is sound, part 4: lemmas for the proofs of this seat, no statement of their own. No conditions. -/
import Derived.Test.YtibfkpgdpldjbaaV3

set_option linter.unusedVariables false
/- Numbers, looked at through slices. -/
namespace Go.Vx
open Go

/-- a part of a list of numbers -/
def subI (l : List Int) (o n : Nat) : List Int := (l.drop o).take n
theorem subI_all (l : List Int) : subI l 0 l.length = l := by simp [subI]
theorem subI_length {l : List Int} {o n : Nat} (h : o + n ≤ l.length) : (subI l o n).length = n := by simp [subI]; omega
theorem subI_get {l : List Int} {o n i : Nat} (hi : i < n) : (subI l o n).getD i 0 = l.getD (o + i) 0 := by
  unfold subI
  rw [List.getD_eq_getElem?_getD, List.getElem?_take, if_pos hi, List.getElem?_drop, ← List.getD_eq_getElem?_getD]
/-- a slice of chunk id, as a part of its numbers -/
def vwI (id : Nat) (l : List Int) : SV → Option (Nat × Nat)
  | .own j => match Nat.beq j id with
    | true => some (0, l.length)
    | false => none
  | .sl j _ off s 0 len _ => match (Nat.beq j id).and (Nat.beq s 1) with
    | true => some (off, len)
    | false => none
  | _ => none

section
variable {w0 : World} {O : Own} {ρ : Rho} {w : World} {H : Nat → Option Body} {Φ : Nat → Foot}
theorem vwI_den {id : Nat} {k : IntKind} {l : List Int} {x : SV} {o n : Nat} (h : vwI id l x = some (o, n)) (r : RelH w0 O ρ H w Φ) (hb : H id = some (.ints k l)) {v : Value} (d : DenV w0 O ρ x v) : DenV w0 O ρ (.sl id 0 o 1 0 n false) v := by
  unfold vwI at h
  split at h
  · rename_i j
    split at h
    · rename_i hj
      have hj := Nat.eq_of_beq_eq_true hj
      subst hj
      simp only [Option.some.injEq, Prod.mk.injEq] at h
      obtain ⟨rfl, rfl⟩ := h
      obtain ⟨d, _⟩ := denV_cell (c := .own j) d (by simp) rfl
      simp only [DenC] at d
      obtain ⟨loc, len, cap, e1, e2⟩ := d
      simp at e2; subst e2
      obtain ⟨hd, f1, f2⟩ := r.holds j _ hb
      rw [e1] at f1; cases f1
      obtain ⟨g1, g2, g3, g4⟩ := f2
      have g1 : len = l.length := g1
      subst g1
      refine den_cell rfl rfl ?_
      simp only [DenC]
      refine ⟨_, cap, rfl, g2, ⟨by simp, ?_⟩, fun hpos => ?_⟩
      · cases loc with
        | none => exact .inl rfl
        | some y => exact .inr ⟨y.1, y.2, rfl⟩
      · cases loc with
        | none => have := g4.1; omega
        | some y => exact ⟨_, y.1, y.2, e1, rfl, by simp⟩
    · simp at h
  · rename_i j m off s len kn
    split at h
    · rename_i hj
      simp only [Bool.and_eq_true] at hj
      have hj1 := Nat.eq_of_beq_eq_true hj.1
      have hj2 := Nat.eq_of_beq_eq_true hj.2
      subst hj1; subst hj2
      simp only [Option.some.injEq, Prod.mk.injEq] at h
      obtain ⟨rfl, rfl⟩ := h
      obtain ⟨d, _⟩ := denV_cell (c := .sl j m off 1 0 len kn) d (by simp) rfl
      simp only [DenC] at d
      obtain ⟨a, cap, e1, e2, ⟨_, e3⟩, e4⟩ := d
      simp at e1; subst e1
      refine den_cell rfl rfl ?_
      simp only [DenC]
      exact ⟨a, cap, rfl, e2, ⟨by simp, e3⟩, e4⟩
    · simp at h
  · simp at h
end
/-- the marks behind a list's end -/
def markN (i : Nat) : Int := scut .u8 (161 + (i : Int).tmod 7)
def roomL (la : List Int) : List Int := (List.range (la.length + 70)).map fun i => if i < la.length then la.getD i 0 else markN i
theorem roomL_len (la : List Int) : (roomL la).length = la.length + 70 := by simp [roomL]
theorem roomL_get (la : List Int) {i : Nat} (h : i < la.length + 70) : (roomL la).getD i 0 = if i < la.length then la.getD i 0 else markN i := by
  unfold roomL
  rw [List.getD_eq_getElem?_getD, List.getElem?_map, List.getElem?_range h]; rfl
/-- the first i of n numbers, behind them noughts -/
def partF (f : Nat → Int) (n i : Nat) : List Int := (List.range n).map fun j => if j < i then f j else 0
theorem partF_len (f : Nat → Int) (n i : Nat) : (partF f n i).length = n := by simp [partF]
theorem partF_get (f : Nat → Int) {n i p : Nat} (h : p < n) : (partF f n i).getD p 0 = if p < i then f p else 0 := by
  unfold partF
  rw [List.getD_eq_getElem?_getD, List.getElem?_map, List.getElem?_range h]; rfl
theorem extI {l l' : List Int} (h : l.length = l'.length) (h2 : ∀ p, p < l.length → l.getD p 0 = l'.getD p 0) : l = l' := by
  apply List.ext_getElem h
  intro p h1 h3
  have := h2 p h1
  rw [List.getD_eq_getElem?_getD, List.getD_eq_getElem?_getD, List.getElem?_eq_getElem h1, List.getElem?_eq_getElem h3] at this
  simpa using this
theorem setI {l : List Int} {k p : Nat} {v : Int} (hp : p < l.length) : (l.set k v).getD p 0 = if k = p then v else l.getD p 0 := by
  rw [List.getD_eq_getElem?_getD, List.getElem?_set, List.getD_eq_getElem?_getD]
  split
  · rename_i e; subst e; simp [hp]
  · rfl
theorem partF_zero (f : Nat → Int) (n : Nat) : partF f n 0 = List.replicate n 0 := by
  refine extI (by simp [partF_len]) fun p hp => ?_
  rw [partF_len] at hp
  rw [partF_get f hp, if_neg (by omega), List.getD_eq_getElem?_getD, List.getElem?_replicate, if_pos hp]; rfl
theorem partF_set (f : Nat → Int) {n i : Nat} (h : i < n) : (partF f n i).set i (f i) = partF f n (i + 1) := by
  refine extI (by simp [partF_len]) fun p hp => ?_
  rw [List.length_set, partF_len] at hp
  rw [setI (by rw [partF_len]; exact hp), partF_get f hp, partF_get f hp]
  by_cases e : i = p
  · subst e; rw [if_pos rfl, if_pos (by omega)]
  · rw [if_neg e]
    by_cases e2 : p < i
    · rw [if_pos e2, if_pos (by omega)]
    · rw [if_neg e2, if_neg (by omega)]
theorem partF_all (f : Nat → Int) (l : List Int) (h : ∀ p, p < l.length → f p = l.getD p 0) : partF f l.length l.length = l := by
  refine extI (by simp [partF_len]) fun p hp => ?_
  rw [partF_len] at hp
  rw [partF_get f hp, if_pos hp, h p hp]
theorem set_set (l : List Int) (i : Nat) (a b : Int) : (l.set i a).set i b = l.set i b := by simp
section
variable {w0 : World} {O : Own} {ρ : Rho} {w : World} {H : Nat → Option Body} {Φ : Nat → Foot}
theorem cellsOf_ints (k : IntKind) (l : List Int) : cellsOf (.ints k l) = svF (List.replicate l.length k) (atL l) 0 := by
  apply List.ext_getElem?
  intro j
  rw [svF_get]
  simp only [cellsOf, List.getElem?_map, List.getElem?_replicate]
  by_cases h : j < l.length
  · rw [if_pos h, List.getElem?_eq_getElem h]
    simp [atL, h]
  · rw [if_neg h, List.getElem?_eq_none (by omega)]; rfl
theorem holds_asInts {n : Nat} {k : IntKind} {cs : List SV} {ns : List Int} (hn : numsAs (List.replicate n k) cs = some ns) {b base : Nat} {F : Foot} (h : Holds w0 O ρ w (.cells cs) (.at b base) F) : Holds w0 O ρ w (.ints k ns) (.at b base) F := by
  have hi := cells_nums hn
  have h2 := holds_imp hi.1 (fun l hl => hi.2 l hl) h
  obtain ⟨h3, h4, h5⟩ := h2
  have e : cellsOf (.ints k ns) = cellsOf (.cells (svF (List.replicate n k) (atL ns) 0)) := by
    rw [cellsOf_ints]
    have := (numsAs_len hn).1
    rw [List.length_replicate] at this
    rw [this]; rfl
  refine ⟨trivial, ?_, ?_⟩
  · rw [e]; exact h4
  · rw [e]; exact h5
theorem holds_asCells {k : IntKind} {ns : List Int} {b base : Nat} {F : Foot} (h : Holds w0 O ρ w (.ints k ns) (.at b base) F) : Holds w0 O ρ w (.cells (svF (List.replicate ns.length k) (atL ns) 0)) (.at b base) F := by
  obtain ⟨h3, h4, h5⟩ := h
  rw [cellsOf_ints] at h4 h5
  exact ⟨trivial, h4, h5⟩
/-- one chunk, told of in other words -/
theorem RelH.swap (x : RelH w0 O ρ H w Φ) {i : Nat} {bd bd' : Body} (hb : H i = some bd) (h : ∀ hd, ρ i = some hd → Holds w0 O ρ w bd hd (Φ i) → Holds w0 O ρ w bd' hd (Φ i)) : RelH w0 O ρ (upH H i (some bd')) w Φ := by
  have hn : ∀ id, upH H i (some bd') id ≠ none → H id ≠ none := fun id hid => by
    unfold upH at hid
    split at hid
    · rename_i e; subst e; rw [hb]; simp
    · exact hid
  refine ⟨x.frame, fun id b0 h0 => ?_, fun id id' b o hne h1 h2 => x.disj id id' b o hne (hn _ h1) (hn _ h2), fun id b o h1 => x.mine id b o (hn _ h1)⟩
  unfold upH at h0
  split at h0
  · rename_i e; subst e
    simp only [Option.some.injEq] at h0; subst h0
    obtain ⟨hd, q1, q2⟩ := x.holds id bd hb
    exact ⟨hd, q1, h hd q1 q2⟩
  · exact x.holds id b0 h0
/-- cells that are numbers, as a list of them -/
theorem FnOk.asInts {g : Ctx} {f : FuncId} {args : List SV} {B : List Body} {i n : Nat} {k : IntKind} {cs : List SV} {ns ns' : List Int} {out out' : OpOut} (hB : B[i]? = some (.cells cs)) (hn : numsAs (List.replicate n k) cs = some ns)
    (h : FnOk g f args (B.set i (.ints k ns)) out) (h1 : afterH (B.set i (.ints k ns)) out i = some (.ints k ns')) (hnew : out'.new.length = out.new.length) (hval : out'.val = out.val)
    (hA : ∀ j, afterH B out' j = upH (afterH (B.set i (.ints k ns)) out) i (some (.cells (svF (List.replicate ns'.length k) (atL ns') 0))) j) : FnOk g f args B out' := by
  have hi : i < B.length := (List.getElem?_eq_some_iff.1 hB).1
  intro w0 O hG ρ Φ vs w d x hr
  obtain ⟨hd, r1, r2⟩ := x.holds i _ hB
  cases hd with
  | sl a b c => exact r2.elim
  | «at» b base =>
    have x1 := x.swap (i := i) (bd' := .ints k ns) hB fun hd hh hq => by
      rw [r1] at hh; cases hh
      exact holds_asInts hn hq
    have x1 := relH_funext (H' := BH (B.set i (.ints k ns))) (fun j => by
      unfold upH BH
      by_cases e : j = i
      · subst e; simp [hi]
      · rw [if_neg e, List.getElem?_set_ne (Ne.symm e)]) x1
    refine (h w0 O hG ρ Φ vs w d x1 (fun j hj => hr j (by simpa using hj))).mono fun u w' ⟨ρ', Φ', q1, q2, q3, q4⟩ => ?_
    refine ⟨ρ', Φ', by rw [hval]; exact q1, q2, fun j hj => q3 j (by simpa [hnew] using hj), relH_funext (fun j => (hA j).symm) ?_⟩
    exact q4.swap h1 fun hd hh hq => by
      rw [q2 i _ r1] at hh; cases hh
      exact holds_asCells hq
end
theorem run_parts {α β γ : Type} {x : Option (α × β × γ)} {a : α} {b : β} {c : γ} (h1 : x.map (·.1) = some a) (h2 : x.map (·.2.1) = some b) (h3 : x.map (·.2.2) = some c) : x = some (a, b, c) := by
  cases x with
  | none => simp at h1
  | some y =>
    obtain ⟨y1, y2, y3⟩ := y
    simp at h1 h2 h3
    subst h1; subst h2; subst h3; rfl
end Go.Vx
