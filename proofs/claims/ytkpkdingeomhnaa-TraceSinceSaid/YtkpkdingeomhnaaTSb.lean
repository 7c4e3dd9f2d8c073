/- Accounts of this seat's functions: lemmas, no statement of their own. No conditions. -/
import Derived.Test.YtkpkdingeomhnaaTSa
namespace Go.Proofs.Ytkpkdingeomhnaa
open Go Go.Vx
/-! ### TraceSince: the iterator with the law's yield -/
noncomputable abbrev c38 : Code := match Try.prog.funcs[38]? with | some fn => (match fn.body with | some c => c | none => .skip) | none => .skip
abbrev siR (over ok all : Bool) (got n st c : Int) (W L : List (List Int)) (o m : Nat) : List Body := siP over ok all got n st c W o m ++ [Body.rows [.i64, .i64] L]
theorem si_pre (all : Bool) (got n st : Int) (W L : List (List Int)) (o m : Nat) (hL : Nat) : runC gx 200 27 [] (takeSeq 3 c38) [(0, siY), (1, .ptr 8 0), (2, .ptr 9 0)] (siR false true all got n st (hL : Int) W L o m) siK [0, 1, 2, 3, 4, 5, 6, 7, 8, 9, 10, 11, 12] =
    some (Ex.normal, [siY, .own 12, .int .i64 (mx0 n)], (siR false true all got n st (hL : Int) W L o m).map some, []) := by kernel_rfl
theorem si_drop : dropSeq 3 c38 = .block 0 (.loop siC) := by kernel_rfl
structure SiH (L : List (List Int)) (n : Int) (o m : Nat) (st : Int) (all : Bool) : Prop where
  len : L.length ≤ 2000
  ho : o = min n.toNat L.length
  hm : m = L.length - n.toNat
  hst : (all = true ∧ st = m) ∨ (all = false ∧ 1 ≤ st ∧ st < m)
def siL (L : List (List Int)) (j : Nat) : List (List Int) := L ++ List.replicate j [3, 9]
theorem siL_zero (L : List (List Int)) : siL L 0 = L := by simp [siL]
theorem siL_succ (L : List (List Int)) (j : Nat) : siL L (j + 1) = siL L j ++ [[3, 9]] := by simp [siL, List.replicate_succ']
theorem siL_len (L : List (List Int)) (j : Nat) : (siL L j).length = L.length + j := by simp [siL]
theorem siL_get (L : List (List Int)) (j : Nat) {i : Nat} (h : i < L.length) : (siL L j).getD i [] = L.getD i [] := by
  simp only [siL, List.getD_eq_getElem?_getD]; rw [List.getElem?_append_left h]
theorem mx0_nat (n : Int) : mx0 n = (n.toNat : Int) := by unfold mx0; split <;> omega
abbrev siBj (all : Bool) (n st : Int) (L : List (List Int)) (o m j : Nat) : List Body := siB false true all (j : Int) n st ((L.length + j : Nat) : Int) L (siL L j) o m
abbrev siSj (L : List (List Int)) (n : Int) (j : Nat) : List (Nat × SV) := siS L.length (rowF [.i64, .i64] L) ((n.toNat + j : Nat) : Int)
theorem siBj_succ (over all : Bool) (n st : Int) (L : List (List Int)) (o m j : Nat) : siB over true all ((j : Int) + 1) n st (((L.length + j : Nat) : Int) + 1) L (siL L j ++ [[3, 9]]) o m = siB over true all ((j + 1 : Nat) : Int) n st ((L.length + (j + 1) : Nat) : Int) L (siL L (j + 1)) o m := by
  rw [siL_succ]; rfl
theorem si_ids : ∀ j, j < 12 → ([0, 1, 2, 3, 4, 5, 6, 7, 8, 9, 10, 11, 17] : List Nat)[j]? = some j := by decide
theorem si_ids2 : ∀ j, j < 12 → ([0, 1, 2, 3, 4, 5, 6, 7, 8, 9, 10, 11, 12] : List Nat)[j]? = some j := by decide
section
variable {L : List (List Int)} {n : Int} {o m : Nat} {st : Int} {all : Bool}
theorem si_facts (h : SiH L n o m st all) {j : Nat} (hj : j < m) : o = n.toNat ∧ n.toNat + m = L.length ∧ L.length ≤ 2000 := by
  have := h.ho; have := h.hm; have := h.len
  exact ⟨by omega, by omega, by omega⟩
theorem si_q8 (ho : o = n.toNat) (j : Nat) : (!decide ([(L.getD (n.toNat + j) []).getD 0 (0 : Int), (L.getD (n.toNat + j) []).getD 1 0] = [(L.getD (o + ((j : Int)).toNat) []).getD 0 (0 : Int), (L.getD (o + ((j : Int)).toNat) []).getD 1 (0 : Int)])) = false := by
  rw [show o + ((j : Int)).toNat = n.toNat + j by omega]; simp
theorem si_q17 (ho : o = n.toNat) (hm : n.toNat < L.length) (j : Nat) : decide ([((siL L j).getD (mx0 n).toNat []).getD 0 (0 : Int), ((siL L j).getD (mx0 n).toNat []).getD 1 (0 : Int)] = [(L.getD o []).getD 0 (0 : Int), (L.getD o []).getD 1 (0 : Int)]) = true := by
  rw [mx0_nat, show ((n.toNat : Int)).toNat = o by omega, siL_get L j (by omega)]; simp
theorem si_round (h : SiH L n o m st all) {j : Nat} (hj : j < m) (hs : (j : Int) + 1 = st → all = true) {w0 : World} {O : Vx.Own} (hG : GlobOk gx w0 O) :
    SimC gx.P w0 O 27 siC (siSj L n j) (siBj all n st L o m j) .normal (siSj L n (j + 1)) (siBj all n st L o m (j + 1)) 12 := by
  obtain ⟨ho, hm, hl⟩ := si_facts h hj
  have hlen := siL_len L j
  have e0 := mx0_nat n
  have q8 := si_q8 (L := L) ho j
  have q17 := si_q17 (L := L) ho (by omega) j
  have F1 : Fits .i64 (L.length : Int) := fits_small (by omega)
  have F2 : Fits .i64 (m : Int) := fits_small (by omega)
  have F3 : Fits .i64 ((siL L j).length : Int) := by rw [hlen]; exact fits_small (by omega)
  have F4 : Fits .i64 (((L.length + j : Nat) : Int) + 1) := fits_small (n := L.length + j + 1) (by omega)
  have F5 : Fits .i64 ((j : Int) + 1) := fits_small (n := j + 1) (by omega)
  have F6 : Fits .i64 (((n.toNat + j : Nat) : Int) + 1) := fits_small (n := n.toNat + j + 1) (by omega)
  have q18 : (siL L j ++ [[(3 : Int), (9 : Int)]]).length * 16 ≤ 140737488355328 := by simp [hlen]; omega
  rw [show siBj all n st L o m (j + 1) = _ from (siBj_succ false all n st L o m j).symm]
  by_cases hst : (j : Int) + 1 = st
  · have ha := hs hst
    refine SimC.run (ids := [0, 1, 2, 3, 4, 5, 6, 7, 8, 9, 10, 11, 17]) gx_ok (by decide) (si_go2 all (j : Int) n st ((L.length + j : Nat) : Int) L (siL L j) L o m (n.toNat + j)) ?_ (by decide) (fun j hj => si_ids j hj) (by decide) (by simp [siB, siP]) hG
    simp only [allC_cons, allC_nil, and_true]
    exact ⟨F1, decide_eq_true (by omega), by omega, by omega, ⟨by omega, by omega⟩, decide_eq_false (by omega), F2, q8, F3, decide_eq_true (by omega), by omega, by omega, ⟨by omega, by omega⟩, by omega, by omega, ⟨by omega, by omega⟩, q17, q18, F4, F5, by simp [ha], decide_eq_true hst, ⟨by omega, by omega⟩, F6⟩
  · refine SimC.run (ids := [0, 1, 2, 3, 4, 5, 6, 7, 8, 9, 10, 11, 17]) gx_ok (by decide) (si_go1 all (j : Int) n st ((L.length + j : Nat) : Int) L (siL L j) L o m (n.toNat + j)) ?_ (by decide) (fun j hj => si_ids j hj) (by decide) (by simp [siB, siP]) hG
    simp only [allC_cons, allC_nil, and_true]
    exact ⟨F1, decide_eq_true (by omega), by omega, by omega, ⟨by omega, by omega⟩, decide_eq_false (by omega), F2, q8, F3, decide_eq_true (by omega), by omega, by omega, ⟨by omega, by omega⟩, by omega, by omega, ⟨by omega, by omega⟩, q17, q18, F4, F5, decide_eq_false hst, ⟨by omega, by omega⟩, F6⟩
theorem si_last (h : SiH L n o m st false) {j : Nat} (hj : (j : Int) + 1 = st) {w0 : World} {O : Vx.Own} (hG : GlobOk gx w0 O) :
    SimC gx.P w0 O 27 siC (siSj L n j) (siBj false n st L o m j) .ret [] (siB true true false ((j + 1 : Nat) : Int) n st ((L.length + (j + 1) : Nat) : Int) L (siL L (j + 1)) o m) 12 := by
  have hjm : j < m := by have := h.hst; simp at this; omega
  obtain ⟨ho, hm, hl⟩ := si_facts h hjm
  have hlen := siL_len L j
  have e0 := mx0_nat n
  have q8 := si_q8 (L := L) ho j
  have q17 := si_q17 (L := L) ho (by omega) j
  have F1 : Fits .i64 (L.length : Int) := fits_small (by omega)
  have F2 : Fits .i64 (m : Int) := fits_small (by omega)
  have F3 : Fits .i64 ((siL L j).length : Int) := by rw [hlen]; exact fits_small (by omega)
  have F4 : Fits .i64 (((L.length + j : Nat) : Int) + 1) := fits_small (n := L.length + j + 1) (by omega)
  have F5 : Fits .i64 ((j : Int) + 1) := fits_small (n := j + 1) (by omega)
  have q18 : (siL L j ++ [[(3 : Int), (9 : Int)]]).length * 16 ≤ 140737488355328 := by simp [hlen]; omega
  rw [← siBj_succ]
  refine SimC.run (keep := []) (ids := [0, 1, 2, 3, 4, 5, 6, 7, 8, 9, 10, 11, 17]) gx_ok (by decide) (si_stop false (j : Int) n st ((L.length + j : Nat) : Int) L (siL L j) L o m (n.toNat + j)) ?_ (by decide) (fun j hj => si_ids j hj) (by decide) (by simp [siB, siP]) hG
  simp only [allC_cons, allC_nil, and_true]
  exact ⟨F1, decide_eq_true (by omega), by omega, by omega, ⟨by omega, by omega⟩, decide_eq_false (by omega), F2, q8, F3, decide_eq_true (by omega), by omega, by omega, ⟨by omega, by omega⟩, by omega, by omega, ⟨by omega, by omega⟩, q17, q18, F4, F5, rfl, decide_eq_true hj, ⟨by omega, by omega⟩⟩
theorem si_fin (h : SiH L n o m st true) {w0 : World} {O : Vx.Own} (hG : GlobOk gx w0 O) :
    SimC gx.P w0 O 27 siC (siSj L n m) (siBj true n st L o m m) (.exit 0) [] (siBj true n st L o m m) 12 := by
  have := h.hm; have := h.len
  refine SimC.run (keep := []) (ids := [0, 1, 2, 3, 4, 5, 6, 7, 8, 9, 10, 11, 12]) gx_ok (by decide) (si_end true (m : Int) n st ((L.length + m : Nat) : Int) L (siL L m) L o m (n.toNat + m)) ?_ (by decide) (fun j hj => si_ids2 j hj) (by decide) (by simp [siB, siP]) hG
  simp only [allC_cons, allC_nil, and_true]
  exact ⟨fits_small (by omega), decide_eq_false (by omega)⟩
/-- the chunks behind it, the log as cells and rows -/
abbrev siZ (all : Bool) (n st : Int) (L : List (List Int)) (o m : Nat) : List Body := siB (!all) true all st n st ((L.length + st.toNat : Nat) : Int) L (siL L st.toNat) o m
abbrev exE (all : Bool) : Ex := match all with | true => .normal | false => .ret
theorem si_block (h : SiH L n o m st all) {w0 : World} {O : Vx.Own} (hG : GlobOk gx w0 O) :
    SimC gx.P w0 O 27 (.block 0 (.loop siC)) (siSj L n 0) (siBj all n st L o m 0) (exE all) [] (siZ all n st L o m) 12 := by
  cases all with
  | true =>
    have hst : st = m := by have := h.hst; simpa using this
    have e : siZ true n st L o m = siBj true n st L o m m := by
      subst hst; rfl
    rw [e]
    exact SimC.block (SimC.iter (S := siSj L n) (B := siBj true n st L o m) (N := m) (fun j hj => si_round h hj (fun _ => rfl) hG) (si_fin h hG) (by simp) 0 (Nat.zero_le _)) (.inl ⟨rfl, rfl⟩)
  | false =>
    obtain ⟨h1, h2⟩ : 1 ≤ st ∧ st < m := by have := h.hst; simpa using this
    obtain ⟨j, rfl⟩ : ∃ j : Nat, st = ((j + 1 : Nat) : Int) := ⟨st.toNat - 1, by omega⟩
    have e : siZ false n ((j + 1 : Nat) : Int) L o m = siB true true false ((j + 1 : Nat) : Int) n ((j + 1 : Nat) : Int) ((L.length + (j + 1) : Nat) : Int) L (siL L (j + 1)) o m := rfl
    rw [e]
    exact SimC.block (SimC.iter (S := siSj L n) (B := siBj false n ((j + 1 : Nat) : Int) L o m) (N := j) (fun i hi => si_round h (by omega) (fun e => by omega) hG) (si_last h (by simp) hG) (by simp) 0 (Nat.zero_le _)) (.inr ⟨by simp, rfl⟩)
end
end Go.Proofs.Ytkpkdingeomhnaa
