/- Accounts of this seat's functions: lemmas, no statement of their own. No conditions. -/
import Derived.Test.YtkpkdingeomhnaaTSb
namespace Go.Proofs.Ytkpkdingeomhnaa
open Go Go.Vx
/-! ### the iterator as a function's account -/
abbrev siA : List SV := [siY, .ptr 8 0, .ptr 9 0]
abbrev siS0 : List (Nat × SV) := [(0, siY), (1, .ptr 8 0), (2, .ptr 9 0)]
theorem si_noloop (d : Code) : c38 ≠ .loop d := fun e => by
  have h : (match c38 with | .loop _ => true | _ => false) = false := by kernel_rfl
  rw [e] at h; simp at h
theorem si_body {L : List (List Int)} {n : Int} {o m : Nat} {st : Int} {all : Bool} (h : SiH L n o m st all) {w0 : World} {O : Vx.Own} (hG : GlobOk gx w0 O) :
    SimC gx.P w0 O 27 c38 siS0 (siR false true all 0 n st (L.length : Int) L L o m) (exE all) [] (siR (!all) true all st n st ((L.length + st.toNat : Nat) : Int) L (siL L st.toNat) o m) 12 := by
  refine SimC.cut (k := 3) (keep := siK) (ids := [0, 1, 2, 3, 4, 5, 6, 7, 8, 9, 10, 11, 12]) si_noloop gx_ok (by decide) (si_pre all 0 n st L L o m L.length) (fun p hp => by cases hp) (by decide) (fun j hj => si_ids2 j hj) (by decide) (by simp [siR, siP]) hG ?_
  rw [si_drop]
  have key := SimC.lend (g := gx) (w0 := w0) (O := O) hG (nT := 27) (m := 12) (k := 12) (t0 := 4) (c := .block 0 (.loop siC)) (S := siK.zip [siY, .own 12, .int .i64 (mx0 n)]) (S1 := siSj L n 0) (S' := []) (B := siR false true all 0 n st (L.length : Int) L L o m) (B1 := siBj all n st L o m 0) (B1' := siZ all n st L o m)
    (e := exE all) (ks := [.i64, .i64]) (l := L) rfl (by
      show siB false true all 0 n st ((L.length : Nat) : Int) L (siL L 0) o m = _
      rw [siL_zero]; rfl) (fun b hb ks l e => by subst e; simp [siP] at hb) (by kernel_rfl) (fun t => ?_) (fun t => .inl rfl) (fun b hb => ?_) (fun i i' ks l ks' l' h1 h2 => ?_) (fun w1 O1 hG1 => si_block h hG1)
  · exact key
  · refine zip_rel (R := fun c c' => c' = c ∨ c' = .any ∨ (c = .own 12 ∧ c' = .ro 2 L.length (rowF [.i64, .i64] L))) (.inl rfl) siK [siY, .own 12, .int .i64 (mx0 n)] [siY, .ro 2 L.length (rowF [.i64, .i64] L), .int .i64 ((n.toNat + 0 : Nat) : Int)] (by decide) rfl (fun i c c' h1 h2 => ?_) t
    match i with
    | 0 => simp at h1 h2; subst h1; subst h2; exact .inl rfl
    | 1 => simp at h1 h2; subst h1; subst h2; exact .inr (.inr ⟨rfl, rfl⟩)
    | 2 => simp at h1 h2; subst h1; subst h2; left; rw [mx0_nat]; congr 1; omega
    | i + 3 => simp at h1
  · simp [siP] at hb
    rcases hb with rfl | rfl | rfl | rfl | rfl | rfl | rfl | rfl | rfl | rfl | rfl | rfl | rfl <;> rfl
  · have g : ∀ i ks l, (siZ all n st L o m)[i]? = some (.grow ks l) → i = 12 := fun i ks l hi => by
      match i with
      | 0 | 1 | 2 | 3 | 4 | 5 | 6 | 7 | 8 | 9 | 10 | 11 => simp [siP] at hi
      | 12 => rfl
      | i + 13 => simp [siP] at hi
    rw [g i ks l h1, g i' ks' l' h2]
/-- the chunks with the log as such -/
abbrev siQ (over ok : SV) (all : Bool) (got n st : Int) (W L : List (List Int)) (o m : Nat) : List Body := [.cells [over], .cells [.int .i64 got], .cells [.sl 10 0 o 2 0 m false], .cells [ok], .cells [.func 38 [] [.ptr 8 0, .ptr 9 0]], .cells [.ptr 11 0], .cells [.int .i64 st], .cells [.sbool all], .cells [.ptr 11 0], .cells [.int .i64 n], .rows [.i64, .i64] W, .log L]
theorem si_log {L : List (List Int)} {n : Int} {o m : Nat} {st : Int} {all : Bool} (h : SiH L n o m st all) {w0 : World} {O : Vx.Own} (hG : GlobOk gx w0 O) :
    SimC gx.P w0 O 27 c38 siS0 (siQ (.bool false) (.bool true) all 0 n st L L o m) (exE all) [] (siQ (.bool (!all)) (.bool true) all st n st L (siL L st.toNat) o m) 12 := by
  have h2 := si_body h hG
  rw [show ((L.length + st.toNat : Nat) : Int) = ((siL L st.toNat).length : Int) by rw [siL_len]] at h2
  exact SimC.unlogAt (k := 11) (l := L) (l' := siL L st.toNat) (B := siQ (.bool false) (.bool true) all 0 n st L L o m) (B1 := siP (!all) true all st n st ((siL L st.toNat).length : Int) L o m) rfl (by decide) (by simp) (by simp) h2 rfl (fun b hb => by
    simp [siP] at hb
    rcases hb with rfl | rfl | rfl | rfl | rfl | rfl | rfl | rfl | rfl | rfl | rfl | rfl <;> rfl)
theorem sb_b (b : Bool) : DenImp (.sbool b) (.bool b) := fun w0 O ρ v d => by
  have e := denV_bool (l := false) (b := b) d rfl
  exact den_cell rfl (by rw [e]; rfl) (by rw [e]; simp [DenC])
theorem si_norm {L : List (List Int)} {n : Int} {o m : Nat} {st : Int} {all : Bool} (h : SiH L n o m st all) {w0 : World} {O : Vx.Own} (hG : GlobOk gx w0 O) :
    SimC gx.P w0 O 27 c38 siS0 (siQ (.sbool false) (.sbool true) all 0 n st L L o m) (exE all) [] (siQ (.bool (!all)) (.bool true) all st n st L (siL L st.toNat) o m) 12 :=
  SimC.preI (si_log h hG) (by
    refine ⟨⟨.cells ⟨sb_b false, trivial⟩, ?_⟩, ⟨.refl _, ?_⟩, ⟨.refl _, ?_⟩, ⟨.cells ⟨sb_b true, trivial⟩, ?_⟩, ⟨.refl _, ?_⟩, ⟨.refl _, ?_⟩, ⟨.refl _, ?_⟩, ⟨.refl _, ?_⟩, ⟨.refl _, ?_⟩, ⟨.refl _, ?_⟩, ⟨.refl _, ?_⟩, ⟨.refl _, ?_⟩, trivial⟩ <;> first | (intro l e; cases e; done) | (intro l e; cases e; intro c hc; simp at hc; subst hc; rfl))

/-! ### what is read off the chunks -/
def gC (B : List Body) (i : Nat) : SV := match B[i]? with | some (.cells (c :: _)) => c | _ => .any
def gI : SV → Int | .int _ n => n | .lit _ n => n | _ => 0
def gO : SV → Nat | .sl _ _ o _ _ _ _ => o | _ => 0
def gM : SV → Nat | .sl _ _ _ _ _ m _ => m | _ => 0
def gA : SV → Bool | .sbool b => b | .bool b => b | _ => false
def gL (B : List Body) (i : Nat) : List (List Int) := match B[i]? with | some (.log l) => l | _ => []
def updZ : Nat → List Body → List (Nat × Option Body)
  | _, [] => []
  | i, b :: bs => (i, some b) :: updZ (i + 1) bs
theorem updZ_get : ∀ (bs : List Body) (i : Nat) (H : Nat → Option Body) (j : Nat), updAll (updZ i bs) H j = if i ≤ j ∧ j < i + bs.length then bs[j - i]? else H j
  | [], i, H, j => by simp [updZ, updAll]; omega
  | b :: bs, i, H, j => by
    simp only [updZ, updAll]
    rw [updZ_get bs (i + 1) _ j]
    simp only [List.length_cons]
    by_cases h : j = i
    · subst h
      rw [if_neg (by omega), if_pos (by omega)]
      simp [upH]
    · by_cases h2 : i + 1 ≤ j ∧ j < i + 1 + bs.length
      · rw [if_pos h2, if_pos (by omega), show j - i = (j - (i + 1)) + 1 by omega]; simp
      · rw [if_neg h2, if_neg (by omega)]
        simp [upH, h]
theorem updZ_BH {B B' : List Body} (h : B'.length = B.length) (j : Nat) : updAll (updZ 0 B') (BH B) j = BH B' j := by
  rw [updZ_get]
  by_cases e : j < B'.length
  · rw [if_pos (by omega)]; simp [BH]
  · rw [if_neg (by omega)]
    simp [BH, List.getElem?_eq_none (show B.length ≤ j by omega), List.getElem?_eq_none (show B'.length ≤ j by omega)]
def sin24 (args : List SV) (B : List Body) : OpOut :=
  let all := gA (gC B 7); let n := gI (gC B 9); let st := gI (gC B 6); let L := gL B 11; let o := gO (gC B 2); let m := gM (gC B 2)
  { val := .tuple [], upd := updZ 0 (siQ (.bool (!all)) (.bool true) all st n st L (siL L st.toNat) o m), C := [args = siA, B.map normB = siQ (.sbool false) (.sbool true) all 0 n st L L o m, SiH L n o m st all] }
theorem sin24_ok {args : List SV} {B : List Body} (hC : AllC (sin24 args B).C) : FnOk gx 38 args B (sin24 args B) := by
  unfold sin24 at hC ⊢
  simp only at hC ⊢
  generalize gA (gC B 7) = all at *
  generalize gI (gC B 9) = n at *
  generalize gI (gC B 6) = st at *
  generalize gL B 11 = L at *
  generalize gO (gC B 2) = o at *
  generalize gM (gC B 2) = m at *
  simp only [allC_cons, allC_nil, and_true] at hC
  obtain ⟨rfl, hB, h⟩ := hC
  have hl : B.length = 12 := by have := congrArg List.length hB; simpa using this
  refine FnOk.ofSim (fn := Try.f38) (c := c38) (S := siS0) (S' := []) (B' := siQ (.bool (!all)) (.bool true) all st n st L (siL L st.toNat) o m) (e := exE all) gx_ok rfl rfl (by decide) (by decide) (by kernel_rfl) (by kernel_rfl) (by cases all <;> simp) (updZ_BH (by rw [hl]; rfl)) (by rw [hl]; rfl) fun w0 O hG => ?_
  rw [hl]
  refine SimC.preB ?_
  rw [hB]
  exact si_norm h hG
end Go.Proofs.Ytkpkdingeomhnaa
