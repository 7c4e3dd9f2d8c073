/- Accounts of this seat's functions: lemmas, no statement of their own. No conditions. -/
import Derived.Test.YthciddlfnajchaaDoorTD
import Derived.Test.YthciddlfnajchaaDoorV5
namespace Go.Proofs.Tryd
open Go Go.Vx
theorem r3_parts4 {α β γ δ : Type} {x : Option (α × β × γ × δ)} {a : α} {b : β} {c : γ} {d : δ} (h1 : x.map (·.1) = some a) (h2 : x.map (·.2.1) = some b) (h3 : x.map (·.2.2.1) = some c) (h4 : x.map (·.2.2.2) = some d) : x = some (a, b, c, d) := by
  cases x with
  | none => simp at h1
  | some y => obtain ⟨y1, y2, y3, y4⟩ := y; simp at h1 h2 h3 h4; simp [h1, h2, h3, h4]
section
variable {w0 : World} {O : Go.Vx.Own} {ρ : Rho} {w : World} {Φ : Nat → Foot}
theorem relH_impF {H H' : Nat → Option Body} (h : ∀ id bd, H' id = some bd → ∃ b0, H id = some b0 ∧ (b0 = bd ∨ (BImp b0 bd ∧ ∀ l, b0 = .cells l → flatL l))) (x : RelH w0 O ρ H w Φ) : RelH w0 O ρ H' w Φ := by
  have hn : ∀ id, H' id ≠ none → H id ≠ none := fun id h' e => by
    cases hb : H' id with
    | none => exact h' hb
    | some bd =>
      obtain ⟨b0, q, _⟩ := h id bd hb
      rw [e] at q; simp at q
  refine ⟨x.frame, fun id bd hb => ?_, fun id id' b o hne h1 h2 => x.disj id id' b o hne (hn _ h1) (hn _ h2), fun id b o h1 => x.mine id b o (hn _ h1)⟩
  obtain ⟨b0, q1, q2⟩ := h id bd hb
  obtain ⟨hd, g1, g2⟩ := x.holds id b0 q1
  rcases q2 with rfl | ⟨q2, q3⟩
  · exact ⟨hd, g1, g2⟩
  · exact ⟨hd, g1, holds_imp q2 q3 g2⟩
end
/-- a new chunk that says less -/
theorem FnOk.new1 {g : Ctx} {f : FuncId} {args : List SV} {B : List Body} {v : SV} {upd : List (Nat × Option Body)} {b b' : Body} {C : List Prop} (hb : BImp b b' ∧ ∀ l, b = .cells l → flatL l) (h : FnOk g f args B { val := v, upd, new := [b] }) : FnOk g f args B { val := v, upd, new := [b'], C } := by
  intro w0 O hG ρ Φ vs w d x hr
  refine (h w0 O hG ρ Φ vs w d x hr).mono fun u w' ⟨ρ', Φ', q1, q2, q3, q4⟩ => ⟨ρ', Φ', q1, q2, q3, relH_impF (fun id bd hbd => ?_) q4⟩
  unfold afterH newH at hbd ⊢
  simp only [newAll] at hbd ⊢
  by_cases hid : id = B.length
  · subst hid
    simp only [upH, if_true, Option.some.injEq] at hbd ⊢
    subst hbd
    exact ⟨b, rfl, .inr hb⟩
  · simp only [upH, if_neg hid] at hbd ⊢
    exact ⟨bd, hbd, .inl rfl⟩
/-! ### New -/
abbrev hd0 (n : Int) (k : List Int) : Int := uxor 1779033703 (uadd .u32 (uadd .u32 16842752 (umul .u32 256 (scut .u32 (k.length : Int)))) (scut .u32 n))
def blk0 (k : List Int) (j : Nat) : Int := if 0 ≤ j ∧ j < 0 + (k.take 64).length then (k.take 64).getD j 0 else 0
/-- what New lays: the size, the state, the count, the block, what is held -/
def nwL (n : Int) (k : List Int) : List Int := n :: hd0 n k :: (ivL.drop 1 ++ 0 :: (listF 64 (blk0 k) 0 ++ [if 0 < k.length then 64 else 0]))
abbrev nwA (n : Int) (k : List Int) : Nat → Int := atL (nwL n k)
abbrev nwC (n : Int) (k : List Int) (b : Bool) : List Prop := [decide (n < 1) = false, decide (32 < n) = false, Fits .i64 (k.length : Int), decide ((32 : Int) < (k.length : Int)) = false, Fits .i64 (k.length : Int), Fits .i64 (k.length : Int), decide ((0 : Int) < (k.length : Int)) = b]
noncomputable abbrev nwB (r : SV) (n : Int) (h : Int) (t : List SV) : Body := .cells (r :: .int .i64 n :: .int .u32 h :: ((ivL.drop 1).map (.lit .u32) ++ .lit .u64 0 :: t))
abbrev z64 : List SV := List.replicate 64 (.lit .u8 0) ++ [.lit .i64 0]
theorem nw_a (n : Int) (k : List Int) : runF g3 400 [.br false, .br false, .br false, .br true] 10 [nilR, .int .i64 n, .roi .u8 k] [] [1] =
    some (.tuple [.ptr 0 0, .raw .nilIface], [some (nwB nilR n (hd0 n k) (svF (List.replicate 64 .u8) (blk0 k) 0 ++ [.lit .i64 64]))], nwC n k true ++ [Fits .i64 ((min k.length 64 : Nat) : Int), 0 + (k.take 64).length ≤ 64]) := run_parts (by kernel_rfl) (by kernel_rfl) (by kernel_rfl)
theorem nw_b (n : Int) (k : List Int) : runF g3 400 [.br false, .br false, .br false, .br false] 10 [nilR, .int .i64 n, .roi .u8 k] [] [1] =
    some (.tuple [.ptr 0 0, .raw .nilIface], [some (nwB nilR n (hd0 n k) z64)], nwC n k false) := run_parts (by kernel_rfl) (by kernel_rfl) (by kernel_rfl)
theorem nw_c (n : Int) : runF g3 400 [.br false, .br false, .br false, .br false] 10 [nilR, .int .i64 n, .raw (.slice none 0 0)] [] [1] =
    some (.tuple [.ptr 0 0, .raw .nilIface], [some (nwB nilR n (uxor 1779033703 (uadd .u32 16842752 (scut .u32 n))) z64)], [decide (n < 1) = false, decide (32 < n) = false, false = false, false = false]) := run_parts (by kernel_rfl) (by kernel_rfl) (by kernel_rfl)
theorem dg_of {ms : List SV} {la : List Int} {r : SV} (h : dgAs ms = some la) (hr : ms.take 1 = [r]) (hr2 : isAggS r = false) {a : Nat → Int} (ha : atL la = a) : BImp (.cells ms) (dgV r a) ∧ ∀ l, Body.cells ms = .cells l → flatL l := by
  subst ha; exact cells_dg h hr hr2
theorem nwL_nil (n : Int) : nwL n [] = n :: uxor 1779033703 (uadd .u32 16842752 (scut .u32 n)) :: (ivL.drop 1 ++ 0 :: (List.replicate 64 0 ++ [0])) := by kernel_rfl
noncomputable def F10 : SumF := fun args B => match args, B with
  | [.raw (.pointer none), .int .i64 n, .roi K k], [] => match sameK K .u8 with
    | true => some { val := .tuple [.ptr 0 0, .raw .nilIface], new := [dgV nilR (nwA n k)], C := [1 ≤ n, n ≤ 32, k.length ≤ 32] }
    | _ => none
  | [.raw (.pointer none), .int .i64 n, .raw (.slice none 0 0)], [] => some { val := .tuple [.ptr 0 0, .raw .nilIface], new := [dgV nilR (nwA n [])], C := [1 ≤ n, n ≤ 32] }
  | _, _ => none
theorem acc10 : Acc g3 10 F10 := by
  intro args B out h hC
  unfold F10 at h
  split at h
  · rename_i n K k
    split at h
    · rename_i hK
      obtain rfl := kidx_inj hK
      simp only [Option.some.injEq] at h; subst h
      simp only [allC_cons, allC_nil, and_true] at hC
      obtain ⟨h1, h2, h3⟩ := hC
      have F : Fits .i64 (k.length : Int) := fits_of (by omega) (by omega)
      have cs : ∀ b, decide ((0 : Int) < (k.length : Int)) = b → AllC (nwC n k b) := fun b hb => by
        simp only [nwC, allC_cons, allC_nil, and_true]
        exact ⟨decide_eq_false (by omega), decide_eq_false (by omega), F, decide_eq_false (by omega), F, F, hb⟩
      by_cases hk : 0 < k.length
      · refine FnOk.new1 (b := nwB nilR n (hd0 n k) (svF (List.replicate 64 .u8) (blk0 k) 0 ++ [.lit .i64 64])) ?_ ?_
        · refine dg_of (la := n :: hd0 n k :: (ivL.drop 1 ++ 0 :: (listF 64 (blk0 k) 0 ++ [64]))) (by kernel_rfl) rfl rfl ?_
          rw [nwA, nwL, if_pos hk]
        · refine FnOk.run (out := { val := .tuple [.ptr 0 0, .raw .nilIface], new := [nwB nilR n (hd0 n k) (svF (List.replicate 64 .u8) (blk0 k) 0 ++ [.lit .i64 64])] }) (new := [1]) g3_ok (nw_a n k) (allC_append.2 ⟨cs _ (decide_eq_true (by omega)), ?_⟩) (by simp [upto]) rfl (by simp) (by simp) (fun j hj => by
            match j, hj with
            | 0, _ => rfl)
          have : (k.take 64).length ≤ 64 := by rw [List.length_take]; omega
          simp only [allC_cons, allC_nil, and_true]
          exact ⟨fits_of (by omega) (by omega), by omega⟩
      · obtain rfl : k = [] := List.length_eq_zero_iff.1 (by omega)
        refine FnOk.new1 (b := nwB nilR n (hd0 n []) z64) ?_ ?_
        · exact dg_of (la := n :: hd0 n [] :: (ivL.drop 1 ++ 0 :: (List.replicate 64 0 ++ [0]))) (by kernel_rfl) rfl rfl (by kernel_rfl)
        · exact FnOk.run (out := { val := .tuple [.ptr 0 0, .raw .nilIface], new := [nwB nilR n (hd0 n []) z64] }) (new := [1]) g3_ok (nw_b n []) (cs _ (decide_eq_false (by omega))) (by simp [upto]) rfl (by simp) (by simp) (fun j hj => by
            match j, hj with
            | 0, _ => rfl)
    · simp at h
  · rename_i n
    simp only [Option.some.injEq] at h; subst h
    simp only [allC_cons, allC_nil, and_true] at hC
    obtain ⟨h1, h2⟩ := hC
    refine FnOk.new1 (b := nwB nilR n (uxor 1779033703 (uadd .u32 16842752 (scut .u32 n))) z64) ?_ ?_
    · exact dg_of (la := n :: uxor 1779033703 (uadd .u32 16842752 (scut .u32 n)) :: (ivL.drop 1 ++ 0 :: (List.replicate 64 0 ++ [0]))) (by kernel_rfl) rfl rfl (by rw [nwA, nwL_nil])
    · refine FnOk.run (out := { val := .tuple [.ptr 0 0, .raw .nilIface], new := [nwB nilR n (uxor 1779033703 (uadd .u32 16842752 (scut .u32 n))) z64] }) (new := [1]) g3_ok (nw_c n) ?_ (by simp [upto]) rfl (by simp) (by simp) (fun j hj => by
        match j, hj with
        | 0, _ => rfl)
      simp only [allC_cons, allC_nil, and_true]
      exact ⟨decide_eq_false (by omega), decide_eq_false (by omega)⟩
  · simp at h
theorem flat_lit {cs : List SV} (h : cs.all (fun c => !isAggS c) = true) : flatL cs := fun d hd => by
  have := List.all_eq_true.1 h d hd
  simpa using this
end Go.Proofs.Tryd
