/- Accounts of this seat's functions: lemmas, no statement of their own. No conditions. -/
import Derived.Test.YtjkenobomlbdcaaTZ
namespace Go.Proofs.Ytjkenobomlbdcaa
open Go Go.Vx
/-! ### CurveForms -/
abbrev foKeep : List Nat := [2, 3, 6, 7, 8]
noncomputable abbrev foBody : Code := bodyAt Try.prog 6 8
abbrev foO (v : SV) (t : Int) : List SV := [.ptr 0 0, .ptr 1 0, .ptr 2 0, v, .int .i64 t]
abbrev foS (b : Bool) (i : Nat) : List (Nat × SV) := foKeep.zip (foO (.sbool b) ((i : Int) + 1))
noncomputable abbrev foB (k u s : Nat → Int) : List Body := [.cells (b32 k), .cells (b32 u), .cells (b32 s)]
abbrev foV (s : Nat → Int) (i : Nat) : Bool := decide ((listF 32 s 0).getD ((i : Int) + 1).toNat 0 = 255)
theorem fo_go1 (b : Bool) (i : Nat) (k u s : Nat → Int) : runC gN 200 73 [.br true, .br true] foBody (foS b i) (foB k u s) foKeep [0, 1, 2] =
    some (.normal, foO (.sbool (foV s i)) ((i : Int) + 1 + 1), (foB k u s).map some, [decide ((i : Int) + 1 < 31) = true, ((i : Int) + 1).toNat < 32, (0 : Int) ≤ (i : Int) + 1 ∧ (i : Int) + 1 < ((32 : Nat) : Int), b = true, Fits .i64 ((i : Int) + 1 + 1)]) :=
  r3_parts4 (by kernel_rfl) (by kernel_rfl) (by kernel_rfl) (by kernel_rfl)
theorem fo_go0 (b : Bool) (i : Nat) (k u s : Nat → Int) : runC gN 200 73 [.br true, .br false] foBody (foS b i) (foB k u s) foKeep [0, 1, 2] =
    some (.normal, foO (.bool false) ((i : Int) + 1 + 1), (foB k u s).map some, [decide ((i : Int) + 1 < 31) = true, b = false, Fits .i64 ((i : Int) + 1 + 1)]) :=
  r3_parts4 (by kernel_rfl) (by kernel_rfl) (by kernel_rfl) (by kernel_rfl)
theorem fo_end (b : Bool) (i : Nat) (k u s : Nat → Int) : runC gN 200 73 [.br false] foBody (foS b i) (foB k u s) foKeep [0, 1, 2] =
    some (.exit 0, foO (.sbool b) ((i : Int) + 1), (foB k u s).map some, [decide ((i : Int) + 1 < 31) = false]) :=
  r3_parts4 (by kernel_rfl) (by kernel_rfl) (by kernel_rfl) (by kernel_rfl)
def moZ (s : Nat → Int) (b : Bool) : Nat → Bool
  | 0 => b
  | i + 1 => moZ s b i && foV s i
noncomputable def foG : LoopF := fun vals B => match vals, B with
  | [.ptr 0 0, .ptr 1 0, .ptr 2 0, .sbool b, .int .i64 t], [.cells ks, .cells us, .cells ss] => match numsAs (List.replicate 32 .u8) ks, numsAs (List.replicate 32 .u8) us, numsAs (List.replicate 32 .u8) ss with
    | some lk, some lu, some ls => some ([(2, .ptr 0 0), (3, .ptr 1 0), (6, .ptr 2 0), (7, .sbool (moZ (atL ls) b 30))], foB (atL lk) (atL lu) (atL ls), [t = 1])
    | _, _, _ => none
  | _, _ => none
theorem den_sb (b : Bool) : DenImp (.bool b) (.sbool b) := fun w0 O ρ v d => by
  have := denV_bool (l := true) (b := b) d (by cases b <;> rfl)
  subst this
  exact den_cell rfl rfl rfl
theorem fo_loop : LoopGood gN 73 (.loop foBody) foKeep 3 (.exit 0) (mkLoopN foG) := by
  refine LoopGood.mkN (by decide) fun vals B S' B' C hG hC hlen w0 O hgl => ?_
  clear hlen
  unfold foG at hG
  split at hG
  · rename_i b t ks us ss
    split at hG
    · rename_i lk lu ls hk hu hs
      simp only [Option.some.injEq, Prod.mk.injEq] at hG
      obtain ⟨rfl, rfl, rfl⟩ := hG
      simp only [allC_cons, allC_nil, and_true] at hC
      subst hC
      have i3 : ∀ j : Nat, j < 3 → ([0, 1, 2] : List Nat)[j]? = some j := fun j hj => by
        match j, hj with
        | 0, _ => rfl
        | 1, _ => rfl
        | 2, _ => rfl
      refine SimC.preI (B1 := foB (atL lk) (atL lu) (atL ls)) ?_ ⟨cells_nums hk, cells_nums hu, cells_nums hs, trivial⟩
      show SimC _ _ _ _ _ (foS (moZ (atL ls) b 0) 0) (foB (atL lk) (atL lu) (atL ls)) _ _ _ _
      refine SimC.iter (g := gN) (e := .exit 0) (S := fun i => foS (moZ (atL ls) b i) i) (B := fun _ => foB (atL lk) (atL lu) (atL ls)) (N := 30) (fun i hi => ?_) ?_ (by simp) 0 (by omega)
      · have F : Fits .i64 ((i : Int) + 1 + 1) := fits_of (by omega) (by omega)
        have c1 : decide ((i : Int) + 1 < 31) = true := decide_eq_true (by omega)
        have ei : ((i + 1 : Nat) : Int) + 1 = (i : Int) + 1 + 1 := by omega
        show SimC _ _ _ _ _ (foS (moZ (atL ls) b i) i) _ .normal (foKeep.zip (foO (.sbool (moZ (atL ls) b (i + 1))) (((i + 1 : Nat) : Int) + 1))) _ _
        rw [ei]
        cases hb : moZ (atL ls) b i with
        | true =>
          have e : moZ (atL ls) b (i + 1) = foV (atL ls) i := by simp only [moZ, hb, Bool.true_and]
          rw [e]
          exact SimC.run (B' := foB (atL lk) (atL lu) (atL ls)) gN_ok (by decide) (fo_go1 true i _ _ _) (by
            simp only [allC_cons, allC_nil, and_true]
            exact ⟨c1, by omega, ⟨by omega, by omega⟩, trivial, F⟩) (by decide) i3 (by decide) (by simp) hgl
        | false =>
          have e : moZ (atL ls) b (i + 1) = false := by simp only [moZ, hb, Bool.false_and]
          rw [e]
          refine SimC.weakenI (SimC.run (B' := foB (atL lk) (atL lu) (atL ls)) gN_ok (by decide) (fo_go0 false i _ _ _) (by
            simp only [allC_cons, allC_nil, and_true]
            exact ⟨c1, trivial, F⟩) (by decide) i3 (by decide) (by simp) hgl) ?_
          intro y hy
          simp only [foKeep, foO, List.zip_cons_cons, List.zip_nil_right, List.mem_cons, List.not_mem_nil, or_false] at hy
          rcases hy with rfl | rfl | rfl | rfl | rfl
          · exact ⟨by decide, DenImp.refl _⟩
          · exact ⟨by decide, DenImp.refl _⟩
          · exact ⟨by decide, DenImp.refl _⟩
          · exact ⟨by decide, den_sb false⟩
          · exact ⟨(by decide : 8 < 65535), DenImp.refl _⟩
      · exact SimC.weaken (SimC.run (B' := foB (atL lk) (atL lu) (atL ls)) gN_ok (by decide) (fo_end _ 30 _ _ _) (by simp only [allC_cons, allC_nil, and_true]; exact decide_eq_false (by omega)) (by decide) i3 (by decide) (by simp) hgl) (sub_mkT (by simp; exact ⟨rfl, rfl, rfl, rfl⟩))
    · simp at hG
  · simp at hG
end Go.Proofs.Ytjkenobomlbdcaa
