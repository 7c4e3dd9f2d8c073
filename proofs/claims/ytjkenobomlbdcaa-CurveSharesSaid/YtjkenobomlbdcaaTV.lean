/- Accounts of this seat's functions: lemmas, no statement of their own. No conditions. -/
import Derived.Test.YtjkenobomlbdcaaTU
import Derived.Test.YtjkenobomlbdcaaV4
namespace Go.Proofs.Ytjkenobomlbdcaa
open Go Go.Vx
/-! ### what the document says is logged -/
abbrev rvKeep : List Nat := [2, 1, 3]
abbrev ones : List Int := [7, 7, 1, 4, 2, 4, 2, 1, 2, 3, 3, 1, 4, 2, 4, 3, 3, 5, 1, 3]
noncomputable abbrev rvBody : Code := bodyAt Try.prog 20 4
abbrev rvS (i : Nat) : List (Nat × SV) := rvKeep.zip [.sl 0 20 0 1 0 20 true, .own 1, .int .i64 (i : Int)]
noncomputable abbrev rvB (l : List (List Int)) : List Body := [.cells (svF (List.replicate 20 .i64) (atL ones) 0), .rows [.i64, .i64] l]
abbrev rvL (l : List (List Int)) (j : Nat) : Prop := (lgN l (one20.take j)).length * 16 ≤ 2 ^ 47
theorem rv_go (i : Nat) (l : List (List Int)) : runC gRj 900 15 [.br true] rvBody (rvS i) (rvB l) rvKeep [0, 41] =
    some (.normal, [.sl 0 20 0 1 0 20 true, .own 1, .int .i64 ((i : Int) + 1)], (rvB (lgN l one20)).map some, [decide ((i : Int) < 255) = true, rvL l 1, rvL l 2, rvL l 3, rvL l 4, rvL l 5, rvL l 6, rvL l 7, rvL l 8, rvL l 9, rvL l 10, rvL l 11, rvL l 12, rvL l 13, rvL l 14, rvL l 15, rvL l 16, rvL l 17, rvL l 18, rvL l 19, rvL l 20, Fits .i64 ((i : Int) + 1)]) :=
  r3_parts4 (by kernel_rfl) (by kernel_rfl) (by kernel_rfl) (by kernel_rfl)
theorem rv_end (i : Nat) (l : List (List Int)) : runC gRj 900 15 [.br false] rvBody (rvS i) (rvB l) rvKeep [0, 1] =
    some (.exit 0, [.sl 0 20 0 1 0 20 true, .own 1, .int .i64 (i : Int)], (rvB l).map some, [decide ((i : Int) < 255) = false]) :=
  r3_parts4 (by kernel_rfl) (by kernel_rfl) (by kernel_rfl) (by kernel_rfl)
noncomputable def rvG (l : List (List Int)) : LoopF := fun vals B => match vals, B with
  | [.sl 0 20 0 1 0 20 true, .raw (.slice none 0 0), .int .i64 0], [.cells cs] => match numsAs (List.replicate 20 .i64) cs with
    | some lc => some ([(1, .own 1)], rvB l, [lc = ones, l = lgM [] 255])
    | none => none
  | _, _ => none
theorem rv_loop (l : List (List Int)) : LoopGood gRj 15 (.loop rvBody) rvKeep 1 (.exit 0) (mkLoopN (rvG l)) := by
  refine LoopGood.mkN (by decide) fun vals B S' B' C hG hC hlen w0 O hgl => ?_
  clear hlen
  unfold rvG at hG
  split at hG
  · rename_i cs
    split at hG
    · rename_i lc hc
      simp only [Option.some.injEq, Prod.mk.injEq] at hG
      obtain ⟨rfl, rfl, rfl⟩ := hG
      simp only [allC_cons, allC_nil, and_true] at hC
      have h1 := hC.1
      have hl := hC.2
      clear hC
      subst h1
      rw [hl]
      clear hl
      refine SimC.preI (B1 := [.cells (svF (List.replicate 20 .i64) (atL ones) 0)]) ?_ ⟨cells_nums hc, trivial⟩
      refine SimC.adoptS (.rows [.i64, .i64] []) 1 rfl rfl (by decide) (by decide) ?_
      have i41 : ∀ j : Nat, j < 1 → ([0, 41] : List Nat)[j]? = some j := fun j hj => by
        match j, hj with
        | 0, _ => rfl
      have i1 : ∀ j : Nat, j < 1 → ([0, 1] : List Nat)[j]? = some j := fun j hj => by
        match j, hj with
        | 0, _ => rfl
      show SimC _ _ _ _ _ (rvS 0) (rvB (lgM [] 0)) _ _ _ _
      refine SimC.iter (g := gRj) (e := .exit 0) (S := fun i => rvS i) (B := fun i => rvB (lgM [] i)) (N := 255) (fun i hi => ?_) ?_ (by simp) 0 (by omega)
      · have F : Fits .i64 ((i : Int) + 1) := fits_of (by omega) (by omega)
        have hl := lgM_len [] i
        have H : ∀ j, rvL (lgM [] i) j := fun j => by
          unfold rvL
          rw [lgN_eq, List.length_append, List.length_take]
          have : one20.length = 20 := rfl
          rw [hl]
          simp only [List.length_nil]
          omega
        refine SimC.run (B' := rvB (lgM [] (i + 1))) gRj_ok (by decide) (rv_go i _) ?_ (by decide) i41 (by decide) (by simp) hgl
        simp only [allC_cons, allC_nil, and_true]
        exact ⟨decide_eq_true (by omega), H _, H _, H _, H _, H _, H _, H _, H _, H _, H _, H _, H _, H _, H _, H _, H _, H _, H _, H _, H _, F⟩
      · exact SimC.weaken (SimC.run (B' := rvB (lgM [] 255)) gRj_ok (by decide) (rv_end 255 _) (by (simp only [allC_cons, allC_nil, and_true]; repeat' (with_reducible (first | refine And.intro ?_ ?_ | exact True.intro | assumption | omega | exact decide_eq_true (by first | assumption | omega) | exact decide_eq_false (by first | assumption | omega) | rfl | (simp; done))))) (by decide) i1 (by decide) (by simp) hgl) (sub_mkT (by simp; exact rfl))
    · simp at hG
  · simp at hG
abbrev rwL (l : List (List Int)) (j : Nat) : Prop := (lgN l (end4.take j)).length * 16 ≤ 2 ^ 47
end Go.Proofs.Ytjkenobomlbdcaa
