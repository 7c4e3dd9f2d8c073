/- Accounts of this seat's functions: lemmas, no statement of their own. No conditions. -/
import Derived.Test.YtejcjdhplpjpjaaTQs
namespace Go.Proofs.Ytejcjdhplpjpjaa
open Go Go.Vx
/-! ### MacTwo: the account -/
abbrev n32 (k : Nat → Int) : List Int := listF 32 k 0
noncomputable abbrev a2E (q : Nat) (k : Nat → Int) (d : Nat → List Int) (m : Nat) : Nat → Int := aQ q (atL (nwL (kk k))) d m
noncomputable abbrev twF (p : Nat → Bool) (d : Nat → List Int) (m : Nat) (k l : Nat → Int) : List Prop :=
  [rowY p d = rowY (pOf (rowY p d)) (dOf (rowY p d)), Fits .i64 (m : Int), ∀ i, i < m → factsC (rowY p d i), m ≤ 400, KB (kk k), KB (kk l), MK (kk k) [] (atL (nwL (kk k))), MK (kk l) [] (atL (nwL (kk l)))]
theorem two_run0 (p : Nat → Bool) (d : Nat → List Int) (m : Nat) (k l : Nat → Int) : runF gt 900 [.br false, .loop 10 twKeep 4 (.exit 0) (mkLoopN twG0), .br true, .br true] 3 [.agg (svF (List.replicate 32 .u8) k 0), .agg (svF (List.replicate 32 .u8) l 0), .ro 2 m (rowY p d)] [] [] =
    some (.sbool true, [], [Fits .i64 (m : Int), decide ((400 : Int) < (m : Int)) = false, LoopGood gt 109 (.loop twBody) twKeep 4 (.exit 0) (mkLoopN twG0)] ++ (twF p d m k l ++ [sp2 d m = m, decide (Tg (a2E 1 l d m) = Dg l (xQ 1 d m)) = true, (xQ 1 d m).length = (xQ 1 d m).length, (xQ 1 d m).length ≤ 140737488355328, 0 ≤ n43 (a2E 1 l d m) 42 ∧ n43 (a2E 1 l d m) 42 < 16,
      decide (Tg (a2E 0 k d m) = Dg k (xQ 0 d m)) = true, (xQ 0 d m).length = (xQ 0 d m).length, (xQ 0 d m).length ≤ 140737488355328, 0 ≤ n43 (a2E 0 k d m) 42 ∧ n43 (a2E 0 k d m) 42 < 16])) :=
  run_parts (by kernel_rfl) (by kernel_rfl) (by kernel_rfl)
theorem two_run1 (p : Nat → Bool) (d : Nat → List Int) (m : Nat) (k l : Nat → Int) : runF gt 900 [.br false, .loop 10 twKeep 4 .ret (mkLoopN twG1)] 3 [.agg (svF (List.replicate 32 .u8) k 0), .agg (svF (List.replicate 32 .u8) l 0), .ro 2 m (rowY p d)] [] [] =
    some (.bool true, [], [Fits .i64 (m : Int), decide ((400 : Int) < (m : Int)) = false, LoopGood gt 109 (.loop twBody) twKeep 4 .ret (mkLoopN twG1)] ++ (twF p d m k l ++ [sp2 d m < m, Fits .i64 ((d (sp2 d m)).length : Int)])) :=
  run_parts (by kernel_rfl) (by kernel_rfl) (by kernel_rfl)
theorem two_run2 (p : Nat → Bool) (d : Nat → List Int) (m : Nat) (k l : Nat → Int) : runF gt 900 [.br true] 3 [.agg (svF (List.replicate 32 .u8) k 0), .agg (svF (List.replicate 32 .u8) l 0), .ro 2 m (rowY p d)] [] [] =
    some (.bool true, [], [Fits .i64 (m : Int), decide ((400 : Int) < (m : Int)) = true]) :=
  run_parts (by kernel_rfl) (by kernel_rfl) (by kernel_rfl)
theorem KB_kk {k : Nat → Int} (h : KB k) : KB (kk k) := fun j hj => by rw [show kk k j = k j from atLF hj]; exact h j hj
theorem key_bytes {k : Nat → Int} (hf : factsC (.agg (svF (List.replicate 32 .u8) k 0))) : KB k := fun j hj => by
  have e : (List.replicate 32 IntKind.u8)[j]? = some .u8 := by rw [List.getElem?_replicate, if_pos hj]
  have f1 := facts_svF hf j .u8 e
  rw [Nat.zero_add] at f1
  exact ⟨f1.1, Int.lt_of_le_of_lt f1.2 (by decide)⟩
theorem tag_eq' {k : Nat → Int} {x : List Int} {a : Nat → Int} (hk : KB k) (h : MK k x a) : decide (Tg a = Dg k x) = true := by
  have := tag_eq hk h
  cases e : decide (Tg a = Dg k x) with
  | true => rfl
  | false => rw [e] at this; simp at this
theorem two_ok (k l : Nat → Int) (m : Nat) (a : Nat → Nat → Int) (d : Nat → Nat → List Int) (Fm : Fits .i64 (m : Int)) (hl : ∀ i j, Fits .i64 ((d i j).length : Int)) (hf : ∀ i, i < m → factsC (.agg (svY [.b, .s .u8] (a i) (d i) 0))) :
    FnOk gt 3 [.agg (svF (List.replicate 32 .u8) k 0), .agg (svF (List.replicate 32 .u8) l 0), .ro 2 m fun i => .agg (svY [.b, .s .u8] (a i) (d i) 0)] [] { val := .bool true } := by
  show FnOk gt 3 [.agg (svF (List.replicate 32 .u8) k 0), .agg (svF (List.replicate 32 .u8) l 0), .ro 2 m (rowY (fun i => decide (a i 0 = 1)) (fun i => d i 1))] [] { val := .bool true }
  have hf' : ∀ i, i < m → factsC (rowY (fun i => decide (a i 0 = 1)) (fun i => d i 1) i) := hf
  have hl' : ∀ i, Fits .i64 (((fun i => d i 1) i).length : Int) := fun i => hl i 1
  generalize (fun i => decide (a i 0 = 1)) = p at *
  generalize (fun i => d i 1) = e at *
  have hL0 := tw_loop0
  have hL1 := tw_loop1
  refine FnOk.facts fun ⟨f1, f2, _⟩ => ?_
  have k1 := key_bytes f1
  have k2 := key_bytes f2
  by_cases h4 : 400 < m
  · exact FnOk.pure gt_ok (two_run2 p e m k l) (by simp only [allC_cons, allC_nil, and_true]; exact ⟨Fm, decide_eq_true (by omega)⟩)
  · have hc : AllC (twF p e m k l) := by
      simp only [twF, allC_cons, allC_nil, and_true]
      exact ⟨rfl, Fm, hf', by omega, KB_kk k1, KB_kk k2, MK_new k1, MK_new k2⟩
    have h0 : decide ((400 : Int) < (m : Int)) = false := decide_eq_false (by omega)
    have hle := sp2_le e m
    by_cases hs : sp2 e m = m
    · refine FnOk.ofSb (b := true) (FnOk.pure gt_ok (two_run0 p e m k l) ?_) rfl
      refine allC_append.2 ⟨?_, allC_append.2 ⟨hc, ?_⟩⟩
      · simp only [allC_cons, allC_nil, and_true]; exact ⟨Fm, h0, hL0⟩
      · have hd := rowY_bytes (f := rowY p e) rfl hf'
        have A : MK k (xQ 0 e m) (a2E 0 k e m) := by
          have := MS_Q 0 (MK_new k1) hd m (Nat.le_refl _)
          rw [kk_kk] at this; exact this
        have B : MK l (xQ 1 e m) (a2E 1 l e m) := by
          have := MS_Q 1 (MK_new k2) hd m (Nat.le_refl _)
          rw [kk_kk] at this; exact this
        have hx := xQ_len (d := e) (m := m) m (by omega)
        simp only [allC_cons, allC_nil, and_true]
        exact ⟨hs, tag_eq' k2 B, trivial, by omega, MS_h (MS_43 B), tag_eq' k1 A, trivial, by omega, MS_h (MS_43 A)⟩
    · refine FnOk.pure gt_ok (two_run1 p e m k l) ?_
      refine allC_append.2 ⟨?_, allC_append.2 ⟨hc, ?_⟩⟩
      · simp only [allC_cons, allC_nil, and_true]; exact ⟨Fm, h0, hL1⟩
      · simp only [allC_cons, allC_nil, and_true]; exact ⟨by omega, hl' _⟩
end Go.Proofs.Ytejcjdhplpjpjaa
