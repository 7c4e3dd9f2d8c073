/- Accounts of this seat's functions: lemmas, no statement of their own. No conditions. -/
import Derived.Test.YtjkenobomlbdcaaTWi
namespace Go.Proofs.Ytjkenobomlbdcaa
open Go Go.Vx
/-! ### the document's bits -/
abbrev bV (l : List Int) (t : Int) : Int := l.getD (t.tdiv 8).toNat 0
theorem bi_0 (k : Nat → Int) (t : Int) : runF gRg 900 [.br false] 36 [.agg (b32 k), .int .i64 t] [] [] = some (.int .i64 ((bV (listF 32 k 0) t).tmod 2), [], [(t.tdiv 8).toNat < 32, 0 ≤ t.tdiv 8 ∧ t.tdiv 8 < ((32 : Nat) : Int), decide ((0 : Int) < t.tmod 8) = false]) :=
  run_parts (by kernel_rfl) (by kernel_rfl) (by kernel_rfl)
theorem bi_1 (k : Nat → Int) (t : Int) : runF gRg 900 [.br true, .br false] 36 [.agg (b32 k), .int .i64 t] [] [] = some (.int .i64 (((bV (listF 32 k 0) t).tdiv 2).tmod 2), [], [(t.tdiv 8).toNat < 32, 0 ≤ t.tdiv 8 ∧ t.tdiv 8 < ((32 : Nat) : Int), decide ((0 : Int) < t.tmod 8) = true, decide ((1 : Int) < t.tmod 8) = false]) :=
  run_parts (by kernel_rfl) (by kernel_rfl) (by kernel_rfl)
theorem bi_2 (k : Nat → Int) (t : Int) : runF gRg 900 [.br true, .br true, .br false] 36 [.agg (b32 k), .int .i64 t] [] [] = some (.int .i64 ((((bV (listF 32 k 0) t).tdiv 2).tdiv 2).tmod 2), [], [(t.tdiv 8).toNat < 32, 0 ≤ t.tdiv 8 ∧ t.tdiv 8 < ((32 : Nat) : Int), decide ((0 : Int) < t.tmod 8) = true, decide ((1 : Int) < t.tmod 8) = true, decide ((2 : Int) < t.tmod 8) = false]) :=
  run_parts (by kernel_rfl) (by kernel_rfl) (by kernel_rfl)
theorem bi_3 (k : Nat → Int) (t : Int) : runF gRg 900 [.br true, .br true, .br true, .br false] 36 [.agg (b32 k), .int .i64 t] [] [] = some (.int .i64 (((((bV (listF 32 k 0) t).tdiv 2).tdiv 2).tdiv 2).tmod 2), [], [(t.tdiv 8).toNat < 32, 0 ≤ t.tdiv 8 ∧ t.tdiv 8 < ((32 : Nat) : Int), decide ((0 : Int) < t.tmod 8) = true, decide ((1 : Int) < t.tmod 8) = true, decide ((2 : Int) < t.tmod 8) = true, decide ((3 : Int) < t.tmod 8) = false]) :=
  run_parts (by kernel_rfl) (by kernel_rfl) (by kernel_rfl)
theorem bi_4 (k : Nat → Int) (t : Int) : runF gRg 900 [.br true, .br true, .br true, .br true, .br false] 36 [.agg (b32 k), .int .i64 t] [] [] = some (.int .i64 ((((((bV (listF 32 k 0) t).tdiv 2).tdiv 2).tdiv 2).tdiv 2).tmod 2), [], [(t.tdiv 8).toNat < 32, 0 ≤ t.tdiv 8 ∧ t.tdiv 8 < ((32 : Nat) : Int), decide ((0 : Int) < t.tmod 8) = true, decide ((1 : Int) < t.tmod 8) = true, decide ((2 : Int) < t.tmod 8) = true, decide ((3 : Int) < t.tmod 8) = true, decide ((4 : Int) < t.tmod 8) = false]) :=
  run_parts (by kernel_rfl) (by kernel_rfl) (by kernel_rfl)
theorem bi_5 (k : Nat → Int) (t : Int) : runF gRg 900 [.br true, .br true, .br true, .br true, .br true, .br false] 36 [.agg (b32 k), .int .i64 t] [] [] = some (.int .i64 (((((((bV (listF 32 k 0) t).tdiv 2).tdiv 2).tdiv 2).tdiv 2).tdiv 2).tmod 2), [], [(t.tdiv 8).toNat < 32, 0 ≤ t.tdiv 8 ∧ t.tdiv 8 < ((32 : Nat) : Int), decide ((0 : Int) < t.tmod 8) = true, decide ((1 : Int) < t.tmod 8) = true, decide ((2 : Int) < t.tmod 8) = true, decide ((3 : Int) < t.tmod 8) = true, decide ((4 : Int) < t.tmod 8) = true, decide ((5 : Int) < t.tmod 8) = false]) :=
  run_parts (by kernel_rfl) (by kernel_rfl) (by kernel_rfl)
theorem bi_6 (k : Nat → Int) (t : Int) : runF gRg 900 [.br true, .br true, .br true, .br true, .br true, .br true, .br false] 36 [.agg (b32 k), .int .i64 t] [] [] = some (.int .i64 ((((((((bV (listF 32 k 0) t).tdiv 2).tdiv 2).tdiv 2).tdiv 2).tdiv 2).tdiv 2).tmod 2), [], [(t.tdiv 8).toNat < 32, 0 ≤ t.tdiv 8 ∧ t.tdiv 8 < ((32 : Nat) : Int), decide ((0 : Int) < t.tmod 8) = true, decide ((1 : Int) < t.tmod 8) = true, decide ((2 : Int) < t.tmod 8) = true, decide ((3 : Int) < t.tmod 8) = true, decide ((4 : Int) < t.tmod 8) = true, decide ((5 : Int) < t.tmod 8) = true, decide ((6 : Int) < t.tmod 8) = false]) :=
  run_parts (by kernel_rfl) (by kernel_rfl) (by kernel_rfl)
theorem bi_7 (k : Nat → Int) (t : Int) : runF gRg 900 [.br true, .br true, .br true, .br true, .br true, .br true, .br true, .br false] 36 [.agg (b32 k), .int .i64 t] [] [] = some (.int .i64 (((((((((bV (listF 32 k 0) t).tdiv 2).tdiv 2).tdiv 2).tdiv 2).tdiv 2).tdiv 2).tdiv 2).tmod 2), [], [(t.tdiv 8).toNat < 32, 0 ≤ t.tdiv 8 ∧ t.tdiv 8 < ((32 : Nat) : Int), decide ((0 : Int) < t.tmod 8) = true, decide ((1 : Int) < t.tmod 8) = true, decide ((2 : Int) < t.tmod 8) = true, decide ((3 : Int) < t.tmod 8) = true, decide ((4 : Int) < t.tmod 8) = true, decide ((5 : Int) < t.tmod 8) = true, decide ((6 : Int) < t.tmod 8) = true, decide ((7 : Int) < t.tmod 8) = false]) :=
  run_parts (by kernel_rfl) (by kernel_rfl) (by kernel_rfl)
def kbZ (l : List Int) (t : Int) : Int := l.getD (t / 8).toNat 0 / ((2 ^ (t % 8).toNat : Nat) : Int) % 2
def biF : SumF := fun args B => match args, B with
  | [.agg ks, .int .i64 t], [] => match numsAs (List.replicate 32 .u8) ks with
    | some l => some { val := .int .i64 (kbZ l t), C := [0 ≤ t ∧ t < 256] }
    | none => none
  | _, _ => none
theorem acc_bi : Acc gRg 36 biF := by
  intro args B out h hC
  unfold biF at h
  split at h
  · rename_i ks t
    split at h
    · rename_i l hl
      simp only [Option.some.injEq] at h; subst h
      have ht : 0 ≤ t ∧ t < 256 := hC _ (by simp)
      refine FnOk.imp (args' := [.agg (b32 (atL l)), .int .i64 t]) ?_ ⟨nums_imp hl, DenImp.refl _, trivial⟩
      refine FnOk.facts fun ⟨f, _⟩ => ?_
      have hb := facts8 f
      have e8 : t.tdiv 8 = t / 8 := Int.tdiv_eq_ediv_of_nonneg ht.1
      have m8 : t.tmod 8 = t % 8 := Int.tmod_eq_emod_of_nonneg ht.1
      have hj : (t / 8).toNat < 32 := by omega
      have hv : bV (listF 32 (atL l) 0) t = l.getD (t / 8).toNat 0 := by
        unfold bV
        rw [e8]
        exact atL_listF (a := atL l) hj
      have hv0 : 0 ≤ bV (listF 32 (atL l) 0) t := by rw [hv]; exact (hb _ hj).1
      have c1 : (t.tdiv 8).toNat < 32 := by rw [e8]; exact hj
      have c2 : 0 ≤ t.tdiv 8 ∧ t.tdiv 8 < ((32 : Nat) : Int) := by rw [e8]; omega
      have two : ∀ {x : Int}, 0 ≤ x → x.tdiv 2 = x / 2 ∧ 0 ≤ x / 2 := fun h => ⟨Int.tdiv_eq_ediv_of_nonneg h, by omega⟩
      have last : ∀ {x : Int}, 0 ≤ x → x.tmod 2 = x % 2 := fun h => Int.tmod_eq_emod_of_nonneg h
      unfold kbZ
      rw [← hv]
      generalize hx : bV (listF 32 (atL l) 0) t = v at *
      obtain ⟨v1, p1⟩ := two hv0
      obtain ⟨v2, p2⟩ := two p1
      obtain ⟨v3, p3⟩ := two p2
      obtain ⟨v4, p4⟩ := two p3
      obtain ⟨v5, p5⟩ := two p4
      obtain ⟨v6, p6⟩ := two p5
      obtain ⟨v7, p7⟩ := two p6
      have hr : t % 8 = 0 ∨ t % 8 = 1 ∨ t % 8 = 2 ∨ t % 8 = 3 ∨ t % 8 = 4 ∨ t % 8 = 5 ∨ t % 8 = 6 ∨ t % 8 = 7 := by omega
      rcases hr with hr | hr | hr | hr | hr | hr | hr | hr
      · have hrun := bi_0 (atL l) t
        rw [hx, last hv0] at hrun
        have e2 : v / ((2 ^ (t % 8).toNat : Nat) : Int) % 2 = v % 2 := by
          rw [hr]
          have e : ((2 ^ (0 : Int).toNat : Nat) : Int) = 1 := rfl
          rw [e]
          all_goals omega
        rw [e2]
        refine FnOk.pure gRg_ok hrun ?_
        simp only [allC_cons, allC_nil, and_true, m8]
        exact ⟨c1, c2, decide_eq_false (by omega)⟩
      · have hrun := bi_1 (atL l) t
        rw [hx, v1, last p1] at hrun
        have e2 : v / ((2 ^ (t % 8).toNat : Nat) : Int) % 2 = v / 2 % 2 := by
          rw [hr]
          have e : ((2 ^ (1 : Int).toNat : Nat) : Int) = 2 := rfl
          rw [e]
          all_goals omega
        rw [e2]
        refine FnOk.pure gRg_ok hrun ?_
        simp only [allC_cons, allC_nil, and_true, m8]
        exact ⟨c1, c2, decide_eq_true (by omega), decide_eq_false (by omega)⟩
      · have hrun := bi_2 (atL l) t
        rw [hx, v1, v2, last p2] at hrun
        have e2 : v / ((2 ^ (t % 8).toNat : Nat) : Int) % 2 = v / 2 / 2 % 2 := by
          rw [hr]
          have e : ((2 ^ (2 : Int).toNat : Nat) : Int) = 4 := rfl
          rw [e]
          all_goals omega
        rw [e2]
        refine FnOk.pure gRg_ok hrun ?_
        simp only [allC_cons, allC_nil, and_true, m8]
        exact ⟨c1, c2, decide_eq_true (by omega), decide_eq_true (by omega), decide_eq_false (by omega)⟩
      · have hrun := bi_3 (atL l) t
        rw [hx, v1, v2, v3, last p3] at hrun
        have e2 : v / ((2 ^ (t % 8).toNat : Nat) : Int) % 2 = v / 2 / 2 / 2 % 2 := by
          rw [hr]
          have e : ((2 ^ (3 : Int).toNat : Nat) : Int) = 8 := rfl
          rw [e]
          all_goals omega
        rw [e2]
        refine FnOk.pure gRg_ok hrun ?_
        simp only [allC_cons, allC_nil, and_true, m8]
        exact ⟨c1, c2, decide_eq_true (by omega), decide_eq_true (by omega), decide_eq_true (by omega), decide_eq_false (by omega)⟩
      · have hrun := bi_4 (atL l) t
        rw [hx, v1, v2, v3, v4, last p4] at hrun
        have e2 : v / ((2 ^ (t % 8).toNat : Nat) : Int) % 2 = v / 2 / 2 / 2 / 2 % 2 := by
          rw [hr]
          have e : ((2 ^ (4 : Int).toNat : Nat) : Int) = 16 := rfl
          rw [e]
          all_goals omega
        rw [e2]
        refine FnOk.pure gRg_ok hrun ?_
        simp only [allC_cons, allC_nil, and_true, m8]
        exact ⟨c1, c2, decide_eq_true (by omega), decide_eq_true (by omega), decide_eq_true (by omega), decide_eq_true (by omega), decide_eq_false (by omega)⟩
      · have hrun := bi_5 (atL l) t
        rw [hx, v1, v2, v3, v4, v5, last p5] at hrun
        have e2 : v / ((2 ^ (t % 8).toNat : Nat) : Int) % 2 = v / 2 / 2 / 2 / 2 / 2 % 2 := by
          rw [hr]
          have e : ((2 ^ (5 : Int).toNat : Nat) : Int) = 32 := rfl
          rw [e]
          all_goals omega
        rw [e2]
        refine FnOk.pure gRg_ok hrun ?_
        simp only [allC_cons, allC_nil, and_true, m8]
        exact ⟨c1, c2, decide_eq_true (by omega), decide_eq_true (by omega), decide_eq_true (by omega), decide_eq_true (by omega), decide_eq_true (by omega), decide_eq_false (by omega)⟩
      · have hrun := bi_6 (atL l) t
        rw [hx, v1, v2, v3, v4, v5, v6, last p6] at hrun
        have e2 : v / ((2 ^ (t % 8).toNat : Nat) : Int) % 2 = v / 2 / 2 / 2 / 2 / 2 / 2 % 2 := by
          rw [hr]
          have e : ((2 ^ (6 : Int).toNat : Nat) : Int) = 64 := rfl
          rw [e]
          all_goals omega
        rw [e2]
        refine FnOk.pure gRg_ok hrun ?_
        simp only [allC_cons, allC_nil, and_true, m8]
        exact ⟨c1, c2, decide_eq_true (by omega), decide_eq_true (by omega), decide_eq_true (by omega), decide_eq_true (by omega), decide_eq_true (by omega), decide_eq_true (by omega), decide_eq_false (by omega)⟩
      · have hrun := bi_7 (atL l) t
        rw [hx, v1, v2, v3, v4, v5, v6, v7, last p7] at hrun
        have e2 : v / ((2 ^ (t % 8).toNat : Nat) : Int) % 2 = v / 2 / 2 / 2 / 2 / 2 / 2 / 2 % 2 := by
          rw [hr]
          have e : ((2 ^ (7 : Int).toNat : Nat) : Int) = 128 := rfl
          rw [e]
          all_goals omega
        rw [e2]
        refine FnOk.pure gRg_ok hrun ?_
        simp only [allC_cons, allC_nil, and_true, m8]
        exact ⟨c1, c2, decide_eq_true (by omega), decide_eq_true (by omega), decide_eq_true (by omega), decide_eq_true (by omega), decide_eq_true (by omega), decide_eq_true (by omega), decide_eq_true (by omega), decide_eq_false (by omega)⟩
    · simp at h
  · simp at h
noncomputable abbrev gRh : Ctx := gRg.add [(36, biF)]
theorem gRh_ok : CtxU gRh := gRg_ok.add mixed noGo (by
  intro x hx
  simp only [List.mem_cons, List.not_mem_nil, or_false] at hx
  rcases hx with rfl
  exact acc_bi)
end Go.Proofs.Ytjkenobomlbdcaa
