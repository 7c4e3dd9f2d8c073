/- Accounts of this seat's functions: lemmas, no statement of their own. No conditions. -/
import Derived.Test.YtjkenobomlbdcaaV4
import Derived.Test.YtjkenobomlbdcaaTD
namespace Go.Proofs.Ytjkenobomlbdcaa
open Go Go.Vx
/-! ### Invert -/
noncomputable abbrev u5 (x : Nat → Int) : List SV := svF (List.replicate 5 .u64) x 0
abbrev sqL (x : Nat → Int) : Nat → Int := fmulN (listF 5 x 0) (listF 5 x 0)
abbrev ivL (a x : Nat → Int) : Nat → Int := fmulN (listF 5 (sqL x) 0) (listF 5 a 0)
def ivN (a x : Nat → Int) : Nat → Nat → Int
  | 0 => x
  | n + 1 => ivL a (ivN a x n)
abbrev ivKeep : List Nat := [3, 4, 5, 9]
noncomputable abbrev ivBody : Code := bodyAt Try.prog 29 4
abbrev ivS (i : Nat) : List (Nat × SV) := ivKeep.zip [.ptr 0 0, .ptr 1 0, .ptr 2 0, .int .i64 (i : Int)]
noncomputable abbrev ivB (a z x : Nat → Int) : List Body := [.cells (u5 a), .cells (u5 z), .cells (u5 x)]
theorem iv_go (i : Nat) (a z x : Nat → Int) : runC gE 300 37 [.br true] ivBody (ivS i) (ivB a z x) ivKeep [0, 1, 2] =
    some (.normal, [.ptr 0 0, .ptr 1 0, .ptr 2 0, .int .i64 ((i : Int) + 1)], (ivB a z (ivL a x)).map some, [decide ((i : Int) < 249) = true, Fits .i64 ((i : Int) + 1)]) := by kernel_rfl
theorem iv_end (i : Nat) (a z x : Nat → Int) : runC gE 300 37 [.br false] ivBody (ivS i) (ivB a z x) ivKeep [0, 1, 2] =
    some (.exit 0, [.ptr 0 0, .ptr 1 0, .ptr 2 0, .int .i64 (i : Int)], (ivB a z x).map some, [decide ((i : Int) < 249) = false]) := by kernel_rfl
noncomputable def ivG : LoopF := fun vals B => match vals, B with
  | [.ptr 0 0, .ptr 1 0, .ptr 2 0, .int .i64 0], [.cells es, .cells zs, .cells xs] => match numsAs (List.replicate 5 .u64) es, numsAs (List.replicate 5 .u64) zs, numsAs (List.replicate 5 .u64) xs with
    | some la, some lz, some lx => some ([(3, .ptr 0 0), (4, .ptr 1 0), (5, .ptr 2 0)], ivB (atL la) (atL lz) (ivN (atL la) (atL lx) 249), [])
    | _, _, _ => none
  | _, _ => none
theorem iv_loop : LoopGood gE 37 (.loop ivBody) ivKeep 3 (.exit 0) (mkLoopN ivG) := by
  refine LoopGood.mkN (by decide) fun vals B S' B' C hG hC hlen w0 O hgl => ?_
  clear hlen
  unfold ivG at hG
  split at hG
  · rename_i es zs xs
    split at hG
    · rename_i la lz lx ha hz hx
      simp only [Option.some.injEq, Prod.mk.injEq] at hG
      obtain ⟨rfl, rfl, rfl⟩ := hG
      have i3 : ∀ j : Nat, j < 3 → ([0, 1, 2] : List Nat)[j]? = some j := fun j hj => by
        match j, hj with
        | 0, _ => rfl
        | 1, _ => rfl
        | 2, _ => rfl
      refine SimC.preI (B1 := ivB (atL la) (atL lz) (atL lx)) ?_ ⟨cells_nums ha, cells_nums hz, cells_nums hx, trivial⟩
      refine SimC.iter (g := gE) (S := ivS) (B := fun i => ivB (atL la) (atL lz) (ivN (atL la) (atL lx) i)) (N := 249) (fun i hi => ?_) ?_ (by simp) 0 (by omega)
      · have F : Fits .i64 ((i : Int) + 1) := fits_of (by omega) (by omega)
        exact SimC.run (B' := ivB (atL la) (atL lz) (ivN (atL la) (atL lx) (i + 1))) gE_ok (by decide) (iv_go i _ _ _) (by (simp only [allC_cons, allC_nil, and_true]; repeat' (with_reducible (first | refine And.intro ?_ ?_ | exact True.intro | assumption | omega | exact decide_eq_true (by first | assumption | omega) | exact decide_eq_false (by first | assumption | omega) | rfl | (simp; done))))) (by decide) i3 (by decide) (by simp) hgl
      · exact SimC.weaken (SimC.run (B' := ivB (atL la) (atL lz) (ivN (atL la) (atL lx) 249)) gE_ok (by decide) (iv_end 249 _ _ _) (by (simp only [allC_cons, allC_nil, and_true]; repeat' (with_reducible (first | refine And.intro ?_ ?_ | exact True.intro | assumption | omega | exact decide_eq_true (by first | assumption | omega) | exact decide_eq_false (by first | assumption | omega) | rfl | (simp; done))))) (by decide) i3 (by decide) (by simp) hgl) (sub_mkT (by simp; exact ⟨rfl, rfl, rfl⟩))
    · simp at hG
  · simp at hG
/-- what Invert reckons -/
def finvN (la : List Int) : Nat → Int :=
  let a := atL (listF 5 (atL la) 0)
  ivL a (ivL a (sqL (ivL a (sqL (ivN a a 249)))))
theorem inv_run (la : List Int) : runF gE 600 [.loop 4 ivKeep 3 (.exit 0) (mkLoopN ivG)] 29 [.raw (.pointer none), .agg (svF (List.replicate 5 .u64) (atL la) 0)] [] [] = some (.agg (svF (List.replicate 5 .u64) (finvN la) 0), [], [LoopGood gE 37 (.loop ivBody) ivKeep 3 (.exit 0) (mkLoopN ivG)]) :=
  run_parts (by kernel_rfl) (by kernel_rfl) (by kernel_rfl)
theorem inv_log (la : List Int) (l : List (List Int)) : runF gE 600 [.loop 4 ivKeep 3 (.exit 0) (mkLoopN ivG)] 29 [.ptr 0 0, .agg (svF (List.replicate 5 .u64) (atL la) 0)] [.log l] [] = some (.agg (svF (List.replicate 5 .u64) (finvN la) 0), [some (.log (l ++ [[3, 6]]))], [l.length < 1099511627776, LoopGood gE 37 (.loop ivBody) ivKeep 3 (.exit 0) (mkLoopN ivG)]) :=
  run_parts (by kernel_rfl) (by kernel_rfl) (by kernel_rfl)
theorem acc_inv : Acc gE 29 (unF 6 finvN []) := un_ok gE_ok (D := [LoopGood gE 37 (.loop ivBody) ivKeep 3 (.exit 0) (mkLoopN ivG)]) (by simp only [allC_cons, allC_nil, and_true]; exact iv_loop) (fun la => ⟨_, inv_run la⟩) (fun la l => ⟨_, inv_log la l⟩)
noncomputable abbrev gF : Ctx := gE.add [(45, binF 1 faddN), (47, binF 2 fsubN), (28, binF 3 fmulN), (46, unF 4 (fun la => fmulN (listF 5 (atL la) 0) (listF 5 (atL la) 0)) []), (48, scF), (29, unF 6 finvN [])]
theorem gF_ok : CtxU gF := gE_ok.add mixed noGo (by
  intro x hx
  simp only [List.mem_cons, List.not_mem_nil, or_false] at hx
  rcases hx with rfl | rfl | rfl | rfl | rfl | rfl
  · exact acc_add
  · exact acc_sub
  · exact acc_mul
  · exact acc_sq
  · exact acc_sc
  · exact acc_inv)
/-! ### what the limbs are -/
abbrev L5 (f : Nat → Int) : List Int := listF 5 f 0
abbrev BS (x : List Int) : List Int := listF 32 (fencN x) 0
/-- limbs of n -/
def Is (x : List Int) (n : Int) : Prop := FS x ∧ W5 (atL x) % Q = n % Q
theorem q_mod (n q : Int) : (n - Q * q) % Q = n % Q := Int.sub_mul_emod_self_left n Q q
theorem is_add {x y : List Int} {n m : Int} (hx : Is x n) (hy : Is y m) : Is (L5 (faddN x y)) (n + m) := by
  obtain ⟨h1, h2⟩ := fadd_spec hx.1 hy.1
  obtain ⟨h3, q, h4⟩ := fcar_spec h1
  refine ⟨h3, ?_⟩
  show W5 (fcarN (faddL (atL x) (atL y))) % Q = _
  rw [h4, q_mod, h2, Int.add_emod, hx.2, hy.2, ← Int.add_emod]
theorem is_sub {x y : List Int} {n m : Int} (hx : Is x n) (hy : Is y m) : Is (L5 (fsubN x y)) (n - m) := by
  obtain ⟨h1, h2⟩ := fsub_spec hx.1 hy.1
  obtain ⟨h3, q, h4⟩ := fcar_spec h1
  refine ⟨h3, ?_⟩
  show W5 (fcarN (fsubL (atL x) (atL y))) % Q = _
  rw [h4, q_mod, h2, show W5 (atL x) - W5 (atL y) + 2 * Q = W5 (atL x) - W5 (atL y) - Q * (-2) by omega, q_mod, Int.sub_emod, hx.2, hy.2, ← Int.sub_emod]
theorem is_mul {x y : List Int} {n m : Int} (hx : Is x n) (hy : Is y m) : Is (L5 (fmulN x y)) (n * m) := by
  obtain ⟨h3, q, h4⟩ := fmul_spec hx.1 hy.1
  refine ⟨h3, ?_⟩
  show W5 (fmulN x y) % Q = _
  rw [h4, q_mod, Int.mul_emod, hx.2, hy.2, ← Int.mul_emod]
theorem is_scl {x : List Int} {n m : Int} (hx : Is x n) (hm : 0 ≤ m ∧ m < 4294967296) : Is (L5 (fsclN x m)) (n * m) := by
  obtain ⟨h3, q, h4⟩ := fscl_spec hx.1 hm
  refine ⟨h3, ?_⟩
  show W5 (fsclN x m) % Q = _
  rw [h4, q_mod, Int.mul_emod, hx.2, ← Int.mul_emod]
theorem is_dec {l : List Int} (h : ∀ i, i < 32 → Byte (atL l i)) : Is (L5 (fdecN l)) (leN 32 (atL l) 0 % 57896044618658097711785492504343953926634992332820282019728792003956564819968) := by
  obtain ⟨h1, h2⟩ := fdec_spec h
  refine ⟨h1, ?_⟩
  show W5 (atL (fdecL (atL l))) % Q = _
  rw [h2]
theorem is_list {x : List Int} {n : Int} (h : Is x n) : Is (listF 5 (atL x) 0) n := h
theorem bytes_eq {x : List Int} {n : Int} (hx : Is x n) : BS x = listF 32 (byteN (n % Q)) 0 := by
  rw [← hx.2]; exact fenc_spec hx.1
theorem eq_of {x y : List Int} {n m : Int} (hx : Is x n) (hy : Is y m) (h : n % Q = m % Q) : BS x = BS y := by
  rw [bytes_eq hx, bytes_eq hy, h]
theorem ne_of {x y : List Int} {n m : Int} (hx : Is x n) (hy : Is y m) (h : BS x = BS y) : n % Q = m % Q := by
  rw [bytes_eq hx, bytes_eq hy] at h
  have e : ∀ N : Int, 0 ≤ N → N < Q → leN 32 (atL (listF 32 (byteN N) 0)) 0 = N := fun N h0 h1 => by
    have e1 : leN 32 (atL (listF 32 (byteN N) 0)) 0 = leN 32 (byteN N) 0 := rfl
    rw [e1, leN_byte]
    have e2 : ((256 ^ 32 : Nat) : Int) = 115792089237316195423570985008687907853269984665640564039457584007913129639936 := rfl
    have e3 : ((256 ^ 0 : Nat) : Int) = 1 := rfl
    rw [e2, e3]
    unfold Q at h1
    omega
  have q0 : Q ≠ 0 := by decide
  have qp : 0 < Q := by decide
  rw [← e (n % Q) (Int.emod_nonneg _ q0) (Int.emod_lt_of_pos _ qp), ← e (m % Q) (Int.emod_nonneg _ q0) (Int.emod_lt_of_pos _ qp), h]
theorem is_iv {a : Nat → Int} {n : Int} (ha : Is (listF 5 a 0) n) : ∀ k, Is (listF 5 (ivN a a k) 0) (pwN n k)
  | 0 => ha
  | k + 1 => is_mul (is_mul (is_iv ha k) (is_iv ha k)) ha
theorem is_inv {x : List Int} {n : Int} (hx : Is x n) : Is (L5 (finvN x)) (invP n) := by
  have h := is_iv (a := atL (listF 5 (atL x) 0)) (n := n) hx 249
  have h1 := is_mul h h
  have h2 := is_mul (is_mul h1 h1) (is_list hx)
  have h3 := is_mul h2 h2
  have h4 := is_mul (is_mul h3 h3) (is_list hx)
  exact is_mul (is_mul h4 h4) (is_list hx)
end Go.Proofs.Ytjkenobomlbdcaa
