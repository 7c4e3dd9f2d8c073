/- Accounts of this seat's functions: lemmas, no statement of their own. No conditions. -/
import Derived.Test.YtejcjdhplpjpjaaTPc
namespace Go.Proofs.Ytejcjdhplpjpjaa
open Go Go.Vx
/-! ### least: the account -/
abbrev lL1 (l : List Int) : List Int := listF l.length (byteN (valL l)) 0
abbrev lR (l : List Int) : Int := redF 3 (valL (lL1 l))
abbrev lL2 (l : List Int) : List Int := listF 17 (byteN (lR l)) 0
abbrev ldC (L : List Int) (j : Nat) : List Prop := [L.length = L.length, (0 : Int) ≤ (j : Int), L.length ≤ 1000000]
noncomputable abbrev leC (n : Nat) (l : List Int) (t : List Prop) : List Prop := [n = l.length, l.length ≤ 1000000, ∀ j, j < l.length → 0 ≤ atL l j ∧ atL l j ≤ 1152921504606846976, valL l < ((256 ^ l.length : Nat) : Int), LoopGood gi 54 (.loop rdBody) rdKeep 1 (.exit 0) (mkLoopN rdG), 17 ≤ (lL1 l).length, (lL1 l).length ≤ 33, ∀ j, j < (lL1 l).length → Byte (atL (lL1 l) j), valL (lL1 l) < E130 * E130, LoopGood gi 54 (.loop hgBody) hgKeep 2 (.exit 2) (mkLoopN hgG), (lL2 l).length = 17, ∀ j, j < (lL2 l).length → Byte (atL (lL2 l) j)] ++ ((List.range 17).flatMap (ldC (lL2 l)) ++ t)
noncomputable abbrev lePl : List Plan := [.loop 3 rdKeep 1 (.exit 0) (mkLoopN rdG), .loop 7 hgKeep 2 (.exit 2) (mkLoopN hgG)]
theorem le_tt (n : Nat) (l : List Int) : runF gi 600 (lePl ++ [.br true, .br true]) 61 [.sl 0 0 0 1 0 n false] [.ints .i64 l] [] =
    some (.agg (.int .i64 ((lL2 l).getD 0 0 - 251) :: List.replicate 16 (.lit .i64 0)), [some (.ints .i64 l)], leC n l [hiF (valL (lL2 l)) 16 = true, decide (251 ≤ (lL2 l).getD 0 0) = true, Fits .i64 ((lL2 l).getD 0 0 - 251)]) :=
  run_parts (by kernel_rfl) (by kernel_rfl) (by kernel_rfl)
theorem le_tf (n : Nat) (l : List Int) : runF gi 600 (lePl ++ [.br true, .br false]) 61 [.sl 0 0 0 1 0 n false] [.ints .i64 l] [] =
    some (.agg (svF (List.replicate 17 .i64) (leastR (lR l) true false) 0), [some (.ints .i64 l)], leC n l [hiF (valL (lL2 l)) 16 = true, decide (251 ≤ (lL2 l).getD 0 0) = false]) :=
  run_parts (by kernel_rfl) (by kernel_rfl) (by kernel_rfl)
theorem le_f (n : Nat) (l : List Int) : runF gi 600 (lePl ++ [.br false]) 61 [.sl 0 0 0 1 0 n false] [.ints .i64 l] [] =
    some (.agg (svF (List.replicate 17 .i64) (leastR (lR l) false false) 0), [some (.ints .i64 l)], leC n l [hiF (valL (lL2 l)) 16 = false]) :=
  run_parts (by kernel_rfl) (by kernel_rfl) (by kernel_rfl)
noncomputable abbrev num4 (N : Int) : SV := .agg (svF (List.replicate 17 .i64) (byteN N) 0)
noncomputable def leF : SumF := fun args B => match args, B with
  | [x], [.ints K l] => match vwI 0 l x, sameK K .i64 with
    | some (0, n), true => some { val := num4 (valL l % P5), C := [n = l.length, 17 ≤ l.length, l.length ≤ 33, ∀ j, j < l.length → 0 ≤ atL l j ∧ atL l j ≤ 1152921504606846976, valL l < E130 * E130, valL l < ((256 ^ l.length : Nat) : Int)] }
    | _, _ => none
  | _, _ => none
theorem svF_ext {ks : List IntKind} {a b : Nat → Int} (h : ∀ j, a j = b j) : svF ks a 0 = svF ks b 0 := by rw [funext h]
theorem le_acc : Acc gi 61 leF := by
  intro args B out h hC
  unfold leF at h
  split at h
  · rename_i x K l
    split at h
    · rename_i n hx hK
      obtain rfl := kidx_inj hK
      simp only [Option.some.injEq] at h; subst h
      simp only [allC_cons, allC_nil, and_true] at hC
      obtain ⟨rfl, h1, h2, h3, h4, h5⟩ := hC
      refine FnOk.argsH (args' := [.sl 0 0 0 1 0 l.length false]) ?_ (fun w0 O ρ Φ w vs x d => by
        simp only [DenT] at d ⊢
        obtain ⟨v1, r1, rfl, d1, rfl⟩ := d
        exact ⟨_, _, rfl, vwI_den hx x rfl d1, rfl⟩)
      have hp : 0 ≤ valL l := leN_pos l.length 0 fun j hj => by rw [Nat.zero_add]; exact (h3 j hj).1
      have e1 : valL (lL1 l) = valL l := val_bytes hp h5
      have el : (lL1 l).length = l.length := listF_length _ _ _
      obtain ⟨r1, r2, r3⟩ := redF_spec 3 (by omega) hp h4
      have eR : lR l = redF 3 (valL l) := by rw [lR, e1]
      have e2 : valL (lL2 l) = lR l := val_bytes (by rw [eR]; exact r1) (by rw [eR]; exact Int.lt_trans r2 (by decide))
      have l2 : (lL2 l).length = 17 := listF_length _ _ _
      have g0 : (lL2 l).getD 0 0 = byteN (lR l) 0 := atLF (by decide)
      have bd := least_bytes (V := lR l) (by rw [eR]; exact r1) (by rw [eR]; exact r2)
      have e3 : lR l % P5 = valL l % P5 := by rw [eR, r3]
      rw [e3] at bd
      have hL1 := rd_loop
      have hL2 := hg_loop
      have hb0 : 0 ≤ byteN (lR l) 0 ∧ byteN (lR l) 0 < 256 := ⟨Int.emod_nonneg _ (by decide), Int.emod_lt_of_pos _ (by decide)⟩
      have base : ∀ t, AllC t → AllC (leC l.length l t) := fun t ht => by
        rw [leC, allC_append, allC_append]
        refine ⟨?_, ?_, ht⟩
        · simp only [allC_cons, allC_nil, and_true]
          exact ⟨trivial, by omega, h3, h5, hL1, by omega, by omega, fun j hj => Go.Vx.bytes_list j hj, by rw [e1]; exact h4, hL2, l2, fun j hj => Go.Vx.bytes_list j hj⟩
        · intro c hc
          obtain ⟨j, hj, hc⟩ := List.mem_flatMap.1 hc
          simp only [ldC, List.mem_cons, List.not_mem_nil, or_false] at hc
          rcases hc with rfl | rfl | rfl
          · trivial
          · omega
          · omega
      have fin : ∀ {b c pl t}, hiF (lR l) 16 = b → decide (251 ≤ byteN (lR l) 0) = c → AllC t → runF gi 600 pl 61 [.sl 0 0 0 1 0 l.length false] [.ints .i64 l] [] = some (.agg (svF (List.replicate 17 .i64) (leastR (lR l) b c) 0), [some (.ints .i64 l)], leC l.length l t) → FnOk gi 61 [.sl 0 0 0 1 0 l.length false] [.ints .i64 l] { val := num4 (valL l % P5) } := by
        intro b c pl t hb hc ht hr
        subst hb; subst hc
        rw [svF_ext bd] at hr
        exact FnOk.run (out := { val := num4 (valL l % P5) }) (new := []) gi_ok hr (base t ht) (by simp [upto]) rfl (by simp) (by simp) (fun j hj => by match j, hj with | 0, _ => rfl)
      refine FnOk.val (C := []) (rd := []) ?_ (fun _ _ _ _ h => h)
      cases hb : hiF (lR l) 16 with
      | false =>
        have hr := le_f l.length l
        have e : leastR (lR l) false false = leastR (lR l) false (decide (251 ≤ byteN (lR l) 0)) := by unfold leastR; rfl
        rw [e] at hr
        exact fin hb rfl (by simp only [allC_cons, allC_nil, and_true]; rw [e2]; exact hb) hr
      | true =>
        cases hc : decide (251 ≤ byteN (lR l) 0) with
        | true =>
          have := of_decide_eq_true hc
          have hz : svF (List.replicate 17 .i64) (leastR (lR l) true true) 0 = normL (.int .i64 (byteN (lR l) 0 - 251) :: List.replicate 16 (.lit .i64 0)) := rfl
          rw [hb, hc] at bd
          have hr := le_tt l.length l
          rw [g0] at hr
          refine FnOk.val (FnOk.run (out := { val := .agg (.int .i64 (byteN (lR l) 0 - 251) :: List.replicate 16 (.lit .i64 0)) }) (new := []) gi_ok hr (base _ (by simp only [allC_cons, allC_nil, and_true]; rw [e2]; exact ⟨hb, hc, fits_of (by omega) (by omega)⟩)) (by simp [upto]) rfl (by simp) (by simp) (fun j hj => by match j, hj with | 0, _ => rfl)) (fun _ _ _ _ h => ?_)
          have h2 := denV_norm h
          simp only [normC] at h2
          rw [← hz, svF_ext bd] at h2
          exact h2
        | false => exact fin hb hc (by simp only [allC_cons, allC_nil, and_true]; rw [e2, g0]; exact ⟨hb, hc⟩) (le_tf l.length l)
    · simp at h
  · simp at h
noncomputable abbrev gj : Ctx := gi.add [(61, leF)]
theorem gj_ok : CtxU gj := gi_ok.add mixed noGo (by
  intro x hx
  simp only [List.mem_cons, List.not_mem_nil, or_false] at hx
  rcases hx with rfl
  exact le_acc)
end Go.Proofs.Ytejcjdhplpjpjaa
