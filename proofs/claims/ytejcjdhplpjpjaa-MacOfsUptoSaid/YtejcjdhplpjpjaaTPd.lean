/- Accounts of this seat's functions: lemmas, no statement of their own. No conditions. -/
import Derived.Test.YtejcjdhplpjpjaaTPa
namespace Go.Proofs.Ytejcjdhplpjpjaa
open Go Go.Vx
/-! ### fold -/
abbrev foKeep : List Nat := [0, 4, 6, 7]
noncomputable abbrev foBody : Code := bodyAt Try.prog 72 9
noncomputable abbrev foS (n : Nat) (b : Bool) (i : Int) : List (Nat × SV) := foKeep.zip [.sl 0 0 0 1 0 n false, .sl 1 17 0 1 0 17 true, .sbool b, .int .i64 i]
theorem fo_go0 (n : Nat) (b : Bool) (i : Int) (l o : List Int) : runC gh 200 70 [.br true, .br false, .br false] foBody (foS n b i) [.ints .i64 l, .ints .i64 o] foKeep [0, 1] =
    some (Ex.normal, [SV.sl (0 : Nat) (0 : Nat) (0 : Nat) (1 : Nat) (0 : Nat) n false, SV.sl (1 : Nat) (17 : Nat) (0 : Nat) (1 : Nat) (0 : Nat) (17 : Nat) true, SV.sbool (decide ((0 : Int) < (l.getD i.toNat (0 : Int)).tdiv ((4 : Int)) + (l.getD (i + (1 : Int)).toNat (0 : Int)).tmod ((4 : Int)) * (64 : Int))), SV.int IntKind.i64 (i + (1 : Int))], [some (Body.ints IntKind.i64 l), some (Body.ints IntKind.i64 (o.set ((0 : Nat) + (i - (16 : Int)).toNat + (0 : Nat)) (o.getD ((0 : Nat) + (i - (16 : Int)).toNat + (0 : Nat)) (0 : Int) + (5 : Int) * ((l.getD i.toNat (0 : Int)).tdiv (4 : Int) + (l.getD (i + (1 : Int)).toNat (0 : Int)).tmod (4 : Int) * (64 : Int)))))], [Fits IntKind.i64 (↑n : Int), decide (i < (↑n : Int)) = true, Fits IntKind.i64 ((l.getD i.toNat (0 : Int)).tdiv (4 : Int) + (l.getD (i + (1 : Int)).toNat (0 : Int)).tmod (4 : Int) * (64 : Int)), Fits IntKind.i64 ((l.getD (i + (1 : Int)).toNat (0 : Int)).tmod (4 : Int) * (64 : Int)), n = l.length, (0 : Int) ≤ i + (1 : Int), l.length ≤ (1000000 : Nat), Fits IntKind.i64 (i + (1 : Int)), n = l.length, (0 : Int) ≤ i, l.length ≤ (1000000 : Nat), Fits IntKind.i64 (i - (16 : Int)), decide ((17 : Int) ≤ i - (16 : Int)) = false, (0 : Nat) + (i - (16 : Int)).toNat + (0 : Nat) < o.length, (0 : Int) ≤ i - (16 : Int) ∧ i - (16 : Int) < (↑(17 : Nat) : Int), Fits IntKind.i64 (o.getD ((0 : Nat) + (i - (16 : Int)).toNat + (0 : Nat)) (0 : Int) + (5 : Int) * ((l.getD i.toNat (0 : Int)).tdiv (4 : Int) + (l.getD (i + (1 : Int)).toNat (0 : Int)).tmod (4 : Int) * (64 : Int))), Fits IntKind.i64 ((5 : Int) * ((l.getD i.toNat (0 : Int)).tdiv (4 : Int) + (l.getD (i + (1 : Int)).toNat (0 : Int)).tmod (4 : Int) * (64 : Int))), (0 : Nat) + (i - (16 : Int)).toNat + (0 : Nat) < o.length, (0 : Int) ≤ i - (16 : Int) ∧ i - (16 : Int) < (↑(17 : Nat) : Int), Fits IntKind.i64 (i - (16 : Int)), Fits IntKind.i64 (i - (16 : Int)), b = false, Fits IntKind.i64 (i + (1 : Int))]) := by kernel_rfl
theorem fo_go1 (n : Nat) (b : Bool) (i : Int) (l o : List Int) : runC gh 200 70 [.br true, .br false, .br true] foBody (foS n b i) [.ints .i64 l, .ints .i64 o] foKeep [0, 1] =
    some (Ex.normal, [SV.sl (0 : Nat) (0 : Nat) (0 : Nat) (1 : Nat) (0 : Nat) n false, SV.sl (1 : Nat) (17 : Nat) (0 : Nat) (1 : Nat) (0 : Nat) (17 : Nat) true, SV.bool true, SV.int IntKind.i64 (i + (1 : Int))], [some (Body.ints IntKind.i64 l), some (Body.ints IntKind.i64 (o.set ((0 : Nat) + (i - (16 : Int)).toNat + (0 : Nat)) (o.getD ((0 : Nat) + (i - (16 : Int)).toNat + (0 : Nat)) (0 : Int) + (5 : Int) * ((l.getD i.toNat (0 : Int)).tdiv (4 : Int) + (l.getD (i + (1 : Int)).toNat (0 : Int)).tmod (4 : Int) * (64 : Int)))))], [Fits IntKind.i64 (↑n : Int), decide (i < (↑n : Int)) = true, Fits IntKind.i64 ((l.getD i.toNat (0 : Int)).tdiv (4 : Int) + (l.getD (i + (1 : Int)).toNat (0 : Int)).tmod (4 : Int) * (64 : Int)), Fits IntKind.i64 ((l.getD (i + (1 : Int)).toNat (0 : Int)).tmod (4 : Int) * (64 : Int)), n = l.length, (0 : Int) ≤ i + (1 : Int), l.length ≤ (1000000 : Nat), Fits IntKind.i64 (i + (1 : Int)), n = l.length, (0 : Int) ≤ i, l.length ≤ (1000000 : Nat), Fits IntKind.i64 (i - (16 : Int)), decide ((17 : Int) ≤ i - (16 : Int)) = false, (0 : Nat) + (i - (16 : Int)).toNat + (0 : Nat) < o.length, (0 : Int) ≤ i - (16 : Int) ∧ i - (16 : Int) < (↑(17 : Nat) : Int), Fits IntKind.i64 (o.getD ((0 : Nat) + (i - (16 : Int)).toNat + (0 : Nat)) (0 : Int) + (5 : Int) * ((l.getD i.toNat (0 : Int)).tdiv (4 : Int) + (l.getD (i + (1 : Int)).toNat (0 : Int)).tmod (4 : Int) * (64 : Int))), Fits IntKind.i64 ((5 : Int) * ((l.getD i.toNat (0 : Int)).tdiv (4 : Int) + (l.getD (i + (1 : Int)).toNat (0 : Int)).tmod (4 : Int) * (64 : Int))), (0 : Nat) + (i - (16 : Int)).toNat + (0 : Nat) < o.length, (0 : Int) ≤ i - (16 : Int) ∧ i - (16 : Int) < (↑(17 : Nat) : Int), Fits IntKind.i64 (i - (16 : Int)), Fits IntKind.i64 (i - (16 : Int)), b = true, Fits IntKind.i64 (i + (1 : Int))]) := by kernel_rfl
theorem fo_end (n : Nat) (b : Bool) (i : Int) (l o : List Int) : runC gh 200 70 [.br false] foBody (foS n b i) [.ints .i64 l, .ints .i64 o] foKeep [0, 1] =
    some (Ex.exit (2 : Nat), [SV.sl (0 : Nat) (0 : Nat) (0 : Nat) (1 : Nat) (0 : Nat) n false, SV.sl (1 : Nat) (17 : Nat) (0 : Nat) (1 : Nat) (0 : Nat) (17 : Nat) true, SV.sbool b, SV.int IntKind.i64 i], [some (Body.ints IntKind.i64 l), some (Body.ints IntKind.i64 o)], [Fits IntKind.i64 (↑n : Int), decide (i < (↑n : Int)) = false]) := by kernel_rfl
def foG : LoopF := fun vals B => match vals, B with
  | [.sl 0 0 0 1 0 n false, .sl 1 17 0 1 0 17 true, .sbool false, .int .i64 16], [.ints K l, .ints K2 o] => match sameK K .i64, sameK K2 .i64 with
    | true, true => some ([(4, .sl 1 17 0 1 0 17 true), (6, .sbool (decide (0 < leN (l.length - 16) (hQ (atL l)) 16)))], [.ints .i64 l, .ints .i64 (listF 17 (lowS (atL l) (l.length - 16)) 0)], [n = l.length, 17 ≤ l.length, l.length ≤ 33, ∀ j, j < l.length → Byte (atL l j), o = listF 17 (lowS (atL l) 0) 0])
    | _, _ => none
  | _, _ => none
theorem b2' : ∀ j : Nat, j < 2 → ([0, 1] : List Nat)[j]? = some j := fun j hj => by
  match j, hj with
  | 0, _ => rfl
  | 1, _ => rfl
theorem fo_loop : LoopGood gh 70 (.loop foBody) foKeep 2 (.exit 2) (mkLoopN foG) := by
  refine LoopGood.mkN (by decide) fun vals B S' B' C hG hC hlen w0 O hgl => ?_
  clear hlen
  unfold foG at hG
  split at hG
  · rename_i n K l K2 o
    split at hG
    · rename_i hK hK2
      obtain rfl := kidx_inj hK
      obtain rfl := kidx_inj hK2
      simp only [Option.some.injEq, Prod.mk.injEq] at hG
      obtain ⟨rfl, rfl, rfl⟩ := hG
      simp only [allC_cons, allC_nil, and_true] at hC
      obtain ⟨rfl, h1, h2, h3, rfl⟩ := hC
      have hb := byte_zero rfl h3
      have F1 : Fits .i64 (l.length : Int) := Go.Vx.fits_small (by omega)
      show SimC _ _ _ _ _ (foS l.length (decide (0 < leN 0 (hQ (atL l)) 16)) (((0 : Nat) : Int) + 16)) [.ints .i64 l, .ints .i64 (listF 17 (lowS (atL l) 0) 0)] _ _ _ _
      refine SimC.iter (g := gh) (e := .exit 2) (S := fun k => foS l.length (decide (0 < leN k (hQ (atL l)) 16)) (((k : Nat) : Int) + 16)) (B := fun k => [.ints .i64 l, .ints .i64 (listF 17 (lowS (atL l) k) 0)]) (N := l.length - 16) (fun k hk => ?_) ?_ (by simp) 0 (by omega)
      · have t1 : ((k : Int) + 16).toNat = 16 + k := by omega
        have t2 : ((k : Int) + 16 + 1).toNat = 16 + k + 1 := by omega
        have t3 : 0 + ((k : Int) + 16 - 16).toNat + 0 = k := by omega
        have t4 : (k : Int) + 16 + 1 = ((k + 1 : Nat) : Int) + 16 := by omega
        have e1 : l.getD (16 + k) 0 = atL l (16 + k) := rfl
        have e2 : l.getD (16 + k + 1) 0 = atL l (16 + k + 1) := rfl
        have e3 : atL l (16 + k) / 4 + atL l (16 + k + 1) % 4 * 64 = hQ (atL l) (16 + k) := rfl
        have q1 := hb (16 + k)
        have q2 := hb (16 + k + 1)
        have q3 := hQ_byte q1 q2
        unfold Byte at q1 q2
        have hk17 : k < 17 := by omega
        have q5 : (listF 17 (lowS (atL l) k) 0).getD k 0 = lowS (atL l) k k := atLF hk17
        have q4 := lowS_bound hb k k
        have hs := hs_succ hb k
        have hle : (listF 17 (lowS (atL l) k) 0).length = 17 := listF_length _ _ _
        have base : ∀ b, decide (0 < leN k (hQ (atL l)) 16) = b → ∀ C, C = [Fits IntKind.i64 (l.length : Int), decide ((k : Int) + 16 < (l.length : Int)) = true, Fits IntKind.i64 (hQ (atL l) (16 + k)), Fits IntKind.i64 (atL l (16 + k + 1) % 4 * 64), l.length = l.length, (0 : Int) ≤ ((k + 1 : Nat) : Int) + 16, l.length ≤ 1000000, Fits IntKind.i64 (((k + 1 : Nat) : Int) + 16), l.length = l.length, (0 : Int) ≤ (k : Int) + 16, l.length ≤ 1000000, Fits IntKind.i64 ((k : Int) + 16 - 16), decide ((17 : Int) ≤ (k : Int) + 16 - 16) = false, k < (listF 17 (lowS (atL l) k) 0).length, (0 : Int) ≤ (k : Int) + 16 - 16 ∧ (k : Int) + 16 - 16 < ((17 : Nat) : Int), Fits IntKind.i64 ((listF 17 (lowS (atL l) k) 0).getD k 0 + 5 * hQ (atL l) (16 + k)), Fits IntKind.i64 (5 * hQ (atL l) (16 + k)), k < (listF 17 (lowS (atL l) k) 0).length, (0 : Int) ≤ (k : Int) + 16 - 16 ∧ (k : Int) + 16 - 16 < ((17 : Nat) : Int), Fits IntKind.i64 ((k : Int) + 16 - 16), Fits IntKind.i64 ((k : Int) + 16 - 16), decide (0 < leN k (hQ (atL l)) 16) = b, Fits IntKind.i64 (((k + 1 : Nat) : Int) + 16)] → AllC C := by
          rintro b hbb C rfl
          rw [q5, hle]
          simp only [allC_cons, allC_nil, and_true]
          exact ⟨F1, decide_eq_true (by omega), fits_of (by omega) (by omega), fits_of (by omega) (by omega), trivial, by omega, by omega, fits_of (by omega) (by omega), trivial, by omega, by omega, fits_of (by omega) (by omega), decide_eq_false (by omega), hk17, ⟨by omega, by omega⟩, fits_of (by omega) (by omega), fits_of (by omega) (by omega), hk17, ⟨by omega, by omega⟩, fits_of (by omega) (by omega), fits_of (by omega) (by omega), hbb, fits_of (by omega) (by omega)⟩
        cases hbb : decide (0 < leN k (hQ (atL l)) 16) with
        | false =>
          have hr := fo_go0 l.length (decide (0 < leN k (hQ (atL l)) 16)) ((k : Int) + 16) l (listF 17 (lowS (atL l) k) 0)
          rw [t1, t2, t3, t4, e1, e2, Int.tdiv_eq_ediv_of_nonneg q1.1, Int.tmod_eq_emod_of_nonneg q2.1, e3, low_set hk17] at hr
          rw [hbb, Bool.false_or] at hs
          rw [← hs] at hr
          have hr' := SimC.run (B' := [.ints .i64 l, .ints .i64 (listF 17 (lowS (atL l) (k + 1)) 0)]) (m := 2) gh_ok (by decide) hr (base false hbb _ rfl) (by decide) b2' (by decide) (by simp) hgl
          rw [hbb] at hr'
          exact hr'
        | true =>
          have hr := fo_go1 l.length (decide (0 < leN k (hQ (atL l)) 16)) ((k : Int) + 16) l (listF 17 (lowS (atL l) k) 0)
          rw [t1, t2, t3, t4, e1, e2, Int.tdiv_eq_ediv_of_nonneg q1.1, Int.tmod_eq_emod_of_nonneg q2.1, e3, low_set hk17] at hr
          rw [hbb, Bool.true_or] at hs
          have hr' := SimC.run (B' := [.ints .i64 l, .ints .i64 (listF 17 (lowS (atL l) (k + 1)) 0)]) (m := 2) gh_ok (by decide) hr (base true hbb _ rfl) (by decide) b2' (by decide) (by simp) hgl
          rw [hbb] at hr'
          show SimC _ _ _ _ _ _ _ _ (foS l.length (decide (0 < leN (k + 1) (hQ (atL l)) 16)) (((k + 1 : Nat) : Int) + 16)) _ _
          rw [hs]
          exact SimC.weakenI hr' (fun y hy => by
            simp only [foS, foKeep, List.zip_cons_cons, List.zip_nil_right, List.mem_cons, List.not_mem_nil, or_false] at hy
            rcases hy with rfl | rfl | rfl | rfl
            · exact ⟨by simp, DenImp.refl _⟩
            · exact ⟨by simp, DenImp.refl _⟩
            · exact ⟨by simp, fun _ _ _ _ h => denV_norm (c := .bool true) h⟩
            · exact ⟨by simp, DenImp.refl _⟩)
      · exact SimC.weaken (SimC.run (B' := [.ints .i64 l, .ints .i64 (listF 17 (lowS (atL l) (l.length - 16)) 0)]) gh_ok (by decide) (fo_end l.length _ _ l _) (by simp only [allC_cons, allC_nil, and_true]; exact ⟨F1, decide_eq_false (by omega)⟩) (by decide) b2' (by decide) (by simp) hgl) (sub_mkT (by simp; exact ⟨rfl, rfl⟩))
    · simp at hG
  · simp at hG
abbrev foO (l : List Int) : List Int := (List.range 16).map (fun j => l.getD j 0) ++ [(l.getD 16 0).tmod 4]
abbrev foE (l : List Int) : List Int := listF 17 (lowS (atL l) (l.length - 16)) 0
abbrev dgC (n : Nat) (l : List Int) (j : Nat) : List Prop := [j < 17, n = l.length, (0 : Int) ≤ (j : Int), l.length ≤ 1000000]
abbrev foC (n : Nat) (l : List Int) : List Prop := [(0 : Int) ≤ 17 ∧ (17 : Int) = 17 ∧ (17 : Int).toNat * 8 ≤ 2 ^ 47] ++ ((List.range 17).flatMap (dgC n l) ++ [LoopGood gh 70 (.loop foBody) foKeep 2 (.exit 2) (mkLoopN foG), n = l.length, 17 ≤ l.length, l.length ≤ 33, ∀ j, j < l.length → Byte (atL l j), foO l = listF 17 (lowS (atL l) 0) 0, 17 = (foE l).length, (foE l).length ≤ 1000000, ∀ j, j < (foE l).length → 0 ≤ atL (foE l) j ∧ atL (foE l) j ≤ 1152921504606846976, valL (foE l) < ((256 ^ (foE l).length : Nat) : Int)])
theorem fo_run (n : Nat) (l : List Int) : runF gh 400 [.loop 9 foKeep 2 (.exit 2) (mkLoopN foG)] 72 [.sl 0 0 0 1 0 n false] [.ints .i64 l] [2] =
    some (.tuple [.own 1, .sbool (decide (0 < leN (l.length - 16) (hQ (atL l)) 16))], [some (.ints .i64 l), some (.ints .i64 (listF (foE l).length (byteN (valL (foE l))) 0))], foC n l) :=
  run_parts (by kernel_rfl) (by kernel_rfl) (by kernel_rfl)
noncomputable def foF : SumF := fun args B => match args, B with
  | [x], [.ints K l] => match vwI 0 l x, sameK K .i64 with
    | some (0, n), true => some { val := .tuple [.own 1, .sbool (decide (E130 ≤ valL l))], new := [.ints .i64 (listF 17 (byteN (foldV (valL l))) 0)], C := [n = l.length, 17 ≤ l.length, l.length ≤ 33, ∀ j, j < l.length → Byte (atL l j), foldV (valL l) < 87112285931760246646623899502532662132736] }
    | _, _ => none
  | _, _ => none
theorem fo_acc : Acc gh 72 foF := by
  intro args B out h hC
  unfold foF at h
  split at h
  · rename_i x K l
    split at h
    · rename_i n hx hK
      obtain rfl := kidx_inj hK
      simp only [Option.some.injEq] at h; subst h
      simp only [allC_cons, allC_nil, and_true] at hC
      obtain ⟨rfl, h1, h2, h3, h4⟩ := hC
      have hb := byte_zero rfl h3
      refine FnOk.argsH (args' := [.sl 0 0 0 1 0 l.length false]) ?_ (fun w0 O ρ Φ w vs x d => by
        simp only [DenT] at d ⊢
        obtain ⟨v1, r1, rfl, d1, rfl⟩ := d
        exact ⟨_, _, rfl, vwI_den hx x rfl d1, rfl⟩)
      have hr := fo_run l.length l
      have eE : (foE l).length = 17 := listF_length _ _ _
      have eV : valL (foE l) = foldV (valL l) := by rw [valL_listF]; exact low_fold h1 h2 h3
      rw [hs_all h1 h3, eV, eE] at hr
      have hO : foO l = listF 17 (lowS (atL l) 0) 0 := by
        rw [listF_map]
        show _ = (List.range (16 + 1)).map _
        rw [List.range_succ, List.map_append]
        have u1 : (List.range 16).map (fun j => l.getD j 0) = (List.range 16).map (lowS (atL l) 0) := List.map_congr_left fun j hj => by
          have := List.mem_range.1 hj
          unfold lowS lowF; rw [if_pos this, if_neg (by omega), Int.add_zero]; rfl
        have u2 : [(l.getD 16 0).tmod 4] = [16].map (lowS (atL l) 0) := by
          have : lowS (atL l) 0 16 = atL l 16 % 4 := by unfold lowS lowF; simp
          show [(atL l 16).tmod 4] = [lowS (atL l) 0 16]
          rw [this, Int.tmod_eq_emod_of_nonneg (hb 16).1]
        rw [foO, u1, u2]
      have hL := fo_loop
      refine FnOk.val (FnOk.run (out := { val := .tuple [.own 1, .sbool (decide (E130 ≤ valL l))], new := [.ints .i64 (listF 17 (byteN (foldV (valL l))) 0)] }) (new := [2]) gh_ok hr ?_ (by simp [upto]) rfl (by simp) (by simp) (fun j hj => by match j, hj with | 0, _ => rfl | 1, _ => rfl)) (fun _ _ _ _ h => h)
      rw [foC, allC_append, allC_append]
      refine ⟨?_, ?_, ?_⟩
      · simp only [allC_cons, allC_nil, and_true]; decide
      · intro c hc
        obtain ⟨j, hj, hc⟩ := List.mem_flatMap.1 hc
        have hj := List.mem_range.1 hj
        simp only [dgC, List.mem_cons, List.not_mem_nil, or_false] at hc
        rcases hc with rfl | rfl | rfl | rfl
        · exact hj
        · trivial
        · omega
        · omega
      · simp only [allC_cons, allC_nil, and_true]
        refine ⟨hL, trivial, h1, h2, h3, hO, eE.symm, by omega, fun j hj => ?_, ?_⟩
        · rw [eE] at hj
          rw [atLF hj]
          have := lowS_bound hb (l.length - 16) j
          omega
        · rw [eV, eE]; exact h4
    · simp at h
  · simp at h
noncomputable abbrev gi : Ctx := gh.add [(72, foF)]
theorem gi_ok : CtxU gi := gh_ok.add mixed noGo (by
  intro x hx
  simp only [List.mem_cons, List.not_mem_nil, or_false] at hx
  rcases hx with rfl
  exact fo_acc)
end Go.Proofs.Ytejcjdhplpjpjaa

namespace Go.Proofs.Ytejcjdhplpjpjaa
open Go Go.Vx
/-! ### least -/
abbrev rdKeep : List Nat := [2, 0, 3]
noncomputable abbrev rdBody : Code := bodyAt Try.prog 61 3
noncomputable abbrev rdS (b : Bool) : List (Nat × SV) := rdKeep.zip [.ptr 0 0, .own 1, .sbool b]
noncomputable abbrev dgB (n : Nat) (V : Int) : Body := .ints .i64 (listF n (byteN V) 0)
noncomputable abbrev z17 (z : Nat → Int) : Body := .cells (svF (List.replicate 17 .i64) z 0)
theorem rd_go (z : Nat → Int) (l : List Int) : runC gi 200 54 [.br true] rdBody (rdS true) [z17 z, .ints .i64 l] rdKeep [0, 2] =
    some (.normal, [.ptr 0 0, .own 1, .sbool (decide (E130 ≤ valL l))], [z17 z, dgB 17 (foldV (valL l))].map some, [true = true, l.length = l.length, 17 ≤ l.length, l.length ≤ 33, ∀ j, j < l.length → Byte (atL l j), foldV (valL l) < 87112285931760246646623899502532662132736]) :=
  r3_parts4 (by kernel_rfl) (by kernel_rfl) (by kernel_rfl) (by kernel_rfl)
theorem rd_end (z : Nat → Int) (l : List Int) : runC gi 200 54 [.br false] rdBody (rdS false) [z17 z, .ints .i64 l] rdKeep [0, 1] =
    some (.exit 0, [.ptr 0 0, .own 1, .sbool false], [z17 z, .ints .i64 l].map some, [false = false]) :=
  r3_parts4 (by kernel_rfl) (by kernel_rfl) (by kernel_rfl) (by kernel_rfl)
theorem b1y : ∀ j : Nat, j < 1 → ([0, 2] : List Nat)[j]? = some j := fun j hj => by
  match j, hj with
  | 0, _ => rfl
theorem rd_sim {w0 : World} {O : Go.Vx.Own} (hgl : GlobOk gi w0 O) (z : Nat → Int) : ∀ (n : Nat) (l : List Int), n ≤ 3 → 17 ≤ l.length → l.length ≤ 33 → (∀ j, j < l.length → Byte (atL l j)) → valL l < bndR n →
    SimC gi.P w0 O 54 (.loop rdBody) (rdS true) [z17 z, .ints .i64 l] (.exit 0) [(2, .ptr 0 0), (0, .own 1)] [z17 z, dgB 17 (redF n (valL l))] 1 := by
  intro n
  induction n with
  | zero => 
    intro l hn h1 h2 h3 h4
    have h0 : 0 ≤ valL l := leN_pos l.length 0 fun j hj => by rw [Nat.zero_add]; exact (h3 j hj).1
    have hb := fold_lt h0 (Int.lt_of_lt_of_le h4 (bndR_le 0 hn))
    have s1 := SimC.run (B' := [z17 z, dgB 17 (foldV (valL l))]) (m := 1) (O := O) (w0 := w0) gi_ok (by decide) (rd_go z l) (by simp only [allC_cons, allC_nil, and_true]; exact ⟨trivial, trivial, h1, h2, h3, hb.2⟩) (by decide) b1y (by decide) (by simp) hgl
    rw [decide_eq_false (show ¬ E130 ≤ valL l by simp only [bndR] at h4; omega), foldV_small h0 h4] at s1
    refine SimC.next (Nat.le_refl 1) s1 (SimC.done ?_ (by simp))
    exact SimC.weaken (SimC.run (B' := [z17 z, dgB 17 (valL l)]) gi_ok (by decide) (rd_end z _) (by simp only [allC_cons, allC_nil, and_true]) (by decide) b1' (by decide) (by simp) hgl) (sub_mkT (by simp; exact ⟨rfl, rfl⟩))
  | succ n ih =>
    intro l hn h1 h2 h3 h4
    have h0 : 0 ≤ valL l := leN_pos l.length 0 fun j hj => by rw [Nat.zero_add]; exact (h3 j hj).1
    have hb := fold_lt h0 (Int.lt_of_lt_of_le h4 (bndR_le (n + 1) hn))
    have s1 := SimC.run (B' := [z17 z, dgB 17 (foldV (valL l))]) (m := 1) (O := O) (w0 := w0) gi_ok (by decide) (rd_go z l) (by simp only [allC_cons, allC_nil, and_true]; exact ⟨trivial, trivial, h1, h2, h3, hb.2⟩) (by decide) b1y (by decide) (by simp) hgl
    by_cases hv : valL l < E130
    · rw [decide_eq_false (show ¬ E130 ≤ valL l by omega), foldV_small h0 hv] at s1
      rw [redF_small hv]
      refine SimC.next (Nat.le_refl 1) s1 (SimC.done ?_ (by simp))
      exact SimC.weaken (SimC.run (B' := [z17 z, dgB 17 (valL l)]) gi_ok (by decide) (rd_end z _) (by simp only [allC_cons, allC_nil, and_true]) (by decide) b1' (by decide) (by simp) hgl) (sub_mkT (by simp; exact ⟨rfl, rfl⟩))
    · rw [decide_eq_true (show E130 ≤ valL l by omega)] at s1
      have e : redF (n + 1) (valL l) = redF n (foldV (valL l)) := by simp only [redF]; rw [if_neg hv]
      have ev : valL (listF 17 (byteN (foldV (valL l))) 0) = foldV (valL l) := val_bytes hb.1 hb.2
      rw [e]
      refine SimC.next (Nat.le_refl 1) s1 ?_
      have := ih (listF 17 (byteN (foldV (valL l))) 0) (by omega) (by rw [listF_length]; omega) (by rw [listF_length]; omega) (fun j hj => Go.Vx.bytes_list j hj) (by rw [ev]; exact (foldV_bnd h0 n (by omega) h4).2 (by omega))
      rw [ev] at this
      exact this
noncomputable def rdG : LoopF := fun vals B => match vals, B with
  | [.ptr 0 0, .own 1, .sbool true], [.cells cs, .ints K l] => match sameK K .i64, numsAs (List.replicate 17 .i64) cs with
    | true, some lz => some ([(2, .ptr 0 0), (0, .own 1)], [z17 (atL lz), dgB 17 (redF 3 (valL l))], [17 ≤ l.length, l.length ≤ 33, ∀ j, j < l.length → Byte (atL l j), valL l < E130 * E130])
    | _, _ => none
  | _, _ => none
theorem rd_loop : LoopGood gi 54 (.loop rdBody) rdKeep 1 (.exit 0) (mkLoopN rdG) := by
  refine LoopGood.mkN (by decide) fun vals B S' B' C hG hC hlen w0 O hgl => ?_
  clear hlen
  unfold rdG at hG
  split at hG
  · rename_i cs K l
    split at hG
    · rename_i lz hK hz
      obtain rfl := kidx_inj hK
      simp only [Option.some.injEq, Prod.mk.injEq] at hG
      obtain ⟨rfl, rfl, rfl⟩ := hG
      simp only [allC_cons, allC_nil, and_true] at hC
      obtain ⟨h1, h2, h3, h4⟩ := hC
      refine SimC.preI (B1 := [z17 (atL lz), .ints .i64 l]) ?_ ⟨cells_nums hz, ⟨BImp.refl _, fun _ h => by simp at h⟩, trivial⟩
      exact rd_sim hgl (atL lz) 3 l (by omega) h1 h2 h3 h4
    · simp at hG
  · simp at hG
theorem b1z : ∀ j : Nat, j < 1 → ([0] : List Nat)[j]? = some j := fun j hj => by
  match j, hj with
  | 0, _ => rfl
/-! the highest digits -/
abbrev hgKeep : List Nat := [2, 0, 4, 5]
noncomputable abbrev hgBody : Code := bodyAt Try.prog 61 7
noncomputable abbrev hgS (b : Bool) (i : Int) : List (Nat × SV) := hgKeep.zip [.ptr 0 0, .own 1, .sbool b, .int .i64 i]
theorem hg_t0 (z : Nat → Int) (b : Bool) (i : Int) (l : List Int) : runC gi 200 54 [.br true, .br true, .br false] hgBody (hgS b i) [z17 z, .ints .i64 l] hgKeep [0, 1] =
    some (Ex.normal, [SV.ptr (0 : Nat) (0 : Nat), SV.own (1 : Nat), SV.bool false, SV.int IntKind.i64 (i + (1 : Int))], [some (Body.cells [SV.int IntKind.i64 (z (0 : Nat)), SV.int IntKind.i64 (z (1 : Nat)), SV.int IntKind.i64 (z (2 : Nat)), SV.int IntKind.i64 (z (3 : Nat)), SV.int IntKind.i64 (z (4 : Nat)), SV.int IntKind.i64 (z (5 : Nat)), SV.int IntKind.i64 (z (6 : Nat)), SV.int IntKind.i64 (z (7 : Nat)), SV.int IntKind.i64 (z (8 : Nat)), SV.int IntKind.i64 (z (9 : Nat)), SV.int IntKind.i64 (z (10 : Nat)), SV.int IntKind.i64 (z (11 : Nat)), SV.int IntKind.i64 (z (12 : Nat)), SV.int IntKind.i64 (z (13 : Nat)), SV.int IntKind.i64 (z (14 : Nat)), SV.int IntKind.i64 (z (15 : Nat)), SV.int IntKind.i64 (z (16 : Nat))]), some (Body.ints IntKind.i64 l)], [decide (i < (17 : Int)) = true, decide (i = (16 : Int)) = true, b = false, Fits IntKind.i64 (i + (1 : Int))]) := by kernel_rfl
theorem hg_t1 (z : Nat → Int) (b : Bool) (i : Int) (l : List Int) : runC gi 200 54 [.br true, .br true, .br true] hgBody (hgS b i) [z17 z, .ints .i64 l] hgKeep [0, 1] =
    some (Ex.normal, [SV.ptr (0 : Nat) (0 : Nat), SV.own (1 : Nat), SV.sbool (decide (l.getD i.toNat (0 : Int) = (3 : Int))), SV.int IntKind.i64 (i + (1 : Int))], [some (Body.cells [SV.int IntKind.i64 (z (0 : Nat)), SV.int IntKind.i64 (z (1 : Nat)), SV.int IntKind.i64 (z (2 : Nat)), SV.int IntKind.i64 (z (3 : Nat)), SV.int IntKind.i64 (z (4 : Nat)), SV.int IntKind.i64 (z (5 : Nat)), SV.int IntKind.i64 (z (6 : Nat)), SV.int IntKind.i64 (z (7 : Nat)), SV.int IntKind.i64 (z (8 : Nat)), SV.int IntKind.i64 (z (9 : Nat)), SV.int IntKind.i64 (z (10 : Nat)), SV.int IntKind.i64 (z (11 : Nat)), SV.int IntKind.i64 (z (12 : Nat)), SV.int IntKind.i64 (z (13 : Nat)), SV.int IntKind.i64 (z (14 : Nat)), SV.int IntKind.i64 (z (15 : Nat)), SV.int IntKind.i64 (z (16 : Nat))]), some (Body.ints IntKind.i64 l)], [decide (i < (17 : Int)) = true, decide (i = (16 : Int)) = true, l.length = l.length, (0 : Int) ≤ i, l.length ≤ (1000000 : Nat), b = true, Fits IntKind.i64 (i + (1 : Int))]) := by kernel_rfl
theorem hg_f0 (z : Nat → Int) (b : Bool) (i : Int) (l : List Int) : runC gi 200 54 [.br true, .br false, .br false] hgBody (hgS b i) [z17 z, .ints .i64 l] hgKeep [0, 1] =
    some (Ex.normal, [SV.ptr (0 : Nat) (0 : Nat), SV.own (1 : Nat), SV.bool false, SV.int IntKind.i64 (i + (1 : Int))], [some (Body.cells [SV.int IntKind.i64 (z (0 : Nat)), SV.int IntKind.i64 (z (1 : Nat)), SV.int IntKind.i64 (z (2 : Nat)), SV.int IntKind.i64 (z (3 : Nat)), SV.int IntKind.i64 (z (4 : Nat)), SV.int IntKind.i64 (z (5 : Nat)), SV.int IntKind.i64 (z (6 : Nat)), SV.int IntKind.i64 (z (7 : Nat)), SV.int IntKind.i64 (z (8 : Nat)), SV.int IntKind.i64 (z (9 : Nat)), SV.int IntKind.i64 (z (10 : Nat)), SV.int IntKind.i64 (z (11 : Nat)), SV.int IntKind.i64 (z (12 : Nat)), SV.int IntKind.i64 (z (13 : Nat)), SV.int IntKind.i64 (z (14 : Nat)), SV.int IntKind.i64 (z (15 : Nat)), SV.int IntKind.i64 (z (16 : Nat))]), some (Body.ints IntKind.i64 l)], [decide (i < (17 : Int)) = true, decide (i = (16 : Int)) = false, b = false, Fits IntKind.i64 (i + (1 : Int))]) := by kernel_rfl
theorem hg_f1 (z : Nat → Int) (b : Bool) (i : Int) (l : List Int) : runC gi 200 54 [.br true, .br false, .br true] hgBody (hgS b i) [z17 z, .ints .i64 l] hgKeep [0, 1] =
    some (Ex.normal, [SV.ptr (0 : Nat) (0 : Nat), SV.own (1 : Nat), SV.sbool (decide (l.getD i.toNat (0 : Int) = (255 : Int))), SV.int IntKind.i64 (i + (1 : Int))], [some (Body.cells [SV.int IntKind.i64 (z (0 : Nat)), SV.int IntKind.i64 (z (1 : Nat)), SV.int IntKind.i64 (z (2 : Nat)), SV.int IntKind.i64 (z (3 : Nat)), SV.int IntKind.i64 (z (4 : Nat)), SV.int IntKind.i64 (z (5 : Nat)), SV.int IntKind.i64 (z (6 : Nat)), SV.int IntKind.i64 (z (7 : Nat)), SV.int IntKind.i64 (z (8 : Nat)), SV.int IntKind.i64 (z (9 : Nat)), SV.int IntKind.i64 (z (10 : Nat)), SV.int IntKind.i64 (z (11 : Nat)), SV.int IntKind.i64 (z (12 : Nat)), SV.int IntKind.i64 (z (13 : Nat)), SV.int IntKind.i64 (z (14 : Nat)), SV.int IntKind.i64 (z (15 : Nat)), SV.int IntKind.i64 (z (16 : Nat))]), some (Body.ints IntKind.i64 l)], [decide (i < (17 : Int)) = true, decide (i = (16 : Int)) = false, l.length = l.length, (0 : Int) ≤ i, l.length ≤ (1000000 : Nat), b = true, Fits IntKind.i64 (i + (1 : Int))]) := by kernel_rfl
theorem hg_end (z : Nat → Int) (b : Bool) (i : Int) (l : List Int) : runC gi 200 54 [.br false] hgBody (hgS b i) [z17 z, .ints .i64 l] hgKeep [0, 1] =
    some (Ex.exit (2 : Nat), [SV.ptr (0 : Nat) (0 : Nat), SV.own (1 : Nat), SV.sbool b, SV.int IntKind.i64 i], [some (Body.cells [SV.int IntKind.i64 (z (0 : Nat)), SV.int IntKind.i64 (z (1 : Nat)), SV.int IntKind.i64 (z (2 : Nat)), SV.int IntKind.i64 (z (3 : Nat)), SV.int IntKind.i64 (z (4 : Nat)), SV.int IntKind.i64 (z (5 : Nat)), SV.int IntKind.i64 (z (6 : Nat)), SV.int IntKind.i64 (z (7 : Nat)), SV.int IntKind.i64 (z (8 : Nat)), SV.int IntKind.i64 (z (9 : Nat)), SV.int IntKind.i64 (z (10 : Nat)), SV.int IntKind.i64 (z (11 : Nat)), SV.int IntKind.i64 (z (12 : Nat)), SV.int IntKind.i64 (z (13 : Nat)), SV.int IntKind.i64 (z (14 : Nat)), SV.int IntKind.i64 (z (15 : Nat)), SV.int IntKind.i64 (z (16 : Nat))]), some (Body.ints IntKind.i64 l)], [decide (i < (17 : Int)) = false]) := by kernel_rfl
noncomputable def hgG : LoopF := fun vals B => match vals, B with
  | [.ptr 0 0, .own 1, .sbool true, .int .i64 1], [.cells cs, .ints K l] => match sameK K .i64, numsAs (List.replicate 17 .i64) cs with
    | true, some lz => some ([(2, .ptr 0 0), (0, .own 1), (4, .sbool (hiF (valL l) 16))], [z17 (atL lz), .ints .i64 l], [l.length = 17, ∀ j, j < l.length → Byte (atL l j)])
    | _, _ => none
  | _, _ => none
theorem hg_round {w0 : World} {O : Go.Vx.Own} (hgl : GlobOk gi w0 O) (z : Nat → Int) {l : List Int} (h1 : l.length = 17) (h3 : ∀ j, j < l.length → Byte (atL l j)) {k : Nat} (hk : k < 16) :
    SimC gi.P w0 O 54 hgBody (hgS (hiF (valL l) k) ((k : Int) + 1)) [z17 z, .ints .i64 l] .normal (hgS (hiF (valL l) (k + 1)) (((k + 1 : Nat) : Int) + 1)) [z17 z, .ints .i64 l] 2 := by
  have t1 : ((k : Int) + 1).toNat = k + 1 := by omega
  have t2 : (k : Int) + 1 + 1 = ((k + 1 : Nat) : Int) + 1 := by omega
  have ed : l.getD (k + 1) 0 = byteN (valL l) (k + 1) := by
    have := byte_leN l.length (f := atL l) 0 (fun j hj => by rw [Nat.zero_add]; exact h3 j hj) (k + 1) (by omega)
    rw [Nat.zero_add] at this
    exact this.symm
  have F : Fits .i64 (((k + 1 : Nat) : Int) + 1) := fits_of (by omega) (by omega)
  have D1 : decide ((k : Int) + 1 < 17) = true := decide_eq_true (by omega)
  have hz : ∀ y ∈ hgS (hiF (valL l) (k + 1)) (((k + 1 : Nat) : Int) + 1), y.1 < 65535 := fun y hy => by
    simp only [hgS, hgKeep, List.zip_cons_cons, List.zip_nil_right, List.mem_cons, List.not_mem_nil, or_false] at hy
    rcases hy with rfl | rfl | rfl | rfl <;> simp
  have fin0 : hiF (valL l) k = false → hiF (valL l) (k + 1) = false := fun h => by simp only [hiF]; rw [h]; rfl
  have fin1 : hiF (valL l) k = true → hiF (valL l) (k + 1) = decide (byteN (valL l) (k + 1) = hiM (k + 1)) := fun h => by simp only [hiF]; rw [h]; rfl
  by_cases e16 : k = 15
  · have D2 : decide ((k : Int) + 1 = 16) = true := decide_eq_true (by omega)
    have hm : hiM (k + 1) = 3 := by rw [e16]; rfl
    cases hb : hiF (valL l) k with
    | false =>
      have hr := hg_t0 z false ((k : Int) + 1) l
      rw [t2] at hr
      have s := SimC.run (B' := [z17 z, .ints .i64 l]) (m := 2) (O := O) (w0 := w0) gi_ok (by decide) hr (by simp only [allC_cons, allC_nil, and_true]; exact ⟨D1, D2, trivial, F⟩) (by decide) b2' (by decide) (by simp) hgl
      rw [fin0 hb]
      exact SimC.weakenI s (fun y hy => by
        simp only [hgS, hgKeep, List.zip_cons_cons, List.zip_nil_right, List.mem_cons, List.not_mem_nil, or_false] at hy
        rcases hy with rfl | rfl | rfl | rfl
        · exact ⟨by simp, DenImp.refl _⟩
        · exact ⟨by simp, DenImp.refl _⟩
        · exact ⟨by simp, fun _ _ _ _ h => denV_norm (c := .bool false) h⟩
        · exact ⟨by simp, DenImp.refl _⟩)
    | true =>
      have hr := hg_t1 z true ((k : Int) + 1) l
      rw [t1, t2, ed] at hr
      have s := SimC.run (B' := [z17 z, .ints .i64 l]) (m := 2) (O := O) (w0 := w0) gi_ok (by decide) hr (by simp only [allC_cons, allC_nil, and_true]; exact ⟨D1, D2, trivial, by omega, by omega, trivial, F⟩) (by decide) b2' (by decide) (by simp) hgl
      rw [fin1 hb, hm]
      exact s
  · have D2 : decide ((k : Int) + 1 = 16) = false := decide_eq_false (by omega)
    have hm : hiM (k + 1) = 255 := by unfold hiM; rw [if_neg (by omega)]
    cases hb : hiF (valL l) k with
    | false =>
      have hr := hg_f0 z false ((k : Int) + 1) l
      rw [t2] at hr
      have s := SimC.run (B' := [z17 z, .ints .i64 l]) (m := 2) (O := O) (w0 := w0) gi_ok (by decide) hr (by simp only [allC_cons, allC_nil, and_true]; exact ⟨D1, D2, trivial, F⟩) (by decide) b2' (by decide) (by simp) hgl
      rw [fin0 hb]
      exact SimC.weakenI s (fun y hy => by
        simp only [hgS, hgKeep, List.zip_cons_cons, List.zip_nil_right, List.mem_cons, List.not_mem_nil, or_false] at hy
        rcases hy with rfl | rfl | rfl | rfl
        · exact ⟨by simp, DenImp.refl _⟩
        · exact ⟨by simp, DenImp.refl _⟩
        · exact ⟨by simp, fun _ _ _ _ h => denV_norm (c := .bool false) h⟩
        · exact ⟨by simp, DenImp.refl _⟩)
    | true =>
      have hr := hg_f1 z true ((k : Int) + 1) l
      rw [t1, t2, ed] at hr
      have s := SimC.run (B' := [z17 z, .ints .i64 l]) (m := 2) (O := O) (w0 := w0) gi_ok (by decide) hr (by simp only [allC_cons, allC_nil, and_true]; exact ⟨D1, D2, trivial, by omega, by omega, trivial, F⟩) (by decide) b2' (by decide) (by simp) hgl
      rw [fin1 hb, hm]
      exact s
theorem hg_loop : LoopGood gi 54 (.loop hgBody) hgKeep 2 (.exit 2) (mkLoopN hgG) := by
  refine LoopGood.mkN (by decide) fun vals B S' B' C hG hC hlen w0 O hgl => ?_
  clear hlen
  unfold hgG at hG
  split at hG
  · rename_i cs K l
    split at hG
    · rename_i lz hK hz
      obtain rfl := kidx_inj hK
      simp only [Option.some.injEq, Prod.mk.injEq] at hG
      obtain ⟨rfl, rfl, rfl⟩ := hG
      simp only [allC_cons, allC_nil, and_true] at hC
      obtain ⟨h1, h3⟩ := hC
      refine SimC.preI (B1 := [z17 (atL lz), .ints .i64 l]) ?_ ⟨cells_nums hz, ⟨BImp.refl _, fun _ h => by simp at h⟩, trivial⟩
      show SimC _ _ _ _ _ (hgS (hiF (valL l) 0) (((0 : Nat) : Int) + 1)) [z17 (atL lz), .ints .i64 l] _ _ _ _
      refine SimC.iter (g := gi) (e := .exit 2) (S := fun k => hgS (hiF (valL l) k) (((k : Nat) : Int) + 1)) (B := fun _ => [z17 (atL lz), .ints .i64 l]) (N := 16) (fun k hk => hg_round hgl _ h1 h3 hk) ?_ (by simp) 0 (by omega)
      exact SimC.weaken (SimC.run (B' := [z17 (atL lz), .ints .i64 l]) gi_ok (by decide) (hg_end _ _ _ l) (by simp only [allC_cons, allC_nil, and_true]; decide) (by decide) b2' (by decide) (by simp) hgl) (sub_mkT (by simp; exact ⟨rfl, rfl, rfl⟩))
    · simp at hG
  · simp at hG
end Go.Proofs.Ytejcjdhplpjpjaa

namespace Go.Proofs.Ytejcjdhplpjpjaa
open Go Go.Vx
/-! ### least: the account -/
abbrev lL1 (l : List Int) : List Int := listF l.length (byteN (valL l)) 0
abbrev lR (l : List Int) : Int := redF 3 (valL (lL1 l))
abbrev lL2 (l : List Int) : List Int := listF 17 (byteN (lR l)) 0
abbrev ldC (L : List Int) (j : Nat) : List Prop := [L.length = L.length, (0 : Int) ≤ (j : Int), L.length ≤ 1000000]
noncomputable abbrev leC (n : Nat) (l : List Int) (t : List Prop) : List Prop := [n = l.length, l.length ≤ 1000000, ∀ j, j < l.length → 0 ≤ atL l j ∧ atL l j ≤ 1152921504606846976, valL l < ((256 ^ l.length : Nat) : Int), LoopGood gi 54 (.loop rdBody) rdKeep 1 (.exit 0) (mkLoopN rdG), 17 ≤ (lL1 l).length, (lL1 l).length ≤ 33, ∀ j, j < (lL1 l).length → Byte (atL (lL1 l) j), valL (lL1 l) < E130 * E130, LoopGood gi 54 (.loop hgBody) hgKeep 2 (.exit 2) (mkLoopN hgG), (lL2 l).length = 17, ∀ j, j < (lL2 l).length → Byte (atL (lL2 l) j)] ++ ((List.range 17).flatMap (ldC (lL2 l)) ++ t)
noncomputable abbrev lePl : List Plan := [.loop 3 rdKeep 1 (.exit 0) (mkLoopN rdG), .loop 7 hgKeep 2 (.exit 2) (mkLoopN hgG)]
theorem le_tt (n : Nat) (l : List Int) : runF gi 600 (lePl ++ [.br true, .br true]) 61 [.sl 0 0 0 1 0 n false] [.ints .i64 l] [] =
    some (.agg (.int .i64 ((lL2 l).getD 0 0 - 251) :: List.replicate 16 (.lit .i64 0)), [some (.ints .i64 l)], leC n l [hiF (valL (lL2 l)) 16 = true, decide (251 ≤ (lL2 l).getD 0 0) = true, Fits .i64 ((lL2 l).getD 0 0 - 251)]) :=
  run_parts (by kernel_rfl) (by kernel_rfl) (by kernel_rfl)
theorem le_tf (n : Nat) (l : List Int) : runF gi 600 (lePl ++ [.br true, .br false]) 61 [.sl 0 0 0 1 0 n false] [.ints .i64 l] [] =
    some (.agg (svF (List.replicate 17 .i64) (leastR (lR l) true false) 0), [some (.ints .i64 l)], leC n l [hiF (valL (lL2 l)) 16 = true, decide (251 ≤ (lL2 l).getD 0 0) = false]) :=
  run_parts (by kernel_rfl) (by kernel_rfl) (by kernel_rfl)
theorem le_f (n : Nat) (l : List Int) : runF gi 600 (lePl ++ [.br false]) 61 [.sl 0 0 0 1 0 n false] [.ints .i64 l] [] =
    some (.agg (svF (List.replicate 17 .i64) (leastR (lR l) false false) 0), [some (.ints .i64 l)], leC n l [hiF (valL (lL2 l)) 16 = false]) :=
  run_parts (by kernel_rfl) (by kernel_rfl) (by kernel_rfl)
noncomputable abbrev num4 (N : Int) : SV := .agg (svF (List.replicate 17 .i64) (byteN N) 0)
noncomputable def leF : SumF := fun args B => match args, B with
  | [x], [.ints K l] => match vwI 0 l x, sameK K .i64 with
    | some (0, n), true => some { val := num4 (valL l % P5), C := [n = l.length, 17 ≤ l.length, l.length ≤ 33, ∀ j, j < l.length → 0 ≤ atL l j ∧ atL l j ≤ 1152921504606846976, valL l < E130 * E130, valL l < ((256 ^ l.length : Nat) : Int)] }
    | _, _ => none
  | _, _ => none
theorem svF_ext {ks : List IntKind} {a b : Nat → Int} (h : ∀ j, a j = b j) : svF ks a 0 = svF ks b 0 := by rw [funext h]
theorem le_acc : Acc gi 61 leF := by
  intro args B out h hC
  unfold leF at h
  split at h
  · rename_i x K l
    split at h
    · rename_i n hx hK
      obtain rfl := kidx_inj hK
      simp only [Option.some.injEq] at h; subst h
      simp only [allC_cons, allC_nil, and_true] at hC
      obtain ⟨rfl, h1, h2, h3, h4, h5⟩ := hC
      refine FnOk.argsH (args' := [.sl 0 0 0 1 0 l.length false]) ?_ (fun w0 O ρ Φ w vs x d => by
        simp only [DenT] at d ⊢
        obtain ⟨v1, r1, rfl, d1, rfl⟩ := d
        exact ⟨_, _, rfl, vwI_den hx x rfl d1, rfl⟩)
      have hp : 0 ≤ valL l := leN_pos l.length 0 fun j hj => by rw [Nat.zero_add]; exact (h3 j hj).1
      have e1 : valL (lL1 l) = valL l := val_bytes hp h5
      have el : (lL1 l).length = l.length := listF_length _ _ _
      obtain ⟨r1, r2, r3⟩ := redF_spec 3 (by omega) hp h4
      have eR : lR l = redF 3 (valL l) := by rw [lR, e1]
      have e2 : valL (lL2 l) = lR l := val_bytes (by rw [eR]; exact r1) (by rw [eR]; exact Int.lt_trans r2 (by decide))
      have l2 : (lL2 l).length = 17 := listF_length _ _ _
      have g0 : (lL2 l).getD 0 0 = byteN (lR l) 0 := atLF (by decide)
      have bd := least_bytes (V := lR l) (by rw [eR]; exact r1) (by rw [eR]; exact r2)
      have e3 : lR l % P5 = valL l % P5 := by rw [eR, r3]
      rw [e3] at bd
      have hL1 := rd_loop
      have hL2 := hg_loop
      have hb0 : 0 ≤ byteN (lR l) 0 ∧ byteN (lR l) 0 < 256 := ⟨Int.emod_nonneg _ (by decide), Int.emod_lt_of_pos _ (by decide)⟩
      have base : ∀ t, AllC t → AllC (leC l.length l t) := fun t ht => by
        rw [leC, allC_append, allC_append]
        refine ⟨?_, ?_, ht⟩
        · simp only [allC_cons, allC_nil, and_true]
          exact ⟨trivial, by omega, h3, h5, hL1, by omega, by omega, fun j hj => Go.Vx.bytes_list j hj, by rw [e1]; exact h4, hL2, l2, fun j hj => Go.Vx.bytes_list j hj⟩
        · intro c hc
          obtain ⟨j, hj, hc⟩ := List.mem_flatMap.1 hc
          simp only [ldC, List.mem_cons, List.not_mem_nil, or_false] at hc
          rcases hc with rfl | rfl | rfl
          · trivial
          · omega
          · omega
      have fin : ∀ {b c pl t}, hiF (lR l) 16 = b → decide (251 ≤ byteN (lR l) 0) = c → AllC t → runF gi 600 pl 61 [.sl 0 0 0 1 0 l.length false] [.ints .i64 l] [] = some (.agg (svF (List.replicate 17 .i64) (leastR (lR l) b c) 0), [some (.ints .i64 l)], leC l.length l t) → FnOk gi 61 [.sl 0 0 0 1 0 l.length false] [.ints .i64 l] { val := num4 (valL l % P5) } := by
        intro b c pl t hb hc ht hr
        subst hb; subst hc
        rw [svF_ext bd] at hr
        exact FnOk.run (out := { val := num4 (valL l % P5) }) (new := []) gi_ok hr (base t ht) (by simp [upto]) rfl (by simp) (by simp) (fun j hj => by match j, hj with | 0, _ => rfl)
      refine FnOk.val (C := []) (rd := []) ?_ (fun _ _ _ _ h => h)
      cases hb : hiF (lR l) 16 with
      | false =>
        have hr := le_f l.length l
        have e : leastR (lR l) false false = leastR (lR l) false (decide (251 ≤ byteN (lR l) 0)) := by unfold leastR; rfl
        rw [e] at hr
        exact fin hb rfl (by simp only [allC_cons, allC_nil, and_true]; rw [e2]; exact hb) hr
      | true =>
        cases hc : decide (251 ≤ byteN (lR l) 0) with
        | true =>
          have := of_decide_eq_true hc
          have hz : svF (List.replicate 17 .i64) (leastR (lR l) true true) 0 = normL (.int .i64 (byteN (lR l) 0 - 251) :: List.replicate 16 (.lit .i64 0)) := rfl
          rw [hb, hc] at bd
          have hr := le_tt l.length l
          rw [g0] at hr
          refine FnOk.val (FnOk.run (out := { val := .agg (.int .i64 (byteN (lR l) 0 - 251) :: List.replicate 16 (.lit .i64 0)) }) (new := []) gi_ok hr (base _ (by simp only [allC_cons, allC_nil, and_true]; rw [e2]; exact ⟨hb, hc, fits_of (by omega) (by omega)⟩)) (by simp [upto]) rfl (by simp) (by simp) (fun j hj => by match j, hj with | 0, _ => rfl)) (fun _ _ _ _ h => ?_)
          have h2 := denV_norm h
          simp only [normC] at h2
          rw [← hz, svF_ext bd] at h2
          exact h2
        | false => exact fin hb hc (by simp only [allC_cons, allC_nil, and_true]; rw [e2, g0]; exact ⟨hb, hc⟩) (le_tf l.length l)
    · simp at h
  · simp at h
noncomputable abbrev gj : Ctx := gi.add [(61, leF)]
theorem gj_ok : CtxU gj := gi_ok.add mixed noGo (by
  intro x hx
  simp only [List.mem_cons, List.not_mem_nil, or_false] at hx
  rcases hx with rfl
  exact le_acc)
end Go.Proofs.Ytejcjdhplpjpjaa
