/- Accounts of this seat's functions: lemmas, no statement of their own. No conditions. -/
import Derived.Test.YtejcjdhplpjpjaaTPa
namespace Go.Proofs.Ytejcjdhplpjpjaa
open Go Go.Vx
/-! ### fold -/
abbrev foKeep : List Nat := [0, 4, 6, 7]
noncomputable abbrev foBody : Code := bodyAt Try.prog 72 9
noncomputable abbrev foS (n : Nat) (b : Bool) (i : Int) : List (Nat × SV) := foKeep.zip [.sl 0 0 0 1 0 n false, .sl 1 17 0 1 0 17 true, .sbool b, .int .i64 i]
theorem fo_go0 (n : Nat) (b : Bool) (i : Int) (l o : List Int) : runC gh 200 70 [.br true, .br false, .br false] foBody (foS n b i) [.ints .i64 l, .ints .i64 o] foKeep [0, 1] =
    some (Ex.normal, [SV.sl (0 : Nat) (0 : Nat) (0 : Nat) (1 : Nat) (0 : Nat) n false, SV.sl (1 : Nat) (17 : Nat) (0 : Nat) (1 : Nat) (0 : Nat) (17 : Nat) true, SV.sbool (decide ((0 : Int) < (l.getD i.toNat (0 : Int)).tdiv ((4 : Int)) + (l.getD (i + (1 : Int)).toNat (0 : Int)).tmod ((4 : Int)) * (64 : Int))), SV.int IntKind.i64 (i + (1 : Int))], [some (Body.ints IntKind.i64 l), some (Body.ints IntKind.i64 (o.set ((0 : Nat) + (i - (16 : Int)).toNat + (0 : Nat)) (o.getD ((0 : Nat) + (i - (16 : Int)).toNat + (0 : Nat)) (0 : Int) + (5 : Int) * ((l.getD i.toNat (0 : Int)).tdiv (4 : Int) + (l.getD (i + (1 : Int)).toNat (0 : Int)).tmod (4 : Int) * (64 : Int)))))], [Fits IntKind.i64 (↑n : Int), decide (i < (↑n : Int)) = true, Fits IntKind.i64 ((l.getD i.toNat (0 : Int)).tdiv (4 : Int) + (l.getD (i + (1 : Int)).toNat (0 : Int)).tmod (4 : Int) * (64 : Int)), Fits IntKind.i64 ((l.getD (i + (1 : Int)).toNat (0 : Int)).tmod (4 : Int) * (64 : Int)), n = l.length, (0 : Int) ≤ i + (1 : Int), l.length ≤ (1000000 : Nat), Fits IntKind.i64 (i + (1 : Int)), n = l.length, (0 : Int) ≤ i, l.length ≤ (1000000 : Nat), Fits IntKind.i64 (i - (16 : Int)), decide ((17 : Int) ≤ i - (16 : Int)) = false, (0 : Nat) + (i - (16 : Int)).toNat + (0 : Nat) < o.length, (0 : Int) ≤ i - (16 : Int) ∧ i - (16 : Int) < (↑(17 : Nat) : Int), Fits IntKind.i64 (o.getD ((0 : Nat) + (i - (16 : Int)).toNat + (0 : Nat)) (0 : Int) + (5 : Int) * ((l.getD i.toNat (0 : Int)).tdiv (4 : Int) + (l.getD (i + (1 : Int)).toNat (0 : Int)).tmod (4 : Int) * (64 : Int))), Fits IntKind.i64 ((5 : Int) * ((l.getD i.toNat (0 : Int)).tdiv (4 : Int) + (l.getD (i + (1 : Int)).toNat (0 : Int)).tmod (4 : Int) * (64 : Int))), (0 : Nat) + (i - (16 : Int)).toNat + (0 : Nat) < o.length, (0 : Int) ≤ i - (16 : Int) ∧ i - (16 : Int) < (↑(17 : Nat) : Int), Fits IntKind.i64 (i - (16 : Int)), Fits IntKind.i64 (i - (16 : Int)), b = false, Fits IntKind.i64 (i + (1 : Int))]) := by kernel_rfl
theorem fo_go1 (n : Nat) (b : Bool) (i : Int) (l o : List Int) : runC gh 200 70 [.br true, .br false, .br true] foBody (foS n b i) [.ints .i64 l, .ints .i64 o] foKeep [0, 1] =
    some (Ex.normal, [SV.sl (0 : Nat) (0 : Nat) (0 : Nat) (1 : Nat) (0 : Nat) n false, SV.sl (1 : Nat) (17 : Nat) (0 : Nat) (1 : Nat) (0 : Nat) (17 : Nat) true, SV.bool true, SV.int IntKind.i64 (i + (1 : Int))], [some (Body.ints IntKind.i64 l), some (Body.ints IntKind.i64 (o.set ((0 : Nat) + (i - (16 : Int)).toNat + (0 : Nat)) (o.getD ((0 : Nat) + (i - (16 : Int)).toNat + (0 : Nat)) (0 : Int) + (5 : Int) * ((l.getD i.toNat (0 : Int)).tdiv (4 : Int) + (l.getD (i + (1 : Int)).toNat (0 : Int)).tmod (4 : Int) * (64 : Int)))))], [Fits IntKind.i64 (↑n : Int), decide (i < (↑n : Int)) = true, Fits IntKind.i64 ((l.getD i.toNat (0 : Int)).tdiv (4 : Int) + (l.getD (i + (1 : Int)).toNat (0 : Int)).tmod (4 : Int) * (64 : Int)), Fits IntKind.i64 ((l.getD (i + (1 : Int)).toNat (0 : Int)).tmod (4 : Int) * (64 : Int)), n = l.length, (0 : Int) ≤ i + (1 : Int), l.length ≤ (1000000 : Nat), Fits IntKind.i64 (i + (1 : Int)), n = l.length, (0 : Int) ≤ i, l.length ≤ (1000000 : Nat), Fits IntKind.i64 (i - (16 : Int)), decide ((17 : Int) ≤ i - (16 : Int)) = false, (0 : Nat) + (i - (16 : Int)).toNat + (0 : Nat) < o.length, (0 : Int) ≤ i - (16 : Int) ∧ i - (16 : Int) < (↑(17 : Nat) : Int), Fits IntKind.i64 (o.getD ((0 : Nat) + (i - (16 : Int)).toNat + (0 : Nat)) (0 : Int) + (5 : Int) * ((l.getD i.toNat (0 : Int)).tdiv (4 : Int) + (l.getD (i + (1 : Int)).toNat (0 : Int)).tmod (4 : Int) * (64 : Int))), Fits IntKind.i64 ((5 : Int) * ((l.getD i.toNat (0 : Int)).tdiv (4 : Int) + (l.getD (i + (1 : Int)).toNat (0 : Int)).tmod (4 : Int) * (64 : Int))), (0 : Nat) + (i - (16 : Int)).toNat + (0 : Nat) < o.length, (0 : Int) ≤ i - (16 : Int) ∧ i - (16 : Int) < (↑(17 : Nat) : Int), Fits IntKind.i64 (i - (16 : Int)), Fits IntKind.i64 (i - (16 : Int)), b = true, Fits IntKind.i64 (i + (1 : Int))]) := by kernel_rfl
theorem fo_end (n : Nat) (b : Bool) (i : Int) (l o : List Int) : runC gh 200 70 [.br false] foBody (foS n b i) [.ints .i64 l, .ints .i64 o] foKeep [0, 1] =
    some (Ex.exit (2 : Nat), [SV.sl (0 : Nat) (0 : Nat) (0 : Nat) (1 : Nat) (0 : Nat) n false, SV.sl (1 : Nat) (17 : Nat) (0 : Nat) (1 : Nat) (0 : Nat) (17 : Nat) true, SV.sbool b, SV.int IntKind.i64 i], [some (Body.ints IntKind.i64 l), some (Body.ints IntKind.i64 o)], [Fits IntKind.i64 (↑n : Int), decide (i < (↑n : Int)) = false]) := by kernel_rfl
def foG : LoopF := fun vals B => match vals, B with
  | [.sl 0 0 0 1 0 n false, .sl 1 17 0 1 0 17 true, .sbool false, .int .i64 16], [.ints K l, .ints K2 o] => match sameK K .i64, sameK K2 .i64 with
    | true, true => some ([(4, .sl 1 17 0 1 0 17 true), (6, .sbool (decide (0 < leN (l.length - 16) (hQ (atL l)) 16)))], [.ints .i64 l, .ints .i64 (listF 17 (lowS (atL l) (l.length - 16)) 0)], [n = l.length, 17 ≤ l.length, l.length ≤ 33, ∀ j, j < l.length → Byte (atL l j), o = listF 17 (lowS (atL l) 0) 0])
    | _, _ => none
  | _, _ => none
theorem b2' : ∀ j : Nat, j < 2 → ([0, 1] : List Nat)[j]? = some j := fun j hj => by
  match j, hj with
  | 0, _ => rfl
  | 1, _ => rfl
theorem fo_loop : LoopGood gh 70 (.loop foBody) foKeep 2 (.exit 2) (mkLoopN foG) := by
  refine LoopGood.mkN (by decide) fun vals B S' B' C hG hC hlen w0 O hgl => ?_
  clear hlen
  unfold foG at hG
  split at hG
  · rename_i n K l K2 o
    split at hG
    · rename_i hK hK2
      obtain rfl := kidx_inj hK
      obtain rfl := kidx_inj hK2
      simp only [Option.some.injEq, Prod.mk.injEq] at hG
      obtain ⟨rfl, rfl, rfl⟩ := hG
      simp only [allC_cons, allC_nil, and_true] at hC
      obtain ⟨rfl, h1, h2, h3, rfl⟩ := hC
      have hb := byte_zero rfl h3
      have F1 : Fits .i64 (l.length : Int) := Go.Vx.fits_small (by omega)
      show SimC _ _ _ _ _ (foS l.length (decide (0 < leN 0 (hQ (atL l)) 16)) (((0 : Nat) : Int) + 16)) [.ints .i64 l, .ints .i64 (listF 17 (lowS (atL l) 0) 0)] _ _ _ _
      refine SimC.iter (g := gh) (e := .exit 2) (S := fun k => foS l.length (decide (0 < leN k (hQ (atL l)) 16)) (((k : Nat) : Int) + 16)) (B := fun k => [.ints .i64 l, .ints .i64 (listF 17 (lowS (atL l) k) 0)]) (N := l.length - 16) (fun k hk => ?_) ?_ (by simp) 0 (by omega)
      · have t1 : ((k : Int) + 16).toNat = 16 + k := by omega
        have t2 : ((k : Int) + 16 + 1).toNat = 16 + k + 1 := by omega
        have t3 : 0 + ((k : Int) + 16 - 16).toNat + 0 = k := by omega
        have t4 : (k : Int) + 16 + 1 = ((k + 1 : Nat) : Int) + 16 := by omega
        have e1 : l.getD (16 + k) 0 = atL l (16 + k) := rfl
        have e2 : l.getD (16 + k + 1) 0 = atL l (16 + k + 1) := rfl
        have e3 : atL l (16 + k) / 4 + atL l (16 + k + 1) % 4 * 64 = hQ (atL l) (16 + k) := rfl
        have q1 := hb (16 + k)
        have q2 := hb (16 + k + 1)
        have q3 := hQ_byte q1 q2
        unfold Byte at q1 q2
        have hk17 : k < 17 := by omega
        have q5 : (listF 17 (lowS (atL l) k) 0).getD k 0 = lowS (atL l) k k := atLF hk17
        have q4 := lowS_bound hb k k
        have hs := hs_succ hb k
        have hle : (listF 17 (lowS (atL l) k) 0).length = 17 := listF_length _ _ _
        have base : ∀ b, decide (0 < leN k (hQ (atL l)) 16) = b → ∀ C, C = [Fits IntKind.i64 (l.length : Int), decide ((k : Int) + 16 < (l.length : Int)) = true, Fits IntKind.i64 (hQ (atL l) (16 + k)), Fits IntKind.i64 (atL l (16 + k + 1) % 4 * 64), l.length = l.length, (0 : Int) ≤ ((k + 1 : Nat) : Int) + 16, l.length ≤ 1000000, Fits IntKind.i64 (((k + 1 : Nat) : Int) + 16), l.length = l.length, (0 : Int) ≤ (k : Int) + 16, l.length ≤ 1000000, Fits IntKind.i64 ((k : Int) + 16 - 16), decide ((17 : Int) ≤ (k : Int) + 16 - 16) = false, k < (listF 17 (lowS (atL l) k) 0).length, (0 : Int) ≤ (k : Int) + 16 - 16 ∧ (k : Int) + 16 - 16 < ((17 : Nat) : Int), Fits IntKind.i64 ((listF 17 (lowS (atL l) k) 0).getD k 0 + 5 * hQ (atL l) (16 + k)), Fits IntKind.i64 (5 * hQ (atL l) (16 + k)), k < (listF 17 (lowS (atL l) k) 0).length, (0 : Int) ≤ (k : Int) + 16 - 16 ∧ (k : Int) + 16 - 16 < ((17 : Nat) : Int), Fits IntKind.i64 ((k : Int) + 16 - 16), Fits IntKind.i64 ((k : Int) + 16 - 16), decide (0 < leN k (hQ (atL l)) 16) = b, Fits IntKind.i64 (((k + 1 : Nat) : Int) + 16)] → AllC C := by
          rintro b hbb C rfl
          rw [q5, hle]
          simp only [allC_cons, allC_nil, and_true]
          exact ⟨F1, decide_eq_true (by omega), fits_of (by omega) (by omega), fits_of (by omega) (by omega), trivial, by omega, by omega, fits_of (by omega) (by omega), trivial, by omega, by omega, fits_of (by omega) (by omega), decide_eq_false (by omega), hk17, ⟨by omega, by omega⟩, fits_of (by omega) (by omega), fits_of (by omega) (by omega), hk17, ⟨by omega, by omega⟩, fits_of (by omega) (by omega), fits_of (by omega) (by omega), hbb, fits_of (by omega) (by omega)⟩
        cases hbb : decide (0 < leN k (hQ (atL l)) 16) with
        | false =>
          have hr := fo_go0 l.length (decide (0 < leN k (hQ (atL l)) 16)) ((k : Int) + 16) l (listF 17 (lowS (atL l) k) 0)
          rw [t1, t2, t3, t4, e1, e2, Int.tdiv_eq_ediv_of_nonneg q1.1, Int.tmod_eq_emod_of_nonneg q2.1, e3, low_set hk17] at hr
          rw [hbb, Bool.false_or] at hs
          rw [← hs] at hr
          have hr' := SimC.run (B' := [.ints .i64 l, .ints .i64 (listF 17 (lowS (atL l) (k + 1)) 0)]) (m := 2) gh_ok (by decide) hr (base false hbb _ rfl) (by decide) b2' (by decide) (by simp) hgl
          rw [hbb] at hr'
          exact hr'
        | true =>
          have hr := fo_go1 l.length (decide (0 < leN k (hQ (atL l)) 16)) ((k : Int) + 16) l (listF 17 (lowS (atL l) k) 0)
          rw [t1, t2, t3, t4, e1, e2, Int.tdiv_eq_ediv_of_nonneg q1.1, Int.tmod_eq_emod_of_nonneg q2.1, e3, low_set hk17] at hr
          rw [hbb, Bool.true_or] at hs
          have hr' := SimC.run (B' := [.ints .i64 l, .ints .i64 (listF 17 (lowS (atL l) (k + 1)) 0)]) (m := 2) gh_ok (by decide) hr (base true hbb _ rfl) (by decide) b2' (by decide) (by simp) hgl
          rw [hbb] at hr'
          show SimC _ _ _ _ _ _ _ _ (foS l.length (decide (0 < leN (k + 1) (hQ (atL l)) 16)) (((k + 1 : Nat) : Int) + 16)) _ _
          rw [hs]
          exact SimC.weakenI hr' (fun y hy => by
            simp only [foS, foKeep, List.zip_cons_cons, List.zip_nil_right, List.mem_cons, List.not_mem_nil, or_false] at hy
            rcases hy with rfl | rfl | rfl | rfl
            · exact ⟨by simp, DenImp.refl _⟩
            · exact ⟨by simp, DenImp.refl _⟩
            · exact ⟨by simp, fun _ _ _ _ h => denV_norm (c := .bool true) h⟩
            · exact ⟨by simp, DenImp.refl _⟩)
      · exact SimC.weaken (SimC.run (B' := [.ints .i64 l, .ints .i64 (listF 17 (lowS (atL l) (l.length - 16)) 0)]) gh_ok (by decide) (fo_end l.length _ _ l _) (by simp only [allC_cons, allC_nil, and_true]; exact ⟨F1, decide_eq_false (by omega)⟩) (by decide) b2' (by decide) (by simp) hgl) (sub_mkT (by simp; exact ⟨rfl, rfl⟩))
    · simp at hG
  · simp at hG
abbrev foO (l : List Int) : List Int := (List.range 16).map (fun j => l.getD j 0) ++ [(l.getD 16 0).tmod 4]
abbrev foE (l : List Int) : List Int := listF 17 (lowS (atL l) (l.length - 16)) 0
abbrev dgC (n : Nat) (l : List Int) (j : Nat) : List Prop := [j < 17, n = l.length, (0 : Int) ≤ (j : Int), l.length ≤ 1000000]
abbrev foC (n : Nat) (l : List Int) : List Prop := [(0 : Int) ≤ 17 ∧ (17 : Int) = 17 ∧ (17 : Int).toNat * 8 ≤ 2 ^ 47] ++ ((List.range 17).flatMap (dgC n l) ++ [LoopGood gh 70 (.loop foBody) foKeep 2 (.exit 2) (mkLoopN foG), n = l.length, 17 ≤ l.length, l.length ≤ 33, ∀ j, j < l.length → Byte (atL l j), foO l = listF 17 (lowS (atL l) 0) 0, 17 = (foE l).length, (foE l).length ≤ 1000000, ∀ j, j < (foE l).length → 0 ≤ atL (foE l) j ∧ atL (foE l) j ≤ 1152921504606846976, valL (foE l) < ((256 ^ (foE l).length : Nat) : Int)])
theorem fo_run (n : Nat) (l : List Int) : runF gh 400 [.loop 9 foKeep 2 (.exit 2) (mkLoopN foG)] 72 [.sl 0 0 0 1 0 n false] [.ints .i64 l] [2] =
    some (.tuple [.own 1, .sbool (decide (0 < leN (l.length - 16) (hQ (atL l)) 16))], [some (.ints .i64 l), some (.ints .i64 (listF (foE l).length (byteN (valL (foE l))) 0))], foC n l) :=
  run_parts (by kernel_rfl) (by kernel_rfl) (by kernel_rfl)
noncomputable def foF : SumF := fun args B => match args, B with
  | [x], [.ints K l] => match vwI 0 l x, sameK K .i64 with
    | some (0, n), true => some { val := .tuple [.own 1, .sbool (decide (E130 ≤ valL l))], new := [.ints .i64 (listF 17 (byteN (foldV (valL l))) 0)], C := [n = l.length, 17 ≤ l.length, l.length ≤ 33, ∀ j, j < l.length → Byte (atL l j), foldV (valL l) < 87112285931760246646623899502532662132736] }
    | _, _ => none
  | _, _ => none
theorem fo_acc : Acc gh 72 foF := by
  intro args B out h hC
  unfold foF at h
  split at h
  · rename_i x K l
    split at h
    · rename_i n hx hK
      obtain rfl := kidx_inj hK
      simp only [Option.some.injEq] at h; subst h
      simp only [allC_cons, allC_nil, and_true] at hC
      obtain ⟨rfl, h1, h2, h3, h4⟩ := hC
      have hb := byte_zero rfl h3
      refine FnOk.argsH (args' := [.sl 0 0 0 1 0 l.length false]) ?_ (fun w0 O ρ Φ w vs x d => by
        simp only [DenT] at d ⊢
        obtain ⟨v1, r1, rfl, d1, rfl⟩ := d
        exact ⟨_, _, rfl, vwI_den hx x rfl d1, rfl⟩)
      have hr := fo_run l.length l
      have eE : (foE l).length = 17 := listF_length _ _ _
      have eV : valL (foE l) = foldV (valL l) := by rw [valL_listF]; exact low_fold h1 h2 h3
      rw [hs_all h1 h3, eV, eE] at hr
      have hO : foO l = listF 17 (lowS (atL l) 0) 0 := by
        rw [listF_map]
        show _ = (List.range (16 + 1)).map _
        rw [List.range_succ, List.map_append]
        have u1 : (List.range 16).map (fun j => l.getD j 0) = (List.range 16).map (lowS (atL l) 0) := List.map_congr_left fun j hj => by
          have := List.mem_range.1 hj
          unfold lowS lowF; rw [if_pos this, if_neg (by omega), Int.add_zero]; rfl
        have u2 : [(l.getD 16 0).tmod 4] = [16].map (lowS (atL l) 0) := by
          have : lowS (atL l) 0 16 = atL l 16 % 4 := by unfold lowS lowF; simp
          show [(atL l 16).tmod 4] = [lowS (atL l) 0 16]
          rw [this, Int.tmod_eq_emod_of_nonneg (hb 16).1]
        rw [foO, u1, u2]
      have hL := fo_loop
      refine FnOk.val (FnOk.run (out := { val := .tuple [.own 1, .sbool (decide (E130 ≤ valL l))], new := [.ints .i64 (listF 17 (byteN (foldV (valL l))) 0)] }) (new := [2]) gh_ok hr ?_ (by simp [upto]) rfl (by simp) (by simp) (fun j hj => by match j, hj with | 0, _ => rfl | 1, _ => rfl)) (fun _ _ _ _ h => h)
      rw [foC, allC_append, allC_append]
      refine ⟨?_, ?_, ?_⟩
      · simp only [allC_cons, allC_nil, and_true]; decide
      · intro c hc
        obtain ⟨j, hj, hc⟩ := List.mem_flatMap.1 hc
        have hj := List.mem_range.1 hj
        simp only [dgC, List.mem_cons, List.not_mem_nil, or_false] at hc
        rcases hc with rfl | rfl | rfl | rfl
        · exact hj
        · trivial
        · omega
        · omega
      · simp only [allC_cons, allC_nil, and_true]
        refine ⟨hL, trivial, h1, h2, h3, hO, eE.symm, by omega, fun j hj => ?_, ?_⟩
        · rw [eE] at hj
          rw [atLF hj]
          have := lowS_bound hb (l.length - 16) j
          omega
        · rw [eV, eE]; exact h4
    · simp at h
  · simp at h
noncomputable abbrev gi : Ctx := gh.add [(72, foF)]
theorem gi_ok : CtxU gi := gh_ok.add mixed noGo (by
  intro x hx
  simp only [List.mem_cons, List.not_mem_nil, or_false] at hx
  rcases hx with rfl
  exact fo_acc)
end Go.Proofs.Ytejcjdhplpjpjaa
