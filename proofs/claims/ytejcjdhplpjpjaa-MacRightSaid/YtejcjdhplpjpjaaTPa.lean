/- Accounts of this seat's functions: lemmas, no statement of their own. No conditions. -/
import Derived.Test.YtejcjdhplpjpjaaTC
import Derived.Test.YtejcjdhplpjpjaaV4
namespace Go.Proofs.Ytejcjdhplpjpjaa
open Go Go.Vx
theorem r3_parts4 {α β γ δ : Type} {x : Option (α × β × γ × δ)} {a : α} {b : β} {c : γ} {d : δ} (h1 : x.map (·.1) = some a) (h2 : x.map (·.2.1) = some b) (h3 : x.map (·.2.2.1) = some c) (h4 : x.map (·.2.2.2) = some d) : x = some (a, b, c, d) := by
  cases x with
  | none => simp at h1
  | some y =>
    obtain ⟨y1, y2, y3, y4⟩ := y
    simp only [Option.map_some, Option.some.injEq] at h1 h2 h3 h4
    rw [h1, h2, h3, h4]
/-! ### the document's numbers modulo 2^130 - 5: digit -/
theorem dg_run1 (n : Nat) (l : List Int) (i : Int) : runF gp 100 [.br true] 73 [.sl 0 0 0 1 0 n false, .int .i64 i] [.ints .i64 l] [] =
    some (SV.int IntKind.i64 (l.getD ((0 : Nat) + i.toNat + (0 : Nat)) (0 : Int)), [some (Body.ints IntKind.i64 l)], [Fits IntKind.i64 (↑n : Int), decide (i < (↑n : Int)) = true, (0 : Nat) + i.toNat + (0 : Nat) < l.length, (0 : Int) ≤ i ∧ i < (↑n : Int)]) := by kernel_rfl
theorem dg_run0 (n : Nat) (l : List Int) (i : Int) : runF gp 100 [.br false] 73 [.sl 0 0 0 1 0 n false, .int .i64 i] [.ints .i64 l] [] =
    some (SV.lit IntKind.i64 (0 : Int), [some (Body.ints IntKind.i64 l)], [Fits IntKind.i64 (↑n : Int), decide (i < (↑n : Int)) = false]) := by kernel_rfl
def dgF : SumF := fun args B => match args, B with
  | [x, .int .i64 i], [.ints K l] => match vwI 0 l x, sameK K .i64 with
    | some (0, n), true => some { val := .int .i64 (l.getD i.toNat 0), C := [n = l.length, 0 ≤ i, l.length ≤ 1000000] }
    | _, _ => none
  | _, _ => none
theorem dg_acc : Acc gp 73 dgF := by
  intro args B out h hC
  unfold dgF at h
  split at h
  · rename_i x i K l
    split at h
    · rename_i n hx hK
      obtain rfl := kidx_inj hK
      simp only [Option.some.injEq] at h; subst h
      simp only [allC_cons, allC_nil, and_true] at hC
      obtain ⟨rfl, h1, h2⟩ := hC
      have F1 : Fits .i64 (l.length : Int) := Go.Vx.fits_small (by omega)
      refine FnOk.argsH (args' := [.sl 0 0 0 1 0 l.length false, .int .i64 i]) ?_ (fun w0 O ρ Φ w vs x d => by
        simp only [DenT] at d ⊢
        obtain ⟨v1, r1, rfl, d1, v2, r2, rfl, d2, rfl⟩ := d
        exact ⟨_, _, rfl, vwI_den hx x rfl d1, _, _, rfl, d2, rfl⟩)
      by_cases hi : i < (l.length : Int)
      · have e : 0 + i.toNat + 0 = i.toNat := by omega
        have hr := dg_run1 l.length l i
        rw [e] at hr
        exact FnOk.val (FnOk.run (out := { val := .int .i64 (l.getD i.toNat 0) }) (new := []) gp_ok hr (by simp only [allC_cons, allC_nil, and_true]; exact ⟨F1, decide_eq_true hi, by omega, h1, hi⟩) (by simp [upto]) rfl (by simp) (by simp) (fun j hj => by match j, hj with | 0, _ => rfl)) (fun _ _ _ _ h => h)
      · have hr := dg_run0 l.length l i
        have e : l.getD i.toNat 0 = 0 := by rw [List.getD_eq_getElem?_getD, List.getElem?_eq_none (by omega)]; rfl
        rw [e]
        refine FnOk.val (FnOk.run (out := { val := .lit .i64 0 }) (new := []) gp_ok hr (by simp only [allC_cons, allC_nil, and_true]; exact ⟨F1, decide_eq_false hi⟩) (by simp [upto]) rfl (by simp) (by simp) (fun j hj => by match j, hj with | 0, _ => rfl)) (fun _ _ _ _ h => denV_norm h)
    · simp at h
  · simp at h
/-! ### carried -/
abbrev caKeep : List Nat := [0, 3, 4, 5]
noncomputable abbrev caBody : Code := bodyAt Try.prog 71 4
noncomputable abbrev caS (n : Nat) (c : Int) (i : Nat) : List (Nat × SV) := caKeep.zip [.sl 0 0 0 1 0 n false, .own 1, .int .i64 c, .int .i64 (i : Int)]
theorem ca_go (n i : Nat) (c : Int) (l o : List Int) : runC gp 200 35 [.br true] caBody (caS n c i) [.ints .i64 l, .ints .i64 o] caKeep [0, 3] =
    some (Ex.normal, [SV.sl (0 : Nat) (0 : Nat) (0 : Nat) (1 : Nat) (0 : Nat) n false, SV.own (1 : Nat), SV.int IntKind.i64 ((c + l.getD ((0 : Nat) + i + (0 : Nat)) (0 : Int)).tdiv (256 : Int)), SV.int IntKind.i64 ((↑i : Int) + (1 : Int))], [some (Body.ints IntKind.i64 l), some (Body.ints IntKind.i64 (o ++ [(c + l.getD ((0 : Nat) + i + (0 : Nat)) (0 : Int)).tmod (256 : Int)]))], [Fits IntKind.i64 (↑n : Int), decide ((↑i : Int) < (↑n : Int)) = true, Fits IntKind.i64 (c + l.getD ((0 : Nat) + i + (0 : Nat)) (0 : Int)), (0 : Nat) + i + (0 : Nat) < l.length, (0 : Int) ≤ (↑i : Int) ∧ (↑i : Int) < (↑n : Int), (o ++ [(c + l.getD ((0 : Nat) + i + (0 : Nat)) (0 : Int)).tmod (256 : Int)]).length * (8 : Nat) ≤ (140737488355328 : Nat), Fits IntKind.i64 ((↑i : Int) + (1 : Int))]) := by kernel_rfl
theorem ca_end (n i : Nat) (c : Int) (l o : List Int) : runC gp 200 35 [.br false] caBody (caS n c i) [.ints .i64 l, .ints .i64 o] caKeep [0, 1] =
    some (Ex.exit (0 : Nat), [SV.sl (0 : Nat) (0 : Nat) (0 : Nat) (1 : Nat) (0 : Nat) n false, SV.own (1 : Nat), SV.int IntKind.i64 c, SV.int IntKind.i64 (↑i : Int)], [some (Body.ints IntKind.i64 l), some (Body.ints IntKind.i64 o)], [Fits IntKind.i64 (↑n : Int), decide ((↑i : Int) < (↑n : Int)) = false]) := by kernel_rfl
def caG : LoopF := fun vals B => match vals, B with
  | [.sl 0 0 0 1 0 n false, .raw (.slice none 0 0), .int .i64 0, .int .i64 0], [.ints K l] => match sameK K .i64 with
    | true => some ([(3, .own 1), (4, .int .i64 (bcr (atL l) l.length))], [.ints .i64 l, .ints .i64 (cdP l l.length)], [n = l.length, l.length ≤ 1000000, ∀ j, j < l.length → 0 ≤ atL l j ∧ atL l j ≤ 1152921504606846976])
    | _ => none
  | _, _ => none
theorem b1 : ∀ j : Nat, j < 1 → ([0, 3] : List Nat)[j]? = some j := fun j hj => by
  match j, hj with
  | 0, _ => rfl
theorem b1' : ∀ j : Nat, j < 1 → ([0, 1] : List Nat)[j]? = some j := fun j hj => by
  match j, hj with
  | 0, _ => rfl
theorem ca_loop : LoopGood gp 35 (.loop caBody) caKeep 1 (.exit 0) (mkLoopN caG) := by
  refine LoopGood.mkN (by decide) fun vals B S' B' C hG hC hlen w0 O hgl => ?_
  clear hlen
  unfold caG at hG
  split at hG
  · rename_i n K l
    split at hG
    · rename_i hK
      obtain rfl := kidx_inj hK
      simp only [Option.some.injEq, Prod.mk.injEq] at hG
      obtain ⟨rfl, rfl, rfl⟩ := hG
      simp only [allC_cons, allC_nil, and_true] at hC
      obtain ⟨rfl, h1, h2⟩ := hC
      have F1 : Fits .i64 (l.length : Int) := Go.Vx.fits_small (by omega)
      have hb := bcr_bound (t := atL l) (n := l.length) (M := 1152921504606846976) (by decide) h2
      refine SimC.adoptS (.ints .i64 []) 3 rfl rfl (by simp) (by simp) ?_
      show SimC _ _ _ _ _ (caS l.length (bcr (atL l) 0) 0) [.ints .i64 l, .ints .i64 (cdP l 0)] _ _ _ _
      refine SimC.iter (g := gp) (e := .exit 0) (S := fun i => caS l.length (bcr (atL l) i) i) (B := fun i => [.ints .i64 l, .ints .i64 (cdP l i)]) (N := l.length) (fun i hi => ?_) ?_ (by simp) 0 (by omega)
      · have F4 : Fits .i64 ((i : Int) + 1) := fits_of (by omega) (by omega)
        have e0 : 0 + i + 0 = i := by omega
        have hr := ca_go l.length i (bcr (atL l) i) l (cdP l i)
        have hbi := hb i (by omega)
        have hli := h2 i hi
        have e1 : l.getD i 0 = atL l i := rfl
        rw [e0, e1, Int.tdiv_eq_ediv_of_nonneg (by omega), Int.tmod_eq_emod_of_nonneg (by omega), ← cdP_succ] at hr
        refine SimC.run (B' := [.ints .i64 l, .ints .i64 (cdP l (i + 1))]) gp_ok (by decide) hr ?_ (by decide) b1 (by decide) (by simp) hgl
        have hl : (cdP l (i + 1)).length = i + 1 := by simp [cdP]
        simp only [allC_cons, allC_nil, and_true]
        exact ⟨F1, decide_eq_true (by omega), fits_of (by omega) (by omega), hi, ⟨by omega, by omega⟩, by omega, F4⟩
      · exact SimC.weaken (SimC.run (B' := [.ints .i64 l, .ints .i64 (cdP l l.length)]) gp_ok (by decide) (ca_end l.length l.length _ l (cdP l l.length)) (by simp only [allC_cons, allC_nil, and_true]; exact ⟨F1, decide_eq_false (by omega)⟩) (by decide) b1' (by decide) (by simp) hgl) (sub_mkT (by simp; exact ⟨rfl, rfl⟩))
    · simp at hG
  · simp at hG
theorem ca_run (n : Nat) (l : List Int) : runF gp 300 [.loop 4 caKeep 1 (.exit 0) (mkLoopN caG), .br false] 71 [.sl 0 0 0 1 0 n false] [.ints .i64 l] [1] =
    some (.own 1, [some (.ints .i64 l), some (.ints .i64 (cdP l l.length))], [LoopGood gp 35 (.loop caBody) caKeep 1 (.exit 0) (mkLoopN caG), n = l.length, l.length ≤ 1000000, ∀ j, j < l.length → 0 ≤ atL l j ∧ atL l j ≤ 1152921504606846976, decide (0 < bcr (atL l) l.length) = false]) :=
  run_parts (by kernel_rfl) (by kernel_rfl) (by kernel_rfl)
noncomputable def caF : SumF := fun args B => match args, B with
  | [x], [.ints K l] => match vwI 0 l x, sameK K .i64 with
    | some (0, n), true => some { val := .own 1, new := [.ints .i64 (listF l.length (byteN (valL l)) 0)], C := [n = l.length, l.length ≤ 1000000, ∀ j, j < l.length → 0 ≤ atL l j ∧ atL l j ≤ 1152921504606846976, valL l < ((256 ^ l.length : Nat) : Int)] }
    | _, _ => none
  | _, _ => none
theorem ca_acc : Acc gp 71 caF := by
  intro args B out h hC
  unfold caF at h
  split at h
  · rename_i x K l
    split at h
    · rename_i n hx hK
      obtain rfl := kidx_inj hK
      simp only [Option.some.injEq] at h; subst h
      simp only [allC_cons, allC_nil, and_true] at hC
      obtain ⟨rfl, h1, h2, h3⟩ := hC
      have hp : 0 ≤ valL l := leN_pos l.length 0 fun j hj => by rw [Nat.zero_add]; exact (h2 j hj).1
      have hz : bcr (atL l) l.length = 0 := by rw [← bcr_end]; exact Int.ediv_eq_zero_of_lt hp h3
      have hL := ca_loop
      refine FnOk.argsH (args' := [.sl 0 0 0 1 0 l.length false]) ?_ (fun w0 O ρ Φ w vs x d => by
        simp only [DenT] at d ⊢
        obtain ⟨v1, r1, rfl, d1, rfl⟩ := d
        exact ⟨_, _, rfl, vwI_den hx x rfl d1, rfl⟩)
      have hr := ca_run l.length l
      rw [cdP_all] at hr
      exact FnOk.run (out := { val := .own 1, new := [.ints .i64 (listF l.length (byteN (valL l)) 0)] }) (new := [1]) gp_ok hr (by simp only [allC_cons, allC_nil, and_true]; exact ⟨hL, trivial, h1, h2, by rw [hz]; decide⟩) (by simp [upto]) rfl (by simp) (by simp) (fun j hj => by match j, hj with | 0, _ => rfl | 1, _ => rfl)
    · simp at h
  · simp at h
noncomputable abbrev gh : Ctx := gp.add [(73, dgF), (71, caF)]
theorem gh_ok : CtxU gh := gp_ok.add mixed noGo (by
  intro x hx
  simp only [List.mem_cons, List.not_mem_nil, or_false] at hx
  rcases hx with rfl | rfl
  · exact dg_acc
  · exact ca_acc)
end Go.Proofs.Ytejcjdhplpjpjaa
