/- Accounts of this seat's functions: lemmas, no statement of their own. No conditions. -/
import Derived.Test.YtghdadkpbofbbaaTRf
import Derived.Test.YtghdadkpbofbbaaV4
namespace Go.Proofs.Ytghdadkpbofbbaa
open Go Go.Vx
/-! ### powers -/
theorem hxL_dgQ {N : Int} (h : 0 ≤ N ∧ N < Q) : hxL (L16 (dgN N)) = N := by rw [hxL_dg, Int.emod_eq_of_lt h.1 (Int.lt_trans h.2 (by decide))]
theorem modQ (N : Int) : 0 ≤ N % Q ∧ N % Q < Q := ⟨Int.emod_nonneg _ (by decide), Int.emod_lt_of_pos _ (by decide)⟩
theorem sk_run (a : Nat → Int) (n : Int) : runF gRe 900 [] 34 [.agg (i16 a), .int .i64 n] [] [] = some (.agg (i16 (dgN (hxL (L16 a) * hxL (L16 (dgN (n % Q))) % Q))), [], [DG (atL (L16 a)), DG (atL (L16 (dgN (n % Q)))), 0 ≤ n ∧ n < 4294967296]) :=
  run_parts (by kernel_rfl) (by kernel_rfl) (by kernel_rfl)
theorem DG_L16 {a : Nat → Int} (h : DG a) : DG (atL (L16 a)) := ⟨fun i hi => by rw [atL_listF hi]; exact h.1 i hi, by rw [atL_listF (by decide)]; exact h.2⟩
noncomputable def skF : SumF := fun args B => match args, B with
  | [.agg xs, .int .i64 n], [] => match numsAs (List.replicate 16 .i64) xs with
    | some l => some { val := .agg (i16 (dgN (hxL l * n % Q))), C := [DG (atL l), 0 ≤ n ∧ n < 4294967296] }
    | none => none
  | _, _ => none
theorem acc_sk : Acc gRe 34 skF := by
  intro args B out h hC
  unfold skF at h
  split at h
  · split at h
    · rename_i l hl
      simp only [Option.some.injEq] at h; subst h
      rename_i n _
      have D1' : DG (atL l) := hC _ (by simp)
      have hn : 0 ≤ n ∧ n < 4294967296 := hC _ (by simp)
      refine FnOk.imp (args' := [.agg (i16 (atL l)), .int .i64 n]) ?_ ⟨nums_imp hl, DenImp.refl _, trivial⟩
      have hr := sk_run (atL l) n
      rw [hxL_dgQ (modQ n), hxL_L16, show hx 16 (atL l) 0 = hxL l from rfl, Int.mul_emod (hxL l) (n % Q), Int.emod_emod_of_dvd n (Int.dvd_refl Q), ← Int.mul_emod] at hr
      exact FnOk.pure gRe_ok hr (by simp only [allC_cons, allC_nil, and_true]; exact ⟨DG_L16 D1', DG_dg _, hn⟩)
    · simp at h
  · simp at h
noncomputable abbrev poBody : Code := bodyAt Try.prog 48 3
abbrev poKeep : List Nat := [1, 2, 4, 5, 6]
abbrev poS (i : Nat) : List (Nat × SV) := poKeep.zip [.own 0, .ptr 1 0, .ptr 2 0, .ptr 3 0, .int .i64 (i : Int)]
noncomputable abbrev poB (l : List Int) (a z x : Nat → Int) : List Body := [.ints .i64 l, .cells (i16 a), .cells (i16 z), .cells (i16 x)]
theorem r3_parts4 {α β γ δ : Type} {x : Option (α × β × γ × δ)} {a : α} {b : β} {c : γ} {d : δ} (h1 : x.map (·.1) = some a) (h2 : x.map (·.2.1) = some b) (h3 : x.map (·.2.2.1) = some c) (h4 : x.map (·.2.2.2) = some d) : x = some (a, b, c, d) := by
  cases x with
  | none => simp at h1
  | some y =>
    obtain ⟨y1, y2, y3, y4⟩ := y
    simp only [Option.map_some, Option.some.injEq] at h1 h2 h3 h4
    rw [h1, h2, h3, h4]
abbrev poO (i : Int) : List SV := [.own 0, .ptr 1 0, .ptr 2 0, .ptr 3 0, .int .i64 i]
abbrev sq16 (N : Int) : Int := hxL (L16 (dgN N)) * hxL (L16 (dgN N)) % Q
abbrev poC (l : List Int) (N : Int) (i : Nat) (b : Bool) : List Prop := [Fits .i64 (l.length : Int), decide ((i : Int) < (l.length : Int)) = true, DG (atL (L16 (dgN N))), DG (atL (L16 (dgN N))), i < l.length, (0 : Int) ≤ (i : Int) ∧ (i : Int) < (l.length : Int), (!decide (l.getD i 0 = 0)) = b]
theorem po_go1 (l : List Int) (a z : Nat → Int) (N : Int) (i : Nat) : runC gRe 600 26 [.br true, .br true] poBody (poS i) (poB l a z (dgN N)) poKeep [0, 1, 2, 3] =
    some (.normal, poO ((i : Int) + 1), (poB l a z (dgN (hxL (L16 (dgN (sq16 N))) * hxL (L16 a) % Q))).map some, poC l N i true ++ [DG (atL (L16 (dgN (sq16 N)))), DG (atL (L16 a)), Fits .i64 ((i : Int) + 1)]) :=
  r3_parts4 (by kernel_rfl) (by kernel_rfl) (by kernel_rfl) (by kernel_rfl)
theorem po_go0 (l : List Int) (a z : Nat → Int) (N : Int) (i : Nat) : runC gRe 600 26 [.br true, .br false] poBody (poS i) (poB l a z (dgN N)) poKeep [0, 1, 2, 3] =
    some (.normal, poO ((i : Int) + 1), (poB l a z (dgN (sq16 N))).map some, poC l N i false ++ [Fits .i64 ((i : Int) + 1)]) :=
  r3_parts4 (by kernel_rfl) (by kernel_rfl) (by kernel_rfl) (by kernel_rfl)
theorem po_end (l : List Int) (a z : Nat → Int) (N : Int) (i : Nat) : runC gRe 600 26 [.br false] poBody (poS i) (poB l a z (dgN N)) poKeep [0, 1, 2, 3] =
    some (.exit 0, poO (i : Int), (poB l a z (dgN N)).map some, [Fits .i64 (l.length : Int), decide ((i : Int) < (l.length : Int)) = false]) :=
  r3_parts4 (by kernel_rfl) (by kernel_rfl) (by kernel_rfl) (by kernel_rfl)
/-- the power by the bits, the highest first -/
def pwZ (l : List Int) (A : Int) : Nat → Int
  | 0 => 1
  | i + 1 => bif !decide (l.getD i 0 = 0) then pwZ l A i * pwZ l A i % Q * A % Q else pwZ l A i * pwZ l A i % Q
theorem pwZ_lt (l : List Int) (A : Int) : ∀ i, 0 ≤ pwZ l A i ∧ pwZ l A i < Q
  | 0 => ⟨(by decide : (0 : Int) ≤ 1), (by decide : (1 : Int) < Q)⟩
  | i + 1 => by
    simp only [pwZ]
    cases (!decide (l.getD i 0 = 0))
    · exact modQ _
    · exact modQ _
noncomputable def poG : LoopF := fun vals B => match vals, B with
  | [.own 0, .ptr 1 0, .ptr 2 0, .ptr 3 0, .int .i64 0], [.ints .i64 l, .cells us, .cells zs, .cells xs] => match numsAs (List.replicate 16 .i64) us, numsAs (List.replicate 16 .i64) zs, numsAs (List.replicate 16 .i64) xs with
    | some la, some lz, some lx => some ([(4, .ptr 2 0), (5, .ptr 3 0)], poB l (atL la) (atL lz) (dgN (pwZ l (hxL la) l.length)), [i16 (atL lx) = i16 (dgN 1), DG (atL la), l.length < 1000000000])
    | _, _, _ => none
  | _, _ => none
theorem po_loop : LoopGood gRe 26 (.loop poBody) poKeep 4 (.exit 0) (mkLoopN poG) := by
  refine LoopGood.mkN (by decide) fun vals B S' B' C hG hC hlen w0 O hgl => ?_
  clear hlen
  unfold poG at hG
  split at hG
  · rename_i l us zs xs
    split at hG
    · rename_i la lz lx ha hz hx
      simp only [Option.some.injEq, Prod.mk.injEq] at hG
      obtain ⟨rfl, rfl, rfl⟩ := hG
      simp only [allC_cons, allC_nil, and_true] at hC
      obtain ⟨c1, c2, c3⟩ := hC
      have i3 : ∀ j : Nat, j < 4 → ([0, 1, 2, 3] : List Nat)[j]? = some j := fun j hj => by
        match j, hj with
        | 0, _ => rfl
        | 1, _ => rfl
        | 2, _ => rfl
        | 3, _ => rfl
      refine SimC.preI (B1 := poB l (atL la) (atL lz) (atL lx)) ?_ ⟨⟨BImp.refl _, fun _ h => by simp at h⟩, cells_nums ha, cells_nums hz, cells_nums hx, trivial⟩
      have key : SimC gRe.P w0 O 26 (.loop poBody) (poS 0) (poB l (atL la) (atL lz) (dgN (pwZ l (hxL la) 0))) (.exit 0) [(4, .ptr 2 0), (5, .ptr 3 0)] (poB l (atL la) (atL lz) (dgN (pwZ l (hxL la) l.length))) 4 := by
        refine SimC.iter (g := gRe) (e := .exit 0) (S := fun i => poS i) (B := fun i => poB l (atL la) (atL lz) (dgN (pwZ l (hxL la) i))) (N := l.length) (fun i hi => ?_) ?_ (by simp) 0 (by omega)
        · have F : Fits .i64 ((i : Int) + 1) := fits_of (by omega) (by omega)
          have F2 : Fits .i64 (l.length : Int) := fits_of (by omega) (by omega)
          have hN := pwZ_lt l (hxL la) i
          have base : ∀ b, (!decide (l.getD i 0 = 0)) = b → AllC (poC l (pwZ l (hxL la) i) i b) := fun b hb => by
            simp only [poC, allC_cons, allC_nil, and_true]
            exact ⟨F2, decide_eq_true (by omega), DG_dg _, DG_dg _, hi, ⟨by omega, by omega⟩, hb⟩
          have es : sq16 (pwZ l (hxL la) i) = pwZ l (hxL la) i * pwZ l (hxL la) i % Q := by unfold sq16; rw [hxL_dgQ hN]
          cases hb : (!decide (l.getD i 0 = 0)) with
          | true =>
            have e : pwZ l (hxL la) (i + 1) = hxL (L16 (dgN (sq16 (pwZ l (hxL la) i)))) * hxL (L16 (atL la)) % Q := by
              rw [es, hxL_dgQ (modQ _), hxL_L16]
              show (bif !decide (l.getD i 0 = 0) then _ else _) = _
              rw [hb]; rfl
            show SimC _ _ _ _ _ (poS i) _ .normal (poS (i + 1)) (poB l (atL la) (atL lz) (dgN (pwZ l (hxL la) (i + 1)))) _
            rw [e]
            refine SimC.run (B' := poB l (atL la) (atL lz) (dgN (hxL (L16 (dgN (sq16 (pwZ l (hxL la) i)))) * hxL (L16 (atL la)) % Q))) gRe_ok (by decide) (po_go1 l _ _ _ i) ?_ (by decide) i3 (by decide) (by simp) hgl
            rw [allC_append]
            exact ⟨base true hb, by simp only [allC_cons, allC_nil, and_true]; exact ⟨DG_dg _, DG_L16 c2, F⟩⟩
          | false =>
            have e : pwZ l (hxL la) (i + 1) = sq16 (pwZ l (hxL la) i) := by
              rw [es]
              show (bif !decide (l.getD i 0 = 0) then _ else _) = _
              rw [hb]; rfl
            show SimC _ _ _ _ _ (poS i) _ .normal (poS (i + 1)) (poB l (atL la) (atL lz) (dgN (pwZ l (hxL la) (i + 1)))) _
            rw [e]
            refine SimC.run (B' := poB l (atL la) (atL lz) (dgN (sq16 (pwZ l (hxL la) i)))) gRe_ok (by decide) (po_go0 l _ _ _ i) ?_ (by decide) i3 (by decide) (by simp) hgl
            rw [allC_append]
            exact ⟨base false hb, by simp only [allC_cons, allC_nil, and_true]; exact F⟩
        · have F2 : Fits .i64 (l.length : Int) := fits_of (by omega) (by omega)
          exact SimC.weaken (SimC.run (B' := poB l (atL la) (atL lz) (dgN (pwZ l (hxL la) l.length))) gRe_ok (by decide) (po_end l _ _ _ _) (by simp only [allC_cons, allC_nil, and_true]; exact ⟨F2, decide_eq_false (by omega)⟩) (by decide) i3 (by decide) (by simp) hgl) (sub_mkT (by simp; exact ⟨rfl, rfl⟩))
      show SimC _ _ _ _ _ (poS 0) [.ints .i64 l, .cells (i16 (atL la)), .cells (i16 (atL lz)), .cells (i16 (atL lx))] _ _ _ _
      rw [c1]
      exact key
    · simp at hG
  · simp at hG
abbrev poR (l : List Int) (a : Nat → Int) : List Prop := [i16 (atL (L16 (dgN (1 % Q)))) = i16 (dgN 1), DG (atL (L16 a)), l.length < 1000000000]
theorem po_run (l : List Int) (a : Nat → Int) : runF gRe 900 [.loop 3 poKeep 4 (.exit 0) (mkLoopN poG)] 48 [.agg (i16 a), .own 0] [.ints .i64 l] [] = some (.agg (i16 (dgN (pwZ l (hxL (L16 a)) l.length))), [some (.ints .i64 l)], [(0 : Int) ≤ 1 ∧ (1 : Int) < 4294967296, LoopGood gRe 26 (.loop poBody) poKeep 4 (.exit 0) (mkLoopN poG)] ++ poR l a) :=
  run_parts (by kernel_rfl) (by kernel_rfl) (by kernel_rfl)
end Go.Proofs.Ytghdadkpbofbbaa
