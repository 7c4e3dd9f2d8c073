/- Accounts of this seat's functions: lemmas, no statement of their own. No conditions. -/
import Derived.Test.YtejcjdhplpjpjaaTPb
namespace Go.Proofs.Ytejcjdhplpjpjaa
open Go Go.Vx
/-! ### least -/
abbrev rdKeep : List Nat := [2, 0, 3]
noncomputable abbrev rdBody : Code := bodyAt Try.prog 61 3
noncomputable abbrev rdS (b : Bool) : List (Nat × SV) := rdKeep.zip [.ptr 0 0, .own 1, .sbool b]
noncomputable abbrev dgB (n : Nat) (V : Int) : Body := .ints .i64 (listF n (byteN V) 0)
noncomputable abbrev z17 (z : Nat → Int) : Body := .cells (svF (List.replicate 17 .i64) z 0)
theorem rd_go (z : Nat → Int) (l : List Int) : runC gi 200 54 [.br true] rdBody (rdS true) [z17 z, .ints .i64 l] rdKeep [0, 2] =
    some (.normal, [.ptr 0 0, .own 1, .sbool (decide (E130 ≤ valL l))], [z17 z, dgB 17 (foldV (valL l))].map some, [true = true, l.length = l.length, 17 ≤ l.length, l.length ≤ 33, ∀ j, j < l.length → Byte (atL l j), foldV (valL l) < 87112285931760246646623899502532662132736]) :=
  r3_parts4 (by kernel_rfl) (by kernel_rfl) (by kernel_rfl) (by kernel_rfl)
theorem rd_end (z : Nat → Int) (l : List Int) : runC gi 200 54 [.br false] rdBody (rdS false) [z17 z, .ints .i64 l] rdKeep [0, 1] =
    some (.exit 0, [.ptr 0 0, .own 1, .sbool false], [z17 z, .ints .i64 l].map some, [false = false]) :=
  r3_parts4 (by kernel_rfl) (by kernel_rfl) (by kernel_rfl) (by kernel_rfl)
theorem b1y : ∀ j : Nat, j < 1 → ([0, 2] : List Nat)[j]? = some j := fun j hj => by
  match j, hj with
  | 0, _ => rfl
theorem rd_sim {w0 : World} {O : Go.Vx.Own} (hgl : GlobOk gi w0 O) (z : Nat → Int) : ∀ (n : Nat) (l : List Int), n ≤ 3 → 17 ≤ l.length → l.length ≤ 33 → (∀ j, j < l.length → Byte (atL l j)) → valL l < bndR n →
    SimC gi.P w0 O 54 (.loop rdBody) (rdS true) [z17 z, .ints .i64 l] (.exit 0) [(2, .ptr 0 0), (0, .own 1)] [z17 z, dgB 17 (redF n (valL l))] 1 := by
  intro n
  induction n with
  | zero => 
    intro l hn h1 h2 h3 h4
    have h0 : 0 ≤ valL l := leN_pos l.length 0 fun j hj => by rw [Nat.zero_add]; exact (h3 j hj).1
    have hb := fold_lt h0 (Int.lt_of_lt_of_le h4 (bndR_le 0 hn))
    have s1 := SimC.run (B' := [z17 z, dgB 17 (foldV (valL l))]) (m := 1) (O := O) (w0 := w0) gi_ok (by decide) (rd_go z l) (by simp only [allC_cons, allC_nil, and_true]; exact ⟨trivial, trivial, h1, h2, h3, hb.2⟩) (by decide) b1y (by decide) (by simp) hgl
    rw [decide_eq_false (show ¬ E130 ≤ valL l by simp only [bndR] at h4; omega), foldV_small h0 h4] at s1
    refine SimC.next (Nat.le_refl 1) s1 (SimC.done ?_ (by simp))
    exact SimC.weaken (SimC.run (B' := [z17 z, dgB 17 (valL l)]) gi_ok (by decide) (rd_end z _) (by simp only [allC_cons, allC_nil, and_true]) (by decide) b1' (by decide) (by simp) hgl) (sub_mkT (by simp; exact ⟨rfl, rfl⟩))
  | succ n ih =>
    intro l hn h1 h2 h3 h4
    have h0 : 0 ≤ valL l := leN_pos l.length 0 fun j hj => by rw [Nat.zero_add]; exact (h3 j hj).1
    have hb := fold_lt h0 (Int.lt_of_lt_of_le h4 (bndR_le (n + 1) hn))
    have s1 := SimC.run (B' := [z17 z, dgB 17 (foldV (valL l))]) (m := 1) (O := O) (w0 := w0) gi_ok (by decide) (rd_go z l) (by simp only [allC_cons, allC_nil, and_true]; exact ⟨trivial, trivial, h1, h2, h3, hb.2⟩) (by decide) b1y (by decide) (by simp) hgl
    by_cases hv : valL l < E130
    · rw [decide_eq_false (show ¬ E130 ≤ valL l by omega), foldV_small h0 hv] at s1
      rw [redF_small hv]
      refine SimC.next (Nat.le_refl 1) s1 (SimC.done ?_ (by simp))
      exact SimC.weaken (SimC.run (B' := [z17 z, dgB 17 (valL l)]) gi_ok (by decide) (rd_end z _) (by simp only [allC_cons, allC_nil, and_true]) (by decide) b1' (by decide) (by simp) hgl) (sub_mkT (by simp; exact ⟨rfl, rfl⟩))
    · rw [decide_eq_true (show E130 ≤ valL l by omega)] at s1
      have e : redF (n + 1) (valL l) = redF n (foldV (valL l)) := by simp only [redF]; rw [if_neg hv]
      have ev : valL (listF 17 (byteN (foldV (valL l))) 0) = foldV (valL l) := val_bytes hb.1 hb.2
      rw [e]
      refine SimC.next (Nat.le_refl 1) s1 ?_
      have := ih (listF 17 (byteN (foldV (valL l))) 0) (by omega) (by rw [listF_length]; omega) (by rw [listF_length]; omega) (fun j hj => Go.Vx.bytes_list j hj) (by rw [ev]; exact (foldV_bnd h0 n (by omega) h4).2 (by omega))
      rw [ev] at this
      exact this
noncomputable def rdG : LoopF := fun vals B => match vals, B with
  | [.ptr 0 0, .own 1, .sbool true], [.cells cs, .ints K l] => match sameK K .i64, numsAs (List.replicate 17 .i64) cs with
    | true, some lz => some ([(2, .ptr 0 0), (0, .own 1)], [z17 (atL lz), dgB 17 (redF 3 (valL l))], [17 ≤ l.length, l.length ≤ 33, ∀ j, j < l.length → Byte (atL l j), valL l < E130 * E130])
    | _, _ => none
  | _, _ => none
theorem rd_loop : LoopGood gi 54 (.loop rdBody) rdKeep 1 (.exit 0) (mkLoopN rdG) := by
  refine LoopGood.mkN (by decide) fun vals B S' B' C hG hC hlen w0 O hgl => ?_
  clear hlen
  unfold rdG at hG
  split at hG
  · rename_i cs K l
    split at hG
    · rename_i lz hK hz
      obtain rfl := kidx_inj hK
      simp only [Option.some.injEq, Prod.mk.injEq] at hG
      obtain ⟨rfl, rfl, rfl⟩ := hG
      simp only [allC_cons, allC_nil, and_true] at hC
      obtain ⟨h1, h2, h3, h4⟩ := hC
      refine SimC.preI (B1 := [z17 (atL lz), .ints .i64 l]) ?_ ⟨cells_nums hz, ⟨BImp.refl _, fun _ h => by simp at h⟩, trivial⟩
      exact rd_sim hgl (atL lz) 3 l (by omega) h1 h2 h3 h4
    · simp at hG
  · simp at hG
theorem b1z : ∀ j : Nat, j < 1 → ([0] : List Nat)[j]? = some j := fun j hj => by
  match j, hj with
  | 0, _ => rfl
/-! the highest digits -/
abbrev hgKeep : List Nat := [2, 0, 4, 5]
noncomputable abbrev hgBody : Code := bodyAt Try.prog 61 7
noncomputable abbrev hgS (b : Bool) (i : Int) : List (Nat × SV) := hgKeep.zip [.ptr 0 0, .own 1, .sbool b, .int .i64 i]
theorem hg_t0 (z : Nat → Int) (b : Bool) (i : Int) (l : List Int) : runC gi 200 54 [.br true, .br true, .br false] hgBody (hgS b i) [z17 z, .ints .i64 l] hgKeep [0, 1] =
    some (Ex.normal, [SV.ptr (0 : Nat) (0 : Nat), SV.own (1 : Nat), SV.bool false, SV.int IntKind.i64 (i + (1 : Int))], [some (Body.cells [SV.int IntKind.i64 (z (0 : Nat)), SV.int IntKind.i64 (z (1 : Nat)), SV.int IntKind.i64 (z (2 : Nat)), SV.int IntKind.i64 (z (3 : Nat)), SV.int IntKind.i64 (z (4 : Nat)), SV.int IntKind.i64 (z (5 : Nat)), SV.int IntKind.i64 (z (6 : Nat)), SV.int IntKind.i64 (z (7 : Nat)), SV.int IntKind.i64 (z (8 : Nat)), SV.int IntKind.i64 (z (9 : Nat)), SV.int IntKind.i64 (z (10 : Nat)), SV.int IntKind.i64 (z (11 : Nat)), SV.int IntKind.i64 (z (12 : Nat)), SV.int IntKind.i64 (z (13 : Nat)), SV.int IntKind.i64 (z (14 : Nat)), SV.int IntKind.i64 (z (15 : Nat)), SV.int IntKind.i64 (z (16 : Nat))]), some (Body.ints IntKind.i64 l)], [decide (i < (17 : Int)) = true, decide (i = (16 : Int)) = true, b = false, Fits IntKind.i64 (i + (1 : Int))]) := by kernel_rfl
theorem hg_t1 (z : Nat → Int) (b : Bool) (i : Int) (l : List Int) : runC gi 200 54 [.br true, .br true, .br true] hgBody (hgS b i) [z17 z, .ints .i64 l] hgKeep [0, 1] =
    some (Ex.normal, [SV.ptr (0 : Nat) (0 : Nat), SV.own (1 : Nat), SV.sbool (decide (l.getD i.toNat (0 : Int) = (3 : Int))), SV.int IntKind.i64 (i + (1 : Int))], [some (Body.cells [SV.int IntKind.i64 (z (0 : Nat)), SV.int IntKind.i64 (z (1 : Nat)), SV.int IntKind.i64 (z (2 : Nat)), SV.int IntKind.i64 (z (3 : Nat)), SV.int IntKind.i64 (z (4 : Nat)), SV.int IntKind.i64 (z (5 : Nat)), SV.int IntKind.i64 (z (6 : Nat)), SV.int IntKind.i64 (z (7 : Nat)), SV.int IntKind.i64 (z (8 : Nat)), SV.int IntKind.i64 (z (9 : Nat)), SV.int IntKind.i64 (z (10 : Nat)), SV.int IntKind.i64 (z (11 : Nat)), SV.int IntKind.i64 (z (12 : Nat)), SV.int IntKind.i64 (z (13 : Nat)), SV.int IntKind.i64 (z (14 : Nat)), SV.int IntKind.i64 (z (15 : Nat)), SV.int IntKind.i64 (z (16 : Nat))]), some (Body.ints IntKind.i64 l)], [decide (i < (17 : Int)) = true, decide (i = (16 : Int)) = true, l.length = l.length, (0 : Int) ≤ i, l.length ≤ (1000000 : Nat), b = true, Fits IntKind.i64 (i + (1 : Int))]) := by kernel_rfl
theorem hg_f0 (z : Nat → Int) (b : Bool) (i : Int) (l : List Int) : runC gi 200 54 [.br true, .br false, .br false] hgBody (hgS b i) [z17 z, .ints .i64 l] hgKeep [0, 1] =
    some (Ex.normal, [SV.ptr (0 : Nat) (0 : Nat), SV.own (1 : Nat), SV.bool false, SV.int IntKind.i64 (i + (1 : Int))], [some (Body.cells [SV.int IntKind.i64 (z (0 : Nat)), SV.int IntKind.i64 (z (1 : Nat)), SV.int IntKind.i64 (z (2 : Nat)), SV.int IntKind.i64 (z (3 : Nat)), SV.int IntKind.i64 (z (4 : Nat)), SV.int IntKind.i64 (z (5 : Nat)), SV.int IntKind.i64 (z (6 : Nat)), SV.int IntKind.i64 (z (7 : Nat)), SV.int IntKind.i64 (z (8 : Nat)), SV.int IntKind.i64 (z (9 : Nat)), SV.int IntKind.i64 (z (10 : Nat)), SV.int IntKind.i64 (z (11 : Nat)), SV.int IntKind.i64 (z (12 : Nat)), SV.int IntKind.i64 (z (13 : Nat)), SV.int IntKind.i64 (z (14 : Nat)), SV.int IntKind.i64 (z (15 : Nat)), SV.int IntKind.i64 (z (16 : Nat))]), some (Body.ints IntKind.i64 l)], [decide (i < (17 : Int)) = true, decide (i = (16 : Int)) = false, b = false, Fits IntKind.i64 (i + (1 : Int))]) := by kernel_rfl
theorem hg_f1 (z : Nat → Int) (b : Bool) (i : Int) (l : List Int) : runC gi 200 54 [.br true, .br false, .br true] hgBody (hgS b i) [z17 z, .ints .i64 l] hgKeep [0, 1] =
    some (Ex.normal, [SV.ptr (0 : Nat) (0 : Nat), SV.own (1 : Nat), SV.sbool (decide (l.getD i.toNat (0 : Int) = (255 : Int))), SV.int IntKind.i64 (i + (1 : Int))], [some (Body.cells [SV.int IntKind.i64 (z (0 : Nat)), SV.int IntKind.i64 (z (1 : Nat)), SV.int IntKind.i64 (z (2 : Nat)), SV.int IntKind.i64 (z (3 : Nat)), SV.int IntKind.i64 (z (4 : Nat)), SV.int IntKind.i64 (z (5 : Nat)), SV.int IntKind.i64 (z (6 : Nat)), SV.int IntKind.i64 (z (7 : Nat)), SV.int IntKind.i64 (z (8 : Nat)), SV.int IntKind.i64 (z (9 : Nat)), SV.int IntKind.i64 (z (10 : Nat)), SV.int IntKind.i64 (z (11 : Nat)), SV.int IntKind.i64 (z (12 : Nat)), SV.int IntKind.i64 (z (13 : Nat)), SV.int IntKind.i64 (z (14 : Nat)), SV.int IntKind.i64 (z (15 : Nat)), SV.int IntKind.i64 (z (16 : Nat))]), some (Body.ints IntKind.i64 l)], [decide (i < (17 : Int)) = true, decide (i = (16 : Int)) = false, l.length = l.length, (0 : Int) ≤ i, l.length ≤ (1000000 : Nat), b = true, Fits IntKind.i64 (i + (1 : Int))]) := by kernel_rfl
theorem hg_end (z : Nat → Int) (b : Bool) (i : Int) (l : List Int) : runC gi 200 54 [.br false] hgBody (hgS b i) [z17 z, .ints .i64 l] hgKeep [0, 1] =
    some (Ex.exit (2 : Nat), [SV.ptr (0 : Nat) (0 : Nat), SV.own (1 : Nat), SV.sbool b, SV.int IntKind.i64 i], [some (Body.cells [SV.int IntKind.i64 (z (0 : Nat)), SV.int IntKind.i64 (z (1 : Nat)), SV.int IntKind.i64 (z (2 : Nat)), SV.int IntKind.i64 (z (3 : Nat)), SV.int IntKind.i64 (z (4 : Nat)), SV.int IntKind.i64 (z (5 : Nat)), SV.int IntKind.i64 (z (6 : Nat)), SV.int IntKind.i64 (z (7 : Nat)), SV.int IntKind.i64 (z (8 : Nat)), SV.int IntKind.i64 (z (9 : Nat)), SV.int IntKind.i64 (z (10 : Nat)), SV.int IntKind.i64 (z (11 : Nat)), SV.int IntKind.i64 (z (12 : Nat)), SV.int IntKind.i64 (z (13 : Nat)), SV.int IntKind.i64 (z (14 : Nat)), SV.int IntKind.i64 (z (15 : Nat)), SV.int IntKind.i64 (z (16 : Nat))]), some (Body.ints IntKind.i64 l)], [decide (i < (17 : Int)) = false]) := by kernel_rfl
noncomputable def hgG : LoopF := fun vals B => match vals, B with
  | [.ptr 0 0, .own 1, .sbool true, .int .i64 1], [.cells cs, .ints K l] => match sameK K .i64, numsAs (List.replicate 17 .i64) cs with
    | true, some lz => some ([(2, .ptr 0 0), (0, .own 1), (4, .sbool (hiF (valL l) 16))], [z17 (atL lz), .ints .i64 l], [l.length = 17, ∀ j, j < l.length → Byte (atL l j)])
    | _, _ => none
  | _, _ => none
theorem hg_round {w0 : World} {O : Go.Vx.Own} (hgl : GlobOk gi w0 O) (z : Nat → Int) {l : List Int} (h1 : l.length = 17) (h3 : ∀ j, j < l.length → Byte (atL l j)) {k : Nat} (hk : k < 16) :
    SimC gi.P w0 O 54 hgBody (hgS (hiF (valL l) k) ((k : Int) + 1)) [z17 z, .ints .i64 l] .normal (hgS (hiF (valL l) (k + 1)) (((k + 1 : Nat) : Int) + 1)) [z17 z, .ints .i64 l] 2 := by
  have t1 : ((k : Int) + 1).toNat = k + 1 := by omega
  have t2 : (k : Int) + 1 + 1 = ((k + 1 : Nat) : Int) + 1 := by omega
  have ed : l.getD (k + 1) 0 = byteN (valL l) (k + 1) := by
    have := byte_leN l.length (f := atL l) 0 (fun j hj => by rw [Nat.zero_add]; exact h3 j hj) (k + 1) (by omega)
    rw [Nat.zero_add] at this
    exact this.symm
  have F : Fits .i64 (((k + 1 : Nat) : Int) + 1) := fits_of (by omega) (by omega)
  have D1 : decide ((k : Int) + 1 < 17) = true := decide_eq_true (by omega)
  have hz : ∀ y ∈ hgS (hiF (valL l) (k + 1)) (((k + 1 : Nat) : Int) + 1), y.1 < 65535 := fun y hy => by
    simp only [hgS, hgKeep, List.zip_cons_cons, List.zip_nil_right, List.mem_cons, List.not_mem_nil, or_false] at hy
    rcases hy with rfl | rfl | rfl | rfl <;> simp
  have fin0 : hiF (valL l) k = false → hiF (valL l) (k + 1) = false := fun h => by simp only [hiF]; rw [h]; rfl
  have fin1 : hiF (valL l) k = true → hiF (valL l) (k + 1) = decide (byteN (valL l) (k + 1) = hiM (k + 1)) := fun h => by simp only [hiF]; rw [h]; rfl
  by_cases e16 : k = 15
  · have D2 : decide ((k : Int) + 1 = 16) = true := decide_eq_true (by omega)
    have hm : hiM (k + 1) = 3 := by rw [e16]; rfl
    cases hb : hiF (valL l) k with
    | false =>
      have hr := hg_t0 z false ((k : Int) + 1) l
      rw [t2] at hr
      have s := SimC.run (B' := [z17 z, .ints .i64 l]) (m := 2) (O := O) (w0 := w0) gi_ok (by decide) hr (by simp only [allC_cons, allC_nil, and_true]; exact ⟨D1, D2, trivial, F⟩) (by decide) b2' (by decide) (by simp) hgl
      rw [fin0 hb]
      exact SimC.weakenI s (fun y hy => by
        simp only [hgS, hgKeep, List.zip_cons_cons, List.zip_nil_right, List.mem_cons, List.not_mem_nil, or_false] at hy
        rcases hy with rfl | rfl | rfl | rfl
        · exact ⟨by simp, DenImp.refl _⟩
        · exact ⟨by simp, DenImp.refl _⟩
        · exact ⟨by simp, fun _ _ _ _ h => denV_norm (c := .bool false) h⟩
        · exact ⟨by simp, DenImp.refl _⟩)
    | true =>
      have hr := hg_t1 z true ((k : Int) + 1) l
      rw [t1, t2, ed] at hr
      have s := SimC.run (B' := [z17 z, .ints .i64 l]) (m := 2) (O := O) (w0 := w0) gi_ok (by decide) hr (by simp only [allC_cons, allC_nil, and_true]; exact ⟨D1, D2, trivial, by omega, by omega, trivial, F⟩) (by decide) b2' (by decide) (by simp) hgl
      rw [fin1 hb, hm]
      exact s
  · have D2 : decide ((k : Int) + 1 = 16) = false := decide_eq_false (by omega)
    have hm : hiM (k + 1) = 255 := by unfold hiM; rw [if_neg (by omega)]
    cases hb : hiF (valL l) k with
    | false =>
      have hr := hg_f0 z false ((k : Int) + 1) l
      rw [t2] at hr
      have s := SimC.run (B' := [z17 z, .ints .i64 l]) (m := 2) (O := O) (w0 := w0) gi_ok (by decide) hr (by simp only [allC_cons, allC_nil, and_true]; exact ⟨D1, D2, trivial, F⟩) (by decide) b2' (by decide) (by simp) hgl
      rw [fin0 hb]
      exact SimC.weakenI s (fun y hy => by
        simp only [hgS, hgKeep, List.zip_cons_cons, List.zip_nil_right, List.mem_cons, List.not_mem_nil, or_false] at hy
        rcases hy with rfl | rfl | rfl | rfl
        · exact ⟨by simp, DenImp.refl _⟩
        · exact ⟨by simp, DenImp.refl _⟩
        · exact ⟨by simp, fun _ _ _ _ h => denV_norm (c := .bool false) h⟩
        · exact ⟨by simp, DenImp.refl _⟩)
    | true =>
      have hr := hg_f1 z true ((k : Int) + 1) l
      rw [t1, t2, ed] at hr
      have s := SimC.run (B' := [z17 z, .ints .i64 l]) (m := 2) (O := O) (w0 := w0) gi_ok (by decide) hr (by simp only [allC_cons, allC_nil, and_true]; exact ⟨D1, D2, trivial, by omega, by omega, trivial, F⟩) (by decide) b2' (by decide) (by simp) hgl
      rw [fin1 hb, hm]
      exact s
theorem hg_loop : LoopGood gi 54 (.loop hgBody) hgKeep 2 (.exit 2) (mkLoopN hgG) := by
  refine LoopGood.mkN (by decide) fun vals B S' B' C hG hC hlen w0 O hgl => ?_
  clear hlen
  unfold hgG at hG
  split at hG
  · rename_i cs K l
    split at hG
    · rename_i lz hK hz
      obtain rfl := kidx_inj hK
      simp only [Option.some.injEq, Prod.mk.injEq] at hG
      obtain ⟨rfl, rfl, rfl⟩ := hG
      simp only [allC_cons, allC_nil, and_true] at hC
      obtain ⟨h1, h3⟩ := hC
      refine SimC.preI (B1 := [z17 (atL lz), .ints .i64 l]) ?_ ⟨cells_nums hz, ⟨BImp.refl _, fun _ h => by simp at h⟩, trivial⟩
      show SimC _ _ _ _ _ (hgS (hiF (valL l) 0) (((0 : Nat) : Int) + 1)) [z17 (atL lz), .ints .i64 l] _ _ _ _
      refine SimC.iter (g := gi) (e := .exit 2) (S := fun k => hgS (hiF (valL l) k) (((k : Nat) : Int) + 1)) (B := fun _ => [z17 (atL lz), .ints .i64 l]) (N := 16) (fun k hk => hg_round hgl _ h1 h3 hk) ?_ (by simp) 0 (by omega)
      exact SimC.weaken (SimC.run (B' := [z17 (atL lz), .ints .i64 l]) gi_ok (by decide) (hg_end _ _ _ l) (by simp only [allC_cons, allC_nil, and_true]; decide) (by decide) b2' (by decide) (by simp) hgl) (sub_mkT (by simp; exact ⟨rfl, rfl, rfl⟩))
    · simp at hG
  · simp at hG
end Go.Proofs.Ytejcjdhplpjpjaa
