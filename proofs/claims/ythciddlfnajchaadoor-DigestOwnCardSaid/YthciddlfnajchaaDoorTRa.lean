/- Accounts of this seat's functions: lemmas, no statement of their own. No conditions. -/
import Derived.Test.YthciddlfnajchaaDoorTO
namespace Go.Proofs.Tryd
open Go Go.Vx
/-! ### the document's Sum: its loops -/
noncomputable abbrev paBody : Code := bodyAt Tryd.prog 11 6
noncomputable abbrev slBody : Code := bodyAt Tryd.prog 11 12
noncomputable abbrev ouBody : Code := bodyAt Tryd.prog 11 18
abbrev paKeep : List Nat := [0, 1, 2, 8]
abbrev slKeep : List Nat := [0, 8, 9, 10]
abbrev ouKeep : List Nat := [0, 9, 11, 12]
abbrev paO (n : Int) (k : List Int) : List SV := [.int .i64 n, .roi .u8 k, .own 0, .own 1]
abbrev paR (n : Int) (k d : List Int) : List SV := [.int .i64 n, .roi .u8 k, .roi .u8 d, .own 0]
abbrev paC (x : List Int) : List Prop := [Fits .i64 (x.length : Int), decide ((x.length : Int) < 64) = true, (x ++ [0]).length * 1 ≤ 2 ^ 47]
theorem pao_go (n : Int) (k d x : List Int) : runC gd3 300 99 [.br true] paBody (paKeep.zip (paO n k)) [.ints .u8 d, .ints .u8 x] paKeep [0, 3] = some (.normal, paO n k, [some (.ints .u8 d), some (.ints .u8 (x ++ [0]))], paC x) :=
  r3_parts4 (by kernel_rfl) (by kernel_rfl) (by kernel_rfl) (by kernel_rfl)
theorem pao_end (n : Int) (k d x : List Int) : runC gd3 300 99 [.br false] paBody (paKeep.zip (paO n k)) [.ints .u8 d, .ints .u8 x] paKeep [0, 1] = some (.exit 0, paO n k, [some (.ints .u8 d), some (.ints .u8 x)], [Fits .i64 (x.length : Int), decide ((x.length : Int) < 64) = false]) :=
  r3_parts4 (by kernel_rfl) (by kernel_rfl) (by kernel_rfl) (by kernel_rfl)
theorem par_go (n : Int) (k d x : List Int) : runC gd3 300 99 [.br true] paBody (paKeep.zip (paR n k d)) [.ints .u8 x] paKeep [2] = some (.normal, paR n k d, [some (.ints .u8 (x ++ [0]))], paC x) :=
  r3_parts4 (by kernel_rfl) (by kernel_rfl) (by kernel_rfl) (by kernel_rfl)
theorem par_end (n : Int) (k d x : List Int) : runC gd3 300 99 [.br false] paBody (paKeep.zip (paR n k d)) [.ints .u8 x] paKeep [0] = some (.exit 0, paR n k d, [some (.ints .u8 x)], [Fits .i64 (x.length : Int), decide ((x.length : Int) < 64) = false]) :=
  r3_parts4 (by kernel_rfl) (by kernel_rfl) (by kernel_rfl) (by kernel_rfl)
abbrev padL (x : List Int) : List Int := x ++ List.replicate (64 - x.length) 0
noncomputable def poG : LoopF := fun vals B => match vals, B with
  | [.int .i64 n, .roi K k, .own 0, .own 1], [.ints K2 d, .ints K3 x] => match sameK K .u8, sameK K2 .u8, sameK K3 .u8 with
    | true, true, true => some ([(0, .int .i64 n), (1, .roi .u8 k), (2, .own 0), (8, .own 1)], [.ints .u8 d, .ints .u8 (padL x)], [x.length ≤ 64])
    | _, _, _ => none
  | _, _ => none
noncomputable def prG : LoopF := fun vals B => match vals, B with
  | [.int .i64 n, .roi K k, .roi K2 d, .own 0], [.ints K3 x] => match sameK K .u8, sameK K2 .u8, sameK K3 .u8 with
    | true, true, true => some ([(0, .int .i64 n), (1, .roi .u8 k), (2, .roi .u8 d), (8, .own 0)], [.ints .u8 (padL x)], [x.length ≤ 64])
    | _, _, _ => none
  | _, _ => none
theorem pad_snoc (x : List Int) (i : Nat) : x ++ List.replicate (i + 1) 0 = x ++ List.replicate i 0 ++ [0] := by
  rw [List.replicate_succ', List.append_assoc]
theorem pad_len (x : List Int) (i : Nat) : (x ++ List.replicate i (0 : Int)).length = x.length + i := by simp
theorem ij (k : Nat) : ∀ j : Nat, j < 1 → ([0, k] : List Nat)[j]? = some j := fun j hj => by
  match j, hj with
  | 0, _ => rfl
theorem po_loop : LoopGood gd3 99 (.loop paBody) paKeep 1 (.exit 0) (mkLoopN poG) := by
  refine LoopGood.mkN (by decide) fun vals B S' B' C hG hC hlen w0 O hgl => ?_
  clear hlen
  unfold poG at hG
  split at hG
  · rename_i n K k K2 d K3 x
    split at hG
    · rename_i hK hK2 hK3
      obtain rfl := kidx_inj hK
      obtain rfl := kidx_inj hK2
      obtain rfl := kidx_inj hK3
      simp only [Option.some.injEq, Prod.mk.injEq] at hG
      obtain ⟨rfl, rfl, rfl⟩ := hG
      simp only [allC_cons, allC_nil, and_true] at hC
      have e0 : x = x ++ List.replicate 0 0 := by simp
      show SimC _ _ _ _ _ (paKeep.zip (paO n k)) [.ints .u8 d, .ints .u8 x] _ _ _ _
      rw [show ([.ints .u8 d, .ints .u8 x] : List Body) = [.ints .u8 d, .ints .u8 (x ++ List.replicate 0 0)] by rw [← e0]]
      refine SimC.iter (g := gd3) (S := fun _ => paKeep.zip (paO n k)) (B := fun i => [.ints .u8 d, .ints .u8 (x ++ List.replicate i 0)]) (N := 64 - x.length) (fun i hi => ?_) ?_ (by simp) 0 (by omega)
      · have hl := pad_len x i
        have hr := pao_go n k d (x ++ List.replicate i 0)
        rw [← pad_snoc] at hr
        refine SimC.run (B' := [.ints .u8 d, .ints .u8 (x ++ List.replicate (i + 1) 0)]) gd3_ok (by decide) hr ?_ (by decide) (ij 3) (by decide) (by simp) hgl
        simp only [paC, allC_cons, allC_nil, and_true]
        simp only [List.length_append, List.length_replicate, List.length_cons, List.length_nil]
        exact ⟨fits_of (by omega) (by omega), decide_eq_true (by omega), by omega⟩
      · have hl := pad_len x (64 - x.length)
        refine SimC.weaken (SimC.run (B' := [.ints .u8 d, .ints .u8 (x ++ List.replicate (64 - x.length) 0)]) gd3_ok (by decide) (pao_end n k d _) ?_ (by decide) (ij 1) (by decide) (by simp) hgl) (sub_mkT (by simp; exact ⟨rfl, rfl, rfl, rfl⟩))
        simp only [allC_cons, allC_nil, and_true]
        rw [hl]
        exact ⟨fits_of (by omega) (by omega), decide_eq_false (by omega)⟩
    · simp at hG
  · simp at hG
theorem pr_loop : LoopGood gd3 99 (.loop paBody) paKeep 0 (.exit 0) (mkLoopN prG) := by
  refine LoopGood.mkN (by decide) fun vals B S' B' C hG hC hlen w0 O hgl => ?_
  clear hlen
  unfold prG at hG
  split at hG
  · rename_i n K k K2 d K3 x
    split at hG
    · rename_i hK hK2 hK3
      obtain rfl := kidx_inj hK
      obtain rfl := kidx_inj hK2
      obtain rfl := kidx_inj hK3
      simp only [Option.some.injEq, Prod.mk.injEq] at hG
      obtain ⟨rfl, rfl, rfl⟩ := hG
      simp only [allC_cons, allC_nil, and_true] at hC
      have e0 : x = x ++ List.replicate 0 0 := by simp
      show SimC _ _ _ _ _ (paKeep.zip (paR n k d)) [.ints .u8 x] _ _ _ _
      rw [show ([.ints .u8 x] : List Body) = [.ints .u8 (x ++ List.replicate 0 0)] by rw [← e0]]
      refine SimC.iter (g := gd3) (S := fun _ => paKeep.zip (paR n k d)) (B := fun i => [.ints .u8 (x ++ List.replicate i 0)]) (N := 64 - x.length) (fun i hi => ?_) ?_ (by simp) 0 (by omega)
      · have hl := pad_len x i
        have hr := par_go n k d (x ++ List.replicate i 0)
        rw [← pad_snoc] at hr
        refine SimC.run (B' := [.ints .u8 (x ++ List.replicate (i + 1) 0)]) gd3_ok (by decide) hr ?_ (by decide) (fun j hj => absurd hj (Nat.not_lt_zero j)) (by decide) (by simp) hgl
        simp only [paC, allC_cons, allC_nil, and_true]
        simp only [List.length_append, List.length_replicate, List.length_cons, List.length_nil]
        exact ⟨fits_of (by omega) (by omega), decide_eq_true (by omega), by omega⟩
      · have hl := pad_len x (64 - x.length)
        refine SimC.weaken (SimC.run (B' := [.ints .u8 (x ++ List.replicate (64 - x.length) 0)]) gd3_ok (by decide) (par_end n k d _) ?_ (by decide) (fun j hj => absurd hj (Nat.not_lt_zero j)) (by decide) (by simp) hgl) (sub_mkT (by simp; exact ⟨rfl, rfl, rfl, rfl⟩))
        simp only [allC_cons, allC_nil, and_true]
        rw [hl]
        exact ⟨fits_of (by omega) (by omega), decide_eq_false (by omega)⟩
    · simp at hG
  · simp at hG
/-! ### whole blocks -/
abbrev slO (n a : Int) : List SV := [.int .i64 n, .own 0, .ptr 1 0, .int .i64 a]
noncomputable abbrev slB (x : List Int) (h : Nat → Int) : List Body := [.ints .u8 x, .cells (a8 h)]
abbrev slC (x : List Int) (a : Int) (h : Nat → Int) : List Prop := [Fits .i64 ((x.length : Int) - a), Fits .i64 (x.length : Int), decide ((64 : Int) < (x.length : Int) - a) = true,
  (a + 64).toNat - a.toNat ≤ 64, a.toNat + ((a + 64).toNat - a.toNat) ≤ x.length, Bytes x, 0 ≤ a + 64 ∧ a + 64 < 9223372036854775808, ∀ i, i < 8 → U (n8 h i), Fits .i64 (a + 64), 0 ≤ a ∧ a ≤ a + 64 ∧ a + 64 ≤ (x.length : Int), Fits .i64 (a + 64), Fits .i64 (a + 64)]
theorem sl_go (n a : Int) (x : List Int) (h : Nat → Int) : runC gd3 300 99 [.br true] slBody (slKeep.zip (slO n a)) (slB x h) slKeep [0, 1] = some (.normal, slO n (a + 64), (slB x (prS (n8 h) (blkF x a.toNat ((a + 64).toNat - a.toNat)) (a + 64) 0)).map some, slC x a h) :=
  r3_parts4 (by kernel_rfl) (by kernel_rfl) (by kernel_rfl) (by kernel_rfl)
theorem sl_end (n a : Int) (x : List Int) (h : Nat → Int) : runC gd3 300 99 [.br false] slBody (slKeep.zip (slO n a)) (slB x h) slKeep [0, 1] = some (.exit 2, slO n a, (slB x h).map some, [Fits .i64 ((x.length : Int) - a), Fits .i64 (x.length : Int), decide ((64 : Int) < (x.length : Int) - a) = false]) :=
  r3_parts4 (by kernel_rfl) (by kernel_rfl) (by kernel_rfl) (by kernel_rfl)
/-- the state behind i blocks -/
noncomputable def slH (h : Nat → Int) (x : List Int) : Nat → (Nat → Int)
  | 0 => h
  | i + 1 => prS (n8 (slH h x i)) (blkF x (64 * i) 64) ((64 * (i + 1) : Nat) : Int) 0
theorem n8_U {h : Nat → Int} (hu : ∀ i, i < 8 → U (h i)) : ∀ i, i < 8 → U (n8 h i) := fun i hi => by
  have e : n8 h i = h i := atLF hi
  rw [e]; exact hu i hi
theorem slH_U {h : Nat → Int} {x : List Int} (hu : ∀ i, i < 8 → U (h i)) (hx : Bytes x) : ∀ k, ∀ i, i < 8 → U (slH h x k i)
  | 0 => hu
  | k + 1 => fun i hi => prS_U (n8_U (slH_U hu hx k)) (fun t => blkF_byte hx _ _ t) _ ⟨by decide, by decide⟩ i hi
theorem i2 : ∀ j : Nat, j < 2 → ([0, 1] : List Nat)[j]? = some j := fun j hj => by
  match j, hj with
  | 0, _ => rfl
  | 1, _ => rfl
noncomputable def slG : LoopF := fun vals B => match vals, B with
  | [.int .i64 n, .own 0, .ptr 1 0, .int .i64 0], [.ints K x, .cells hs] => match sameK K .u8, numsAs (List.replicate 8 .i64) hs with
    | true, some lh => some ([(0, .int .i64 n), (8, .own 0), (9, .ptr 1 0), (10, .int .i64 ((64 * ((x.length - 1) / 64) : Nat) : Int))], slB x (slH (atL lh) x ((x.length - 1) / 64)), [Bytes x, x.length ≤ 140737488355328, ∀ i, i < 8 → U (atL lh i)])
    | _, _ => none
  | _, _ => none
theorem sl_loop : LoopGood gd3 99 (.loop slBody) slKeep 2 (.exit 2) (mkLoopN slG) := by
  refine LoopGood.mkN (by decide) fun vals B S' B' C hG hC hlen w0 O hgl => ?_
  clear hlen
  unfold slG at hG
  split at hG
  · rename_i n K x hs
    split at hG
    · rename_i lh hK hh
      obtain rfl := kidx_inj hK
      simp only [Option.some.injEq, Prod.mk.injEq] at hG
      obtain ⟨rfl, rfl, rfl⟩ := hG
      simp only [allC_cons, allC_nil, and_true] at hC
      obtain ⟨h1, h2, h3⟩ := hC
      have Fl : Fits .i64 (x.length : Int) := fits_of (by omega) (by omega)
      refine SimC.preI (B1 := slB x (atL lh)) ?_ ⟨⟨BImp.refl _, fun _ h => by simp at h⟩, cells_nums hh, trivial⟩
      refine SimC.iter (g := gd3) (S := fun i => slKeep.zip (slO n ((64 * i : Nat) : Int))) (B := fun i => slB x (slH (atL lh) x i)) (N := (x.length - 1) / 64) (fun i hi => ?_) ?_ (by simp) 0 (by omega)
      · have hl : 64 * i + 64 < x.length := by omega
        have e1 : ((64 * i : Nat) : Int) + 64 = ((64 * (i + 1) : Nat) : Int) := by omega
        have e2 : (((64 * i : Nat) : Int) + 64).toNat - ((64 * i : Nat) : Int).toNat = 64 := by omega
        have e3 : ((64 * i : Nat) : Int).toNat = 64 * i := by omega
        have hr := sl_go n ((64 * i : Nat) : Int) x (slH (atL lh) x i)
        rw [e2, e3, e1] at hr
        refine SimC.run (B' := slB x (slH (atL lh) x (i + 1))) gd3_ok (by decide) hr ?_ (by decide) i2 (by decide) (by simp) hgl
        simp only [slC, allC_cons, allC_nil, and_true]
        rw [e2, e3]
        exact ⟨fits_of (by omega) (by omega), Fl, decide_eq_true (by omega), by omega, by omega, h1, ⟨by omega, by omega⟩, n8_U (slH_U h3 h1 i), fits_of (by omega) (by omega), ⟨by omega, by omega, by omega⟩, fits_of (by omega) (by omega), fits_of (by omega) (by omega)⟩
      · refine SimC.weaken (SimC.run (B' := slB x (slH (atL lh) x ((x.length - 1) / 64))) gd3_ok (by decide) (sl_end n _ x _) ?_ (by decide) i2 (by decide) (by simp) hgl) (sub_mkT (by simp; exact ⟨rfl, rfl, rfl, rfl⟩))
        simp only [allC_cons, allC_nil, and_true]
        exact ⟨fits_of (by omega) (by omega), Fl, decide_eq_false (by omega)⟩
    · simp at hG
  · simp at hG
/-! ### the digest's bytes -/
def pq (x : Int) : Nat → Int
  | 0 => x
  | k + 1 => (pq x k).tdiv 256
abbrev ouO (n : Int) (i : Nat) : List SV := [.int .i64 n, .ptr 0 0, .own 1, .lit .i64 (i : Int)]
noncomputable abbrev ouB (h : Nat → Int) (o : List Int) : List Body := [.cells (a8 h), .ints .u8 o]
abbrev ouV (h : Nat → Int) (i : Nat) : Int := scut .u8 ((pq (h (i / 4)) (i % 4)).tmod 256)
theorem ou_go (n : Int) (h : Nat → Int) (o : List Int) : ∀ i, i < 32 → runC gd3 300 99 [.br true] ouBody (ouKeep.zip (ouO n i)) (ouB h o) ouKeep [0, 3] = some (.normal, ouO n (i + 1), (ouB h (o ++ [ouV h i])).map some, [decide ((i : Int) < n) = true, (o ++ [ouV h i]).length * 1 ≤ 2 ^ 47])
  | 0, _ => r3_parts4 (by kernel_rfl) (by kernel_rfl) (by kernel_rfl) (by kernel_rfl)
  | 1, _ => r3_parts4 (by kernel_rfl) (by kernel_rfl) (by kernel_rfl) (by kernel_rfl)
  | 2, _ => r3_parts4 (by kernel_rfl) (by kernel_rfl) (by kernel_rfl) (by kernel_rfl)
  | 3, _ => r3_parts4 (by kernel_rfl) (by kernel_rfl) (by kernel_rfl) (by kernel_rfl)
  | 4, _ => r3_parts4 (by kernel_rfl) (by kernel_rfl) (by kernel_rfl) (by kernel_rfl)
  | 5, _ => r3_parts4 (by kernel_rfl) (by kernel_rfl) (by kernel_rfl) (by kernel_rfl)
  | 6, _ => r3_parts4 (by kernel_rfl) (by kernel_rfl) (by kernel_rfl) (by kernel_rfl)
  | 7, _ => r3_parts4 (by kernel_rfl) (by kernel_rfl) (by kernel_rfl) (by kernel_rfl)
  | 8, _ => r3_parts4 (by kernel_rfl) (by kernel_rfl) (by kernel_rfl) (by kernel_rfl)
  | 9, _ => r3_parts4 (by kernel_rfl) (by kernel_rfl) (by kernel_rfl) (by kernel_rfl)
  | 10, _ => r3_parts4 (by kernel_rfl) (by kernel_rfl) (by kernel_rfl) (by kernel_rfl)
  | 11, _ => r3_parts4 (by kernel_rfl) (by kernel_rfl) (by kernel_rfl) (by kernel_rfl)
  | 12, _ => r3_parts4 (by kernel_rfl) (by kernel_rfl) (by kernel_rfl) (by kernel_rfl)
  | 13, _ => r3_parts4 (by kernel_rfl) (by kernel_rfl) (by kernel_rfl) (by kernel_rfl)
  | 14, _ => r3_parts4 (by kernel_rfl) (by kernel_rfl) (by kernel_rfl) (by kernel_rfl)
  | 15, _ => r3_parts4 (by kernel_rfl) (by kernel_rfl) (by kernel_rfl) (by kernel_rfl)
  | 16, _ => r3_parts4 (by kernel_rfl) (by kernel_rfl) (by kernel_rfl) (by kernel_rfl)
  | 17, _ => r3_parts4 (by kernel_rfl) (by kernel_rfl) (by kernel_rfl) (by kernel_rfl)
  | 18, _ => r3_parts4 (by kernel_rfl) (by kernel_rfl) (by kernel_rfl) (by kernel_rfl)
  | 19, _ => r3_parts4 (by kernel_rfl) (by kernel_rfl) (by kernel_rfl) (by kernel_rfl)
  | 20, _ => r3_parts4 (by kernel_rfl) (by kernel_rfl) (by kernel_rfl) (by kernel_rfl)
  | 21, _ => r3_parts4 (by kernel_rfl) (by kernel_rfl) (by kernel_rfl) (by kernel_rfl)
  | 22, _ => r3_parts4 (by kernel_rfl) (by kernel_rfl) (by kernel_rfl) (by kernel_rfl)
  | 23, _ => r3_parts4 (by kernel_rfl) (by kernel_rfl) (by kernel_rfl) (by kernel_rfl)
  | 24, _ => r3_parts4 (by kernel_rfl) (by kernel_rfl) (by kernel_rfl) (by kernel_rfl)
  | 25, _ => r3_parts4 (by kernel_rfl) (by kernel_rfl) (by kernel_rfl) (by kernel_rfl)
  | 26, _ => r3_parts4 (by kernel_rfl) (by kernel_rfl) (by kernel_rfl) (by kernel_rfl)
  | 27, _ => r3_parts4 (by kernel_rfl) (by kernel_rfl) (by kernel_rfl) (by kernel_rfl)
  | 28, _ => r3_parts4 (by kernel_rfl) (by kernel_rfl) (by kernel_rfl) (by kernel_rfl)
  | 29, _ => r3_parts4 (by kernel_rfl) (by kernel_rfl) (by kernel_rfl) (by kernel_rfl)
  | 30, _ => r3_parts4 (by kernel_rfl) (by kernel_rfl) (by kernel_rfl) (by kernel_rfl)
  | 31, _ => r3_parts4 (by kernel_rfl) (by kernel_rfl) (by kernel_rfl) (by kernel_rfl)
  | i + 32, h => absurd h (by omega)
theorem ou_end (n : Int) (h : Nat → Int) (o : List Int) (i : Nat) : runC gd3 300 99 [.br false] ouBody (ouKeep.zip (ouO n i)) (ouB h o) ouKeep [0, 1] = some (.exit 4, ouO n i, (ouB h o).map some, [decide ((i : Int) < n) = false]) :=
  r3_parts4 (by kernel_rfl) (by kernel_rfl) (by kernel_rfl) (by kernel_rfl)
theorem pq_shr {x : Int} (hx : U x) : ∀ k, k ≤ 3 → pq x k = ushr x ((8 * k : Nat) : Int) := fun k hk => by
  obtain ⟨h0, h1⟩ := hx
  obtain ⟨x, rfl⟩ := Int.eq_ofNat_of_zero_le h0
  have hs : ∀ n : Nat, ushr (x : Int) (n : Int) = ((x / 2 ^ n : Nat) : Int) := fun n => rfl
  have hd : ∀ y : Nat, ((y : Int)).tdiv 256 = ((y / 256 : Nat) : Int) := fun y => by rw [Int.tdiv_eq_ediv_of_nonneg (by omega)]; omega
  rw [hs]
  match k, hk with
  | 0, _ => show (x : Int) = _; rw [Nat.mul_zero, Nat.pow_zero, Nat.div_one]
  | 1, _ => show ((x : Int)).tdiv 256 = _; rw [hd]
  | 2, _ => show (((x : Int)).tdiv 256).tdiv 256 = _; rw [hd, hd, Nat.div_div_eq_div_mul]
  | 3, _ => show ((((x : Int)).tdiv 256).tdiv 256).tdiv 256 = _; rw [hd, hd, hd, Nat.div_div_eq_div_mul, Nat.div_div_eq_div_mul]
theorem ou_dg {h : Nat → Int} (hu : ∀ i, i < 8 → U (h i)) (i : Nat) (hi : i < 32) : ouV h i = dgB h i := by
  unfold ouV dgB
  rw [pq_shr (hu (i / 4) (by omega)) (i % 4) (by omega)]
  have hy : 0 ≤ ushr (h (i / 4)) ((8 * (i % 4) : Nat) : Int) := Int.natCast_nonneg _
  generalize ushr (h (i / 4)) ((8 * (i % 4) : Nat) : Int) = y at *
  obtain ⟨y, rfl⟩ := Int.eq_ofNat_of_zero_le hy
  rw [Int.tmod_eq_emod_of_nonneg (by omega)]
  unfold scut ucut
  rw [show modulus .u8 = 256 from rfl, Int.toNat_natCast, Int.ofNat_eq_natCast]
  omega
theorem listF_snoc (a : Nat → Int) : ∀ (n i : Nat), listF (n + 1) a i = listF n a i ++ [a (i + n)]
  | 0, i => rfl
  | n + 1, i => by
    have ih := listF_snoc a n (i + 1)
    show a i :: listF (n + 1) a (i + 1) = (a i :: listF n a (i + 1)) ++ [a (i + (n + 1))]
    rw [ih, List.cons_append, show i + 1 + n = i + (n + 1) by omega]
noncomputable def ouG : LoopF := fun vals B => match vals, B with
  | [.int .i64 n, .ptr 0 0, .raw (.slice none 0 0), .int .i64 0], [.cells hs] => match numsAs (List.replicate 8 .i64) hs with
    | some lh => some ([(11, .own 1)], ouB (atL lh) (listF n.toNat (dgB (atL lh)) 0), [0 ≤ n ∧ n ≤ 32, ∀ i, i < 8 → U (atL lh i)])
    | none => none
  | _, _ => none
theorem ou_loop : LoopGood gd3 99 (.loop ouBody) ouKeep 1 (.exit 4) (mkLoopN ouG) := by
  refine LoopGood.mkN (by decide) fun vals B S' B' C hG hC hlen w0 O hgl => ?_
  clear hlen
  unfold ouG at hG
  split at hG
  · rename_i n hs
    split at hG
    · rename_i lh hh
      simp only [Option.some.injEq, Prod.mk.injEq] at hG
      obtain ⟨rfl, rfl, rfl⟩ := hG
      simp only [allC_cons, allC_nil, and_true] at hC
      obtain ⟨h1, h3⟩ := hC
      refine SimC.preI (B1 := [.cells (a8 (atL lh))]) ?_ ⟨cells_nums hh, trivial⟩
      refine SimC.adoptS (.ints .u8 []) 11 rfl rfl (by simp) (by simp) ?_
      refine SimC.pre (S := ouKeep.zip (ouO n 0)) ?_ (fun t => zip_imp ouKeep (vals := [.int .i64 n, .ptr 0 0, .own 1, .int .i64 0]) (vals' := ouO n 0) ⟨DenImp.refl _, DenImp.refl _, DenImp.refl _, DenImp.lit, trivial⟩ t (by decide))
      refine SimC.iter (g := gd3) (S := fun i => ouKeep.zip (ouO n i)) (B := fun i => ouB (atL lh) (listF i (dgB (atL lh)) 0)) (N := n.toNat) (fun i hi => ?_) ?_ (by simp) 0 (by omega)
      · have hr := ou_go n (atL lh) (listF i (dgB (atL lh)) 0) i (by omega)
        have e : listF i (dgB (atL lh)) 0 ++ [ouV (atL lh) i] = listF (i + 1) (dgB (atL lh)) 0 := by
          rw [ou_dg h3 i (by omega), listF_snoc, Nat.zero_add]
        rw [e] at hr
        refine SimC.run (B' := ouB (atL lh) (listF (i + 1) (dgB (atL lh)) 0)) gd3_ok (by decide) hr ?_ (by decide) (ij 3) (by decide) (by simp) hgl
        simp only [allC_cons, allC_nil, and_true]
        rw [listF_length]
        exact ⟨decide_eq_true (by omega), by omega⟩
      · refine SimC.weaken (SimC.run (B' := ouB (atL lh) (listF n.toNat (dgB (atL lh)) 0)) gd3_ok (by decide) (ou_end n (atL lh) _ n.toNat) ?_ (by decide) (ij 1) (by decide) (by simp) hgl) (sub_mkT (by simp; exact rfl))
        simp only [allC_cons, allC_nil, and_true]
        exact decide_eq_false (by omega)
    · simp at hG
  · simp at hG
end Go.Proofs.Tryd

namespace Go.Proofs.Tryd
open Go Go.Vx
/-! ### the document's Sum: the runs -/
abbrev Nx (x : List Int) : Nat := (x.length - 1) / 64
def dH0 (n : Int) (k : List Int) : List Int := uxor 1779033703 (16842752 + 256 * (k.length : Int) + n) :: ivL.drop 1
noncomputable abbrev dHx (n : Int) (k x : List Int) : Nat → Int := slH (atL (dH0 n k)) x (Nx x)
noncomputable abbrev dHf (n : Int) (k x : List Int) : Nat → Int := prS (n8 (dHx n k x)) (blkF x (64 * Nx x) (x.length - 64 * Nx x)) (x.length : Int) 4294967295
noncomputable abbrev dSum (n : Int) (k x : List Int) : List Int := listF n.toNat (dgB (n8 (dHf n k x))) 0
noncomputable abbrev plT : List Plan := [.loop 12 slKeep 2 (.exit 2) (mkLoopN slG), .loop 18 ouKeep 1 (.exit 4) (mkLoopN ouG)]
abbrev smCAo (n : Int) (k d : List Int) : List Prop := [Fits .i64 (k.length : Int), decide (32 < n) = false, decide (n < 1) = false, decide ((32 : Int) < (k.length : Int)) = false, Fits .i64 (k.length : Int), decide ((0 : Int) < (k.length : Int)) = true, k.length * 1 ≤ 2 ^ 47, LoopGood gd3 99 (.loop paBody) paKeep 1 (.exit 0) (mkLoopN poG), k.length ≤ 64, (padL k ++ d).length * 1 ≤ 2 ^ 47, (0 : Int) ≤ 1779033703 ∧ 0 ≤ 16842752 + 256 * (k.length : Int) + n, Fits .i64 (16842752 + 256 * (k.length : Int) + n), Fits .i64 (16842752 + 256 * (k.length : Int)), Fits .i64 (256 * (k.length : Int)), Fits .i64 (k.length : Int), LoopGood gd3 99 (.loop slBody) slKeep 2 (.exit 2) (mkLoopN slG), Bytes (padL k ++ d), (padL k ++ d).length ≤ 140737488355328, ∀ i, i < 8 → U (atL (dH0 n k) i), (padL k ++ d).length - 64 * Nx (padL k ++ d) ≤ 64, 64 * Nx (padL k ++ d) + ((padL k ++ d).length - 64 * Nx (padL k ++ d)) ≤ (padL k ++ d).length, Bytes (padL k ++ d), 0 ≤ ((padL k ++ d).length : Int) ∧ ((padL k ++ d).length : Int) < 9223372036854775808, ∀ i, i < 8 → U (n8 (dHx n k (padL k ++ d)) i), Fits .i64 ((padL k ++ d).length : Int), 0 ≤ ((64 * Nx (padL k ++ d) : Nat) : Int) ∧ ((64 * Nx (padL k ++ d) : Nat) : Int) ≤ ((padL k ++ d).length : Int) ∧ ((padL k ++ d).length : Int) ≤ ((padL k ++ d).length : Int), LoopGood gd3 99 (.loop ouBody) ouKeep 1 (.exit 4) (mkLoopN ouG), 0 ≤ n ∧ n ≤ 32, ∀ i, i < 8 → U (n8 (dHf n k (padL k ++ d)) i)]
theorem smAo (n : Int) (k d : List Int) : runF gd3 900 ([.br false, .br false, .br false, .br true, .loop 6 paKeep 1 (.exit 0) (mkLoopN poG)] ++ plT) 11 [.int .i64 n, .roi .u8 k, .own 0] [.ints .u8 d] [6] = some (.tuple [.own 1, .lit .i64 0], [some (.ints .u8 d), some (.ints .u8 (dSum n k (padL k ++ d)))], smCAo n k d) :=
  run_parts (by kernel_rfl) (by kernel_rfl) (by kernel_rfl)
abbrev smCBo (n : Int) (k d : List Int) : List Prop := [Fits .i64 (k.length : Int), decide (32 < n) = false, decide (n < 1) = false, decide ((32 : Int) < (k.length : Int)) = false, Fits .i64 (k.length : Int), decide ((0 : Int) < (k.length : Int)) = false, (d).length * 1 ≤ 2 ^ 47, (0 : Int) ≤ 1779033703 ∧ 0 ≤ 16842752 + 256 * (k.length : Int) + n, Fits .i64 (16842752 + 256 * (k.length : Int) + n), Fits .i64 (16842752 + 256 * (k.length : Int)), Fits .i64 (256 * (k.length : Int)), Fits .i64 (k.length : Int), LoopGood gd3 99 (.loop slBody) slKeep 2 (.exit 2) (mkLoopN slG), Bytes (d), (d).length ≤ 140737488355328, ∀ i, i < 8 → U (atL (dH0 n k) i), (d).length - 64 * Nx (d) ≤ 64, 64 * Nx (d) + ((d).length - 64 * Nx (d)) ≤ (d).length, Bytes (d), 0 ≤ ((d).length : Int) ∧ ((d).length : Int) < 9223372036854775808, ∀ i, i < 8 → U (n8 (dHx n k (d)) i), Fits .i64 ((d).length : Int), 0 ≤ ((64 * Nx (d) : Nat) : Int) ∧ ((64 * Nx (d) : Nat) : Int) ≤ ((d).length : Int) ∧ ((d).length : Int) ≤ ((d).length : Int), LoopGood gd3 99 (.loop ouBody) ouKeep 1 (.exit 4) (mkLoopN ouG), 0 ≤ n ∧ n ≤ 32, ∀ i, i < 8 → U (n8 (dHf n k (d)) i)]
theorem smBo (n : Int) (k d : List Int) : runF gd3 900 ([.br false, .br false, .br false, .br false] ++ plT) 11 [.int .i64 n, .roi .u8 k, .own 0] [.ints .u8 d] [4] = some (.tuple [.own 1, .lit .i64 0], [some (.ints .u8 d), some (.ints .u8 (dSum n k (d)))], smCBo n k d) :=
  run_parts (by kernel_rfl) (by kernel_rfl) (by kernel_rfl)
abbrev smCAr (n : Int) (k d : List Int) : List Prop := [Fits .i64 (k.length : Int), decide (32 < n) = false, decide (n < 1) = false, decide ((32 : Int) < (k.length : Int)) = false, Fits .i64 (k.length : Int), decide ((0 : Int) < (k.length : Int)) = true, k.length * 1 ≤ 2 ^ 47, LoopGood gd3 99 (.loop paBody) paKeep 0 (.exit 0) (mkLoopN prG), k.length ≤ 64, (padL k ++ d).length * 1 ≤ 2 ^ 47, (0 : Int) ≤ 1779033703 ∧ 0 ≤ 16842752 + 256 * (k.length : Int) + n, Fits .i64 (16842752 + 256 * (k.length : Int) + n), Fits .i64 (16842752 + 256 * (k.length : Int)), Fits .i64 (256 * (k.length : Int)), Fits .i64 (k.length : Int), LoopGood gd3 99 (.loop slBody) slKeep 2 (.exit 2) (mkLoopN slG), Bytes (padL k ++ d), (padL k ++ d).length ≤ 140737488355328, ∀ i, i < 8 → U (atL (dH0 n k) i), (padL k ++ d).length - 64 * Nx (padL k ++ d) ≤ 64, 64 * Nx (padL k ++ d) + ((padL k ++ d).length - 64 * Nx (padL k ++ d)) ≤ (padL k ++ d).length, Bytes (padL k ++ d), 0 ≤ ((padL k ++ d).length : Int) ∧ ((padL k ++ d).length : Int) < 9223372036854775808, ∀ i, i < 8 → U (n8 (dHx n k (padL k ++ d)) i), Fits .i64 ((padL k ++ d).length : Int), 0 ≤ ((64 * Nx (padL k ++ d) : Nat) : Int) ∧ ((64 * Nx (padL k ++ d) : Nat) : Int) ≤ ((padL k ++ d).length : Int) ∧ ((padL k ++ d).length : Int) ≤ ((padL k ++ d).length : Int), LoopGood gd3 99 (.loop ouBody) ouKeep 1 (.exit 4) (mkLoopN ouG), 0 ≤ n ∧ n ≤ 32, ∀ i, i < 8 → U (n8 (dHf n k (padL k ++ d)) i)]
theorem smAr (n : Int) (k d : List Int) : runF gd3 900 ([.br false, .br false, .br false, .br true, .loop 6 paKeep 0 (.exit 0) (mkLoopN prG)] ++ plT) 11 [.int .i64 n, .roi .u8 k, .roi .u8 d] [] [5] = some (.tuple [.own 0, .lit .i64 0], [some (.ints .u8 (dSum n k (padL k ++ d)))], smCAr n k d) :=
  run_parts (by kernel_rfl) (by kernel_rfl) (by kernel_rfl)
abbrev smCBr (n : Int) (k d : List Int) : List Prop := [Fits .i64 (k.length : Int), decide (32 < n) = false, decide (n < 1) = false, decide ((32 : Int) < (k.length : Int)) = false, Fits .i64 (k.length : Int), decide ((0 : Int) < (k.length : Int)) = false, (d).length * 1 ≤ 2 ^ 47, (0 : Int) ≤ 1779033703 ∧ 0 ≤ 16842752 + 256 * (k.length : Int) + n, Fits .i64 (16842752 + 256 * (k.length : Int) + n), Fits .i64 (16842752 + 256 * (k.length : Int)), Fits .i64 (256 * (k.length : Int)), Fits .i64 (k.length : Int), LoopGood gd3 99 (.loop slBody) slKeep 2 (.exit 2) (mkLoopN slG), Bytes (d), (d).length ≤ 140737488355328, ∀ i, i < 8 → U (atL (dH0 n k) i), (d).length - 64 * Nx (d) ≤ 64, 64 * Nx (d) + ((d).length - 64 * Nx (d)) ≤ (d).length, Bytes (d), 0 ≤ ((d).length : Int) ∧ ((d).length : Int) < 9223372036854775808, ∀ i, i < 8 → U (n8 (dHx n k (d)) i), Fits .i64 ((d).length : Int), 0 ≤ ((64 * Nx (d) : Nat) : Int) ∧ ((64 * Nx (d) : Nat) : Int) ≤ ((d).length : Int) ∧ ((d).length : Int) ≤ ((d).length : Int), LoopGood gd3 99 (.loop ouBody) ouKeep 1 (.exit 4) (mkLoopN ouG), 0 ≤ n ∧ n ≤ 32, ∀ i, i < 8 → U (n8 (dHf n k (d)) i)]
theorem smBr (n : Int) (k d : List Int) : runF gd3 900 ([.br false, .br false, .br false, .br false] ++ plT) 11 [.int .i64 n, .roi .u8 k, .roi .u8 d] [] [3] = some (.tuple [.own 0, .lit .i64 0], [some (.ints .u8 (dSum n k (d)))], smCBr n k d) :=
  run_parts (by kernel_rfl) (by kernel_rfl) (by kernel_rfl)
end Go.Proofs.Tryd

namespace Go.Proofs.Tryd
open Go Go.Vx
/-! ### the document's Sum: the account -/
theorem nil_roi {k : IntKind} : DenImp (.raw (.slice none 0 0)) (.roi k []) := fun w0 O ρ v d => by
  obtain rfl := denV_raw d
  exact den_cell rfl rfl (by simp only [DenC]; exact ⟨none, 0, rfl, Nat.le_refl _, fun h => absurd h (Nat.lt_irrefl 0), fun n h => by cases h⟩)
/-- a list that stands, or nil -/
def roiL : SV → Option (List Int)
  | .roi K l => match sameK K .u8 with
    | true => some l
    | false => none
  | .raw (.slice none 0 0) => some []
  | _ => none
theorem roiL_imp {s : SV} {l : List Int} (h : roiL s = some l) : DenImp s (.roi .u8 l) := by
  unfold roiL at h
  split at h
  · split at h
    · rename_i hK
      obtain rfl := kidx_inj hK
      simp only [Option.some.injEq] at h; subst h
      exact DenImp.refl _
    · simp at h
  · simp only [Option.some.injEq] at h; subst h
    exact nil_roi
  · simp at h
/-- the message with its key -/
def allL (k d : List Int) : List Int := if 0 < k.length then padL k ++ d else d
noncomputable def F11 (ok : Bool → Bool) : SumF := fun args B => match args with
  | [.int .i64 n, s, .own 0] => match roiL s, B with
    | some k, [.ints K d] => match sameK K .u8, ok (match s with | .roi _ _ => true | _ => false) with
      | true, true => some { val := .tuple [.own 1, .int .i64 0], upd := [(0, some (.ints .u8 d))], new := [.ints .u8 (dSum n k (allL k d))], C := [1 ≤ n, n ≤ 32, k.length ≤ 32, Bytes k, Bytes d, d.length ≤ 70368744177664] }
      | true, false => some { val := .tuple [.raw (.slice none 0 0), .int .i64 1], upd := [(0, some (.ints .u8 d))], C := [n < 1 ∨ 32 < n ∨ 32 < k.length, Fits .i64 (k.length : Int)] }
      | _, _ => none
    | _, _ => none
  | [.int .i64 n, s, s2] => match roiL s, roiL s2, B with
    | some k, some d, [] => match ok (match s with | .roi _ _ => true | _ => false) with
      | true => some { val := .tuple [.own 0, .int .i64 0], new := [.ints .u8 (dSum n k (allL k d))], C := [1 ≤ n, n ≤ 32, k.length ≤ 32, Bytes k, Bytes d, d.length ≤ 70368744177664] }
      | false => some { val := .tuple [.raw (.slice none 0 0), .int .i64 1], C := [n < 1 ∨ 32 < n ∨ 32 < k.length, Fits .i64 (k.length : Int)] }
    | _, _, _ => none
  | _ => none
theorem dH0_U {n : Int} {k : List Int} (h1 : 1 ≤ n) (h2 : n ≤ 32) (h3 : k.length ≤ 32) : ∀ i, i < 8 → U (atL (dH0 n k) i) := fun i hi => by
  have q : ∀ x : Int, 0 ≤ x → x < 4294967296 → U x := fun x a b => ⟨a, b⟩
  match i, hi with
  | 0, _ => exact U_xor (q _ (by decide) (by decide)) ⟨by omega, by omega⟩
  | 1, _ => exact q 3144134277 (by decide) (by decide)
  | 2, _ => exact q 1013904242 (by decide) (by decide)
  | 3, _ => exact q 2773480762 (by decide) (by decide)
  | 4, _ => exact q 1359893119 (by decide) (by decide)
  | 5, _ => exact q 2600822924 (by decide) (by decide)
  | 6, _ => exact q 528734635 (by decide) (by decide)
  | 7, _ => exact q 1541459225 (by decide) (by decide)
theorem bytes_app {a b : List Int} (ha : Bytes a) (hb : Bytes b) : Bytes (a ++ b) := fun j => by
  by_cases h : j < a.length
  · rw [List.getD_eq_getElem?_getD, List.getElem?_append_left h, ← List.getD_eq_getElem?_getD]; exact ha j
  · rw [List.getD_eq_getElem?_getD, List.getElem?_append_right (by omega), ← List.getD_eq_getElem?_getD]; exact hb _
theorem bytes_rep (n : Nat) : Bytes (List.replicate n 0) := fun j => by
  rw [List.getD_eq_getElem?_getD, List.getElem?_replicate]; split <;> exact ⟨by decide, by decide⟩
theorem bytes_pad {k : List Int} (hk : Bytes k) : Bytes (padL k) := bytes_app hk (bytes_rep _)
/-- the conditions' common part -/
theorem sm_common {n : Int} {k x : List Int} (h1 : 1 ≤ n) (h2 : n ≤ 32) (h3 : k.length ≤ 32) (hx : Bytes x) (hl : x.length ≤ 70368744177800) :
    AllC [x.length * 1 ≤ 2 ^ 47, (0 : Int) ≤ 1779033703 ∧ 0 ≤ 16842752 + 256 * (k.length : Int) + n, Fits .i64 (16842752 + 256 * (k.length : Int) + n), Fits .i64 (16842752 + 256 * (k.length : Int)), Fits .i64 (256 * (k.length : Int)), Fits .i64 (k.length : Int),
      LoopGood gd3 99 (.loop slBody) slKeep 2 (.exit 2) (mkLoopN slG), Bytes x, x.length ≤ 140737488355328, ∀ i, i < 8 → U (atL (dH0 n k) i),
      x.length - 64 * Nx x ≤ 64, 64 * Nx x + (x.length - 64 * Nx x) ≤ x.length, Bytes x, 0 ≤ (x.length : Int) ∧ (x.length : Int) < 9223372036854775808, ∀ i, i < 8 → U (n8 (dHx n k x) i),
      Fits .i64 (x.length : Int), 0 ≤ ((64 * Nx x : Nat) : Int) ∧ ((64 * Nx x : Nat) : Int) ≤ (x.length : Int) ∧ (x.length : Int) ≤ (x.length : Int),
      LoopGood gd3 99 (.loop ouBody) ouKeep 1 (.exit 4) (mkLoopN ouG), 0 ≤ n ∧ n ≤ 32, ∀ i, i < 8 → U (n8 (dHf n k x) i)] := by
  have hu := dH0_U (k := k) h1 h2 h3
  have hs := slH_U hu hx (Nx x)
  have hf : ∀ i, i < 8 → U (dHf n k x i) := fun i hi => prS_U (n8_U hs) (fun t => blkF_byte hx _ _ t) _ ⟨by decide, by decide⟩ i hi
  have hL1 := sl_loop
  have hL2 := ou_loop
  have hn : 64 * Nx x ≤ x.length ∧ x.length - 64 * Nx x ≤ 64 := by simp only [Nx]; omega
  simp only [allC_cons, allC_nil, and_true]
  exact ⟨by omega, ⟨by decide, by omega⟩, fits_of (by omega) (by omega), fits_of (by omega) (by omega), fits_of (by omega) (by omega), fits_of (by omega) (by omega), hL1, hx, by omega, hu, by omega, by omega, hx, ⟨by omega, by omega⟩, n8_U hs,
    fits_of (by omega) (by omega), ⟨by omega, by omega, by omega⟩, hL2, ⟨by omega, by omega⟩, n8_U hf⟩
theorem se1o (n : Int) (k d : List Int) : runF gd3 900 [.br true] 11 [.int .i64 n, .roi .u8 k, .own 0] [.ints .u8 d] [] = some (.tuple [.raw (.slice none 0 0), .lit .i64 1], [some (.ints .u8 d)], [decide (n < 1) = true]) := run_parts (by kernel_rfl) (by kernel_rfl) (by kernel_rfl)
theorem se2o (n : Int) (k d : List Int) : runF gd3 900 [.br false, .br true] 11 [.int .i64 n, .roi .u8 k, .own 0] [.ints .u8 d] [] = some (.tuple [.raw (.slice none 0 0), .lit .i64 1], [some (.ints .u8 d)], [decide (32 < n) = true, decide (n < 1) = false]) := run_parts (by kernel_rfl) (by kernel_rfl) (by kernel_rfl)
theorem se3o (n : Int) (k d : List Int) : runF gd3 900 [.br false, .br false, .br true] 11 [.int .i64 n, .roi .u8 k, .own 0] [.ints .u8 d] [] = some (.tuple [.raw (.slice none 0 0), .lit .i64 1], [some (.ints .u8 d)], [Fits .i64 (k.length : Int), decide (32 < n) = false, decide (n < 1) = false, decide ((32 : Int) < (k.length : Int)) = true]) := run_parts (by kernel_rfl) (by kernel_rfl) (by kernel_rfl)
theorem se1r (n : Int) (k d : List Int) : runF gd3 900 [.br true] 11 [.int .i64 n, .roi .u8 k, .roi .u8 d] [] [] = some (.tuple [.raw (.slice none 0 0), .lit .i64 1], [], [decide (n < 1) = true]) := run_parts (by kernel_rfl) (by kernel_rfl) (by kernel_rfl)
theorem se2r (n : Int) (k d : List Int) : runF gd3 900 [.br false, .br true] 11 [.int .i64 n, .roi .u8 k, .roi .u8 d] [] [] = some (.tuple [.raw (.slice none 0 0), .lit .i64 1], [], [decide (32 < n) = true, decide (n < 1) = false]) := run_parts (by kernel_rfl) (by kernel_rfl) (by kernel_rfl)
theorem se3r (n : Int) (k d : List Int) : runF gd3 900 [.br false, .br false, .br true] 11 [.int .i64 n, .roi .u8 k, .roi .u8 d] [] [] = some (.tuple [.raw (.slice none 0 0), .lit .i64 1], [], [Fits .i64 (k.length : Int), decide (32 < n) = false, decide (n < 1) = false, decide ((32 : Int) < (k.length : Int)) = true]) := run_parts (by kernel_rfl) (by kernel_rfl) (by kernel_rfl)
theorem sok_o {n : Int} {k d : List Int} (h1 : 1 ≤ n) (h2 : n ≤ 32) (h3 : k.length ≤ 32) (hk : Bytes k) (hd : Bytes d) (hl : d.length ≤ 70368744177664) :
    FnOk gd3 11 [.int .i64 n, .roi .u8 k, .own 0] [.ints .u8 d] { val := .tuple [.own 1, .int .i64 0], upd := [(0, some (.ints .u8 d))], new := [.ints .u8 (dSum n k (allL k d))] } := by
  have F : Fits .i64 (k.length : Int) := fits_of (by omega) (by omega)
  have hL := po_loop
  have hL2 := pr_loop
  unfold allL
  by_cases c : 0 < k.length
  · rw [if_pos c]
    have hp : (padL k).length = 64 := by rw [padL, pad_len]; omega
    have cm := sm_common h1 h2 h3 (bytes_app (bytes_pad hk) hd) (k := k) (by rw [List.length_append, hp]; omega)
    refine FnOk.val (FnOk.run (out := { val := .tuple [.own 1, .lit .i64 0], upd := [(0, some (.ints .u8 d))], new := [.ints .u8 (dSum n k (padL k ++ d))] }) (new := [6]) gd3_ok (smAo n k d) ?_ (by simp [upto]) rfl (by simp) (by simp) (fun j hj => by
      match j, hj with
        | 0, _ => rfl
        | 1, _ => rfl)) (fun _ _ _ _ h => denV_norm h)
    have hA : AllC [Fits .i64 (k.length : Int), decide (32 < n) = false, decide (n < 1) = false, decide ((32 : Int) < (k.length : Int)) = false, Fits .i64 (k.length : Int), decide ((0 : Int) < (k.length : Int)) = true, k.length * 1 ≤ 2 ^ 47, LoopGood gd3 99 (.loop paBody) paKeep 1 (.exit 0) (mkLoopN poG), k.length ≤ 64] := by
      simp only [allC_cons, allC_nil, and_true]
      exact ⟨F, decide_eq_false (by omega), decide_eq_false (by omega), decide_eq_false (by omega), F, decide_eq_true (by omega), by omega, hL, by omega⟩
    exact allC_append.2 ⟨hA, cm⟩
  · rw [if_neg c]
    have cm := sm_common h1 h2 h3 hd (k := k) (by omega)
    refine FnOk.val (FnOk.run (out := { val := .tuple [.own 1, .lit .i64 0], upd := [(0, some (.ints .u8 d))], new := [.ints .u8 (dSum n k d)] }) (new := [4]) gd3_ok (smBo n k d) ?_ (by simp [upto]) rfl (by simp) (by simp) (fun j hj => by
      match j, hj with
        | 0, _ => rfl
        | 1, _ => rfl)) (fun _ _ _ _ h => denV_norm h)
    have hA : AllC [Fits .i64 (k.length : Int), decide (32 < n) = false, decide (n < 1) = false, decide ((32 : Int) < (k.length : Int)) = false, Fits .i64 (k.length : Int), decide ((0 : Int) < (k.length : Int)) = false] := by
      simp only [allC_cons, allC_nil, and_true]
      exact ⟨F, decide_eq_false (by omega), decide_eq_false (by omega), decide_eq_false (by omega), F, decide_eq_false (by omega)⟩
    exact allC_append.2 ⟨hA, cm⟩
theorem ser_o {n : Int} {k d : List Int} (h : n < 1 ∨ 32 < n ∨ 32 < k.length) (F : Fits .i64 (k.length : Int)) :
    FnOk gd3 11 [.int .i64 n, .roi .u8 k, .own 0] [.ints .u8 d] { val := .tuple [.raw (.slice none 0 0), .int .i64 1], upd := [(0, some (.ints .u8 d))] } := by
  have fin : ∀ {pl C}, runF gd3 900 pl 11 [.int .i64 n, .roi .u8 k, .own 0] [.ints .u8 d] [] = some (.tuple [.raw (.slice none 0 0), .lit .i64 1], [some (.ints .u8 d)], C) → AllC C → FnOk gd3 11 [.int .i64 n, .roi .u8 k, .own 0] [.ints .u8 d] { val := .tuple [.raw (.slice none 0 0), .int .i64 1], upd := [(0, some (.ints .u8 d))] } := fun hr hC =>
    FnOk.val (FnOk.run (out := { val := .tuple [.raw (.slice none 0 0), .lit .i64 1], upd := [(0, some (.ints .u8 d))] }) (new := []) gd3_ok hr hC (by simp [upto]) rfl (by simp) (by simp) (fun j hj => by
      match j, hj with
      | 0, _ => rfl)) (fun _ _ _ _ h => denV_norm h)
  by_cases c1 : n < 1
  · exact fin (se1o n k d) (by simp only [allC_cons, allC_nil, and_true]; exact decide_eq_true c1)
  by_cases c2 : 32 < n
  · exact fin (se2o n k d) (by simp only [allC_cons, allC_nil, and_true]; exact ⟨decide_eq_true c2, decide_eq_false c1⟩)
  · exact fin (se3o n k d) (by simp only [allC_cons, allC_nil, and_true]; exact ⟨F, decide_eq_false c2, decide_eq_false c1, decide_eq_true (by omega)⟩)
theorem sok_r {n : Int} {k d : List Int} (h1 : 1 ≤ n) (h2 : n ≤ 32) (h3 : k.length ≤ 32) (hk : Bytes k) (hd : Bytes d) (hl : d.length ≤ 70368744177664) :
    FnOk gd3 11 [.int .i64 n, .roi .u8 k, .roi .u8 d] [] { val := .tuple [.own 0, .int .i64 0], new := [.ints .u8 (dSum n k (allL k d))] } := by
  have F : Fits .i64 (k.length : Int) := fits_of (by omega) (by omega)
  have hL := po_loop
  have hL2 := pr_loop
  unfold allL
  by_cases c : 0 < k.length
  · rw [if_pos c]
    have hp : (padL k).length = 64 := by rw [padL, pad_len]; omega
    have cm := sm_common h1 h2 h3 (bytes_app (bytes_pad hk) hd) (k := k) (by rw [List.length_append, hp]; omega)
    refine FnOk.val (FnOk.run (out := { val := .tuple [.own 0, .lit .i64 0], new := [.ints .u8 (dSum n k (padL k ++ d))] }) (new := [5]) gd3_ok (smAr n k d) ?_ (by simp [upto]) rfl (by simp) (by simp) (fun j hj => by
      match j, hj with
        | 0, _ => rfl)) (fun _ _ _ _ h => denV_norm h)
    have hA : AllC [Fits .i64 (k.length : Int), decide (32 < n) = false, decide (n < 1) = false, decide ((32 : Int) < (k.length : Int)) = false, Fits .i64 (k.length : Int), decide ((0 : Int) < (k.length : Int)) = true, k.length * 1 ≤ 2 ^ 47, LoopGood gd3 99 (.loop paBody) paKeep 0 (.exit 0) (mkLoopN prG), k.length ≤ 64] := by
      simp only [allC_cons, allC_nil, and_true]
      exact ⟨F, decide_eq_false (by omega), decide_eq_false (by omega), decide_eq_false (by omega), F, decide_eq_true (by omega), by omega, hL2, by omega⟩
    exact allC_append.2 ⟨hA, cm⟩
  · rw [if_neg c]
    have cm := sm_common h1 h2 h3 hd (k := k) (by omega)
    refine FnOk.val (FnOk.run (out := { val := .tuple [.own 0, .lit .i64 0], new := [.ints .u8 (dSum n k d)] }) (new := [3]) gd3_ok (smBr n k d) ?_ (by simp [upto]) rfl (by simp) (by simp) (fun j hj => by
      match j, hj with
        | 0, _ => rfl)) (fun _ _ _ _ h => denV_norm h)
    have hA : AllC [Fits .i64 (k.length : Int), decide (32 < n) = false, decide (n < 1) = false, decide ((32 : Int) < (k.length : Int)) = false, Fits .i64 (k.length : Int), decide ((0 : Int) < (k.length : Int)) = false] := by
      simp only [allC_cons, allC_nil, and_true]
      exact ⟨F, decide_eq_false (by omega), decide_eq_false (by omega), decide_eq_false (by omega), F, decide_eq_false (by omega)⟩
    exact allC_append.2 ⟨hA, cm⟩
theorem ser_r {n : Int} {k d : List Int} (h : n < 1 ∨ 32 < n ∨ 32 < k.length) (F : Fits .i64 (k.length : Int)) :
    FnOk gd3 11 [.int .i64 n, .roi .u8 k, .roi .u8 d] [] { val := .tuple [.raw (.slice none 0 0), .int .i64 1] } := by
  have fin : ∀ {pl C}, runF gd3 900 pl 11 [.int .i64 n, .roi .u8 k, .roi .u8 d] [] [] = some (.tuple [.raw (.slice none 0 0), .lit .i64 1], [], C) → AllC C → FnOk gd3 11 [.int .i64 n, .roi .u8 k, .roi .u8 d] [] { val := .tuple [.raw (.slice none 0 0), .int .i64 1] } := fun hr hC =>
    FnOk.val (FnOk.run (out := { val := .tuple [.raw (.slice none 0 0), .lit .i64 1] }) (new := []) gd3_ok hr hC (by simp [upto]) rfl (by simp) (by simp) (fun j hj => absurd hj (by simp [upto]))) (fun _ _ _ _ h => denV_norm h)
  by_cases c1 : n < 1
  · exact fin (se1r n k d) (by simp only [allC_cons, allC_nil, and_true]; exact decide_eq_true c1)
  by_cases c2 : 32 < n
  · exact fin (se2r n k d) (by simp only [allC_cons, allC_nil, and_true]; exact ⟨decide_eq_true c2, decide_eq_false c1⟩)
  · exact fin (se3r n k d) (by simp only [allC_cons, allC_nil, and_true]; exact ⟨F, decide_eq_false c2, decide_eq_false c1, decide_eq_true (by omega)⟩)
theorem acc11 (ok : Bool → Bool) : Acc gd3 11 (F11 ok) := by
  intro args B out h hC
  unfold F11 at h
  split at h
  · rename_i n s
    split at h
    · rename_i k K d hs
      split at h
      · rename_i hK _
        obtain rfl := kidx_inj hK
        simp only [Option.some.injEq] at h; subst h
        simp only [allC_cons, allC_nil, and_true] at hC
        obtain ⟨h1, h2, h3, h4, h5, h6⟩ := hC
        refine FnOk.imp (args' := [.int .i64 n, .roi .u8 k, .own 0]) ?_ ⟨DenImp.refl _, roiL_imp hs, DenImp.refl _, trivial⟩
        exact FnOk.val (sok_o h1 h2 h3 h4 h5 h6) (fun _ _ _ _ h => h)
      · rename_i hK _
        obtain rfl := kidx_inj hK
        simp only [Option.some.injEq] at h; subst h
        simp only [allC_cons, allC_nil, and_true] at hC
        refine FnOk.imp (args' := [.int .i64 n, .roi .u8 k, .own 0]) ?_ ⟨DenImp.refl _, roiL_imp hs, DenImp.refl _, trivial⟩
        exact FnOk.val (ser_o hC.1 hC.2) (fun _ _ _ _ h => h)
      · simp at h
    · simp at h
  · rename_i n s s2 _
    split at h
    · rename_i k d hs hs2
      split at h
      · simp only [Option.some.injEq] at h; subst h
        simp only [allC_cons, allC_nil, and_true] at hC
        obtain ⟨h1, h2, h3, h4, h5, h6⟩ := hC
        refine FnOk.imp (args' := [.int .i64 n, .roi .u8 k, .roi .u8 d]) ?_ ⟨DenImp.refl _, roiL_imp hs, roiL_imp hs2, trivial⟩
        exact FnOk.val (sok_r h1 h2 h3 h4 h5 h6) (fun _ _ _ _ h => h)
      · simp only [Option.some.injEq] at h; subst h
        simp only [allC_cons, allC_nil, and_true] at hC
        refine FnOk.imp (args' := [.int .i64 n, .roi .u8 k, .roi .u8 d]) ?_ ⟨DenImp.refl _, roiL_imp hs, roiL_imp hs2, trivial⟩
        exact FnOk.val (ser_r hC.1 hC.2) (fun _ _ _ _ h => h)
    · simp at h
  · simp at h
end Go.Proofs.Tryd
