/- Accounts of this seat's functions: lemmas, no statement of their own. No conditions. -/
import Derived.Test.YtofcclenjblhkaaTA
import Derived.Test.YtofcclenjblhkaaV3
namespace Go.Proofs.Ytofcclenjblhkaa
open Go Go.Vx

noncomputable abbrev five (a : Nat → Int) : List SV := svF (List.replicate 5 .u64) a 0
def selfE (s a : Nat) : Nat := a ^^^ (18446744073709551616 - s % 2) % 18446744073709551616 &&& (a ^^^ a) ^^^ (18446744073709551616 - s % 2) % 18446744073709551616 &&& (a ^^^ a)
theorem selfE_eq (s a : Nat) : selfE s a = a := by unfold selfE; rw [Nat.xor_self, Nat.and_zero, Nat.xor_zero, Nat.xor_zero]
theorem swap_run (s : Nat) (a b : Nat → Int) : runF g0 80 [] 16 [.int .u64 s, .ptr 0 0, .ptr 1 0] [.cells (five a), .cells (five b)] [] =
    some (.tuple [], [some (.cells (five fun i => Int.ofNat (swapA s (a i).toNat (b i).toNat))), some (.cells (five fun i => Int.ofNat (swapB s (a i).toNat (b i).toNat)))], []) := by kernel_rfl
theorem swap_self (s : Nat) (a : Nat → Int) : runF g0 80 [] 16 [.int .u64 s, .ptr 0 0, .ptr 0 0] [.cells (five a)] [] = some (.tuple [], [some (.cells (five fun i => Int.ofNat (selfE s (a i).toNat)))], []) := by kernel_rfl
theorem swap_nil1 (s : Nat) (b : Nat → Int) : runF g0 80 [] 16 [.int .u64 s, .raw (.pointer none), .ptr 0 0] [.cells (five b)] [] = some (.tuple [], [some (.cells (five b))], []) := by kernel_rfl
theorem swap_nil2 (s : Nat) (b : Nat → Int) : runF g0 80 [] 16 [.int .u64 s, .ptr 0 0, .raw (.pointer none)] [.cells (five b)] [] = some (.tuple [], [some (.cells (five b))], []) := by kernel_rfl
theorem swap_nil3 (s : Nat) : runF g0 80 [] 16 [.int .u64 s, .raw (.pointer none), .raw (.pointer none)] [] [] = some (.tuple [], [], []) := by kernel_rfl

noncomputable def selL (s : Int) (la lb : List Int) : List SV := List.zipWith (fun x y => .int .u64 (if s % 2 = 1 then x else y)) la lb
noncomputable def F16 : SumF := fun args B => match args, B with
  | [.int .u64 s, .ptr 0 0, .ptr 1 0], [.cells xs, .cells ys] => match numsAs (List.replicate 5 .u64) xs, numsAs (List.replicate 5 .u64) ys with
    | some la, some lb => some { val := .tuple [], upd := [(0, some (.cells (selL s lb la))), (1, some (.cells (selL s la lb)))] }
    | _, _ => none
  | [.int .u64 _, .ptr 0 0, .ptr 0 0], [.cells xs] => match numsAs (List.replicate 5 .u64) xs with
    | some la => some { val := .tuple [], upd := [(0, some (.cells (la.map (SV.int .u64))))] }
    | _ => none
  | [.int .u64 _, .raw (.pointer none), .ptr 0 0], [.cells xs] => match numsAs (List.replicate 5 .u64) xs with
    | some la => some { val := .tuple [], upd := [(0, some (.cells (la.map (SV.int .u64))))] }
    | _ => none
  | [.int .u64 _, .ptr 0 0, .raw (.pointer none)], [.cells xs] => match numsAs (List.replicate 5 .u64) xs with
    | some la => some { val := .tuple [], upd := [(0, some (.cells (la.map (SV.int .u64))))] }
    | _ => none
  | [.int .u64 _, .raw (.pointer none), .raw (.pointer none)], [] => some { val := .tuple [] }
  | _, _ => none

theorem zip_sel (s : Int) : ∀ (n : Nat) (a b : Nat → Int) (i : Nat), selL s (listF n a i) (listF n b i) = svF (List.replicate n .u64) (fun j => if s % 2 = 1 then a j else b j) i
  | 0, _, _, _ => rfl
  | n + 1, a, b, i => by
    have := zip_sel s n a b (i + 1)
    unfold selL at this ⊢
    simp only [listF, List.zipWith_cons_cons, List.replicate_succ, svF, this]
theorem map_svF : ∀ (n : Nat) (a : Nat → Int) (i : Nat), (listF n a i).map (SV.int .u64) = svF (List.replicate n .u64) a i
  | 0, _, _ => rfl
  | n + 1, a, i => by simp only [listF, List.map_cons, List.replicate_succ, svF, map_svF n a (i + 1)]

theorem two_swap {xs ys : List SV} {v : SV} {xs' ys' : List SV} (j : Nat) : afterH [.cells xs, .cells ys] { val := v, upd := [(0, some (.cells xs')), (1, some (.cells ys'))] } j = if j = 0 then some (.cells xs') else if j = 1 then some (.cells ys') else none := by
  unfold afterH newH
  simp only [newAll, updAll, upH]
  match j with
  | 0 => rfl
  | 1 => rfl
  | j + 2 => simp [BH]
theorem one_swap {xs : List SV} {v : SV} {xs' : List SV} (j : Nat) : afterH [.cells xs] { val := v, upd := [(0, some (.cells xs'))] } j = if j = 0 then some (.cells xs') else none := by
  unfold afterH newH
  simp only [newAll, updAll, upH]
  match j with
  | 0 => rfl
  | j + 1 => simp [BH]

theorem one_ok {args : List SV} {xs : List SV} {la : List Int} (ha : numsAs (List.replicate 5 .u64) xs = some la) {r : Nat → Int} (hr : ∀ j, j < 5 → Fits .u64 (atL la j) → r j = atL la j)
    (hrun : runF g0 80 [] 16 args [.cells (five (atL la))] [] = some (.tuple [], [some (.cells (five r))], [])) :
    FnOk g0 16 args [.cells xs] { val := .tuple [], upd := [(0, some (.cells (la.map (SV.int .u64))))] } := by
  refine FnOk.preB (B' := [.cells (five (atL la))]) ?_ ⟨cells_nums ha, trivial⟩ (fun j => by rw [one_swap, one_swap])
  have e1 := nums_list ha
  simp only [List.length_replicate] at e1
  refine FnOk.factsB fun hb => ?_
  have h1 := hb (.cells (five (atL la))) (by simp)
  have e2 : la.map (SV.int .u64) = five r := by
    rw [e1, map_svF]
    refine svF_cong fun j hj => ?_
    have hj : j < 5 := by rw [List.length_replicate] at hj; exact hj
    have hf := facts_svF h1 j .u64 (rep_get hj)
    rw [Nat.zero_add] at hf ⊢
    exact (hr j hj hf).symm
  rw [e2]
  exact FnOk.run (out := { val := .tuple [], upd := [(0, some (.cells (five r)))] }) g0_ok hrun (by simp [AllC]) (by simp [upto]) rfl (by simp) (by simp) (fun j hj => by
    rw [one_swap]
    match j, hj with
    | 0, _ => rfl)

theorem ok16 (args : List SV) (B : List Body) (out : OpOut) (h : F16 args B = some out) (_ : AllC out.C) : FnOk g0 16 args B out := by
  unfold F16 at h
  split at h
  · rename_i s xs ys
    split at h
    · rename_i la lb ha hb
      simp only [Option.some.injEq] at h; subst h
      refine FnOk.preB (B' := [.cells (five (atL la)), .cells (five (atL lb))]) ?_ ⟨cells_nums ha, cells_nums hb, trivial⟩ (fun j => by rw [two_swap, two_swap])
      have e1 := nums_list ha
      have e2 := nums_list hb
      simp only [List.length_replicate] at e1 e2
      refine FnOk.facts fun ⟨h0, _⟩ => ?_
      obtain ⟨m, rfl, hm⟩ := fits_u64 h0
      refine FnOk.factsB fun hb => ?_
      have h1 := hb (.cells (five (atL la))) (by simp)
      have h2 := hb (.cells (five (atL lb))) (by simp)
      have key : ∀ j, j < 5 → Int.ofNat (swapA m (atL la j).toNat (atL lb j).toNat) = (if (m : Int) % 2 = 1 then atL lb j else atL la j) ∧ Int.ofNat (swapB m (atL la j).toNat (atL lb j).toNat) = (if (m : Int) % 2 = 1 then atL la j else atL lb j) := fun j hj => by
        obtain ⟨x, hx, hx'⟩ := fits_u64 (facts_svF h1 j .u64 (rep_get hj))
        obtain ⟨y, hy, hy'⟩ := fits_u64 (facts_svF h2 j .u64 (rep_get hj))
        rw [Nat.zero_add] at hx hy
        rw [hx, hy]
        simp only [Int.toNat_natCast]
        rw [swapA_eq m hx' hy', swapB_eq m hx' hy']
        by_cases h : m % 2 = 1
        · have : (m : Int) % 2 = 1 := by omega
          simp [h, this]
        · have : ¬ ((m : Int) % 2 = 1) := by omega
          simp [h, this]
      have g1 : selL m lb la = five fun i => Int.ofNat (swapA m (atL la i).toNat (atL lb i).toNat) := by
        rw [e1, e2, zip_sel, ← e1, ← e2]
        refine svF_cong fun j hj => ?_
        rw [Nat.zero_add, (key j (by rw [List.length_replicate] at hj; exact hj)).1]
      have g2 : selL m la lb = five fun i => Int.ofNat (swapB m (atL la i).toNat (atL lb i).toNat) := by
        rw [e1, e2, zip_sel, ← e1, ← e2]
        refine svF_cong fun j hj => ?_
        rw [Nat.zero_add, (key j (by rw [List.length_replicate] at hj; exact hj)).2]
      rw [g1, g2]
      exact FnOk.run (out := { val := .tuple [], upd := [(0, some (.cells (five fun i => Int.ofNat (swapA m (atL la i).toNat (atL lb i).toNat)))), (1, some (.cells (five fun i => Int.ofNat (swapB m (atL la i).toNat (atL lb i).toNat))))] }) g0_ok (swap_run m (atL la) (atL lb)) (by simp [AllC]) (by simp [upto]) rfl (by simp) (by simp) (fun j hj => by
        rw [two_swap]
        match j, hj with
        | 0, _ => rfl
        | 1, _ => rfl)
    · simp at h
  · split at h
    · rename_i la ha
      simp only [Option.some.injEq] at h; subst h
      refine FnOk.facts fun ⟨h0, _⟩ => ?_
      obtain ⟨m, rfl, hm⟩ := fits_u64 h0
      exact one_ok ha (fun j _ hf => by obtain ⟨x, hx, _⟩ := fits_u64 hf; rw [selfE_eq, hx]; simp) (swap_self m (atL la))
    · simp at h
  · split at h
    · rename_i la ha
      simp only [Option.some.injEq] at h; subst h
      refine FnOk.facts fun ⟨h0, _⟩ => ?_
      obtain ⟨m, rfl, hm⟩ := fits_u64 h0
      exact one_ok ha (fun j _ _ => rfl) (swap_nil1 m (atL la))
    · simp at h
  · split at h
    · rename_i la ha
      simp only [Option.some.injEq] at h; subst h
      refine FnOk.facts fun ⟨h0, _⟩ => ?_
      obtain ⟨m, rfl, hm⟩ := fits_u64 h0
      exact one_ok ha (fun j _ _ => rfl) (swap_nil2 m (atL la))
    · simp at h
  · simp only [Option.some.injEq] at h; subst h
    refine FnOk.facts fun ⟨h0, _⟩ => ?_
    obtain ⟨m, rfl, hm⟩ := fits_u64 h0
    exact FnOk.pure g0_ok (swap_nil3 m) (by simp [AllC])
  · simp at h

noncomputable def sum2 : FuncId → Option Sum := fun f => match f with
  | 16 => some (mkSumN F16)
  | f => sum1 f
noncomputable def g2 : Ctx := { P := Try.prog, sum := sum2, glob := fun _ => none }
theorem g2_ok : CtxU g2 := by
  refine CtxU.mk (fun f σ h => ?_) mixed noGo
  simp only [g2, sum2] at h
  split at h
  · simp only [Option.some.injEq] at h; subst h
    exact SumU.mkN (g := g2) ok16
  · exact fun w0 O hG => (g1_ok w0 O hG).sums _ _ h

noncomputable abbrev sargs (s : Int) (a b : Nat → Int) : List SV := [.int .u64 s, .agg (five a), .agg (five b)]
theorem swaps1 (s : Int) (a b : Nat → Int) : runF g2 200 [.br true, .br false, .br false, .br false, .br false, .br false, .br true, .br true] 5 (sargs s a b) [] [] =
    some (SV.bool true, [], [decide (Int.ofNat (s.toNat % (Int.ofNat (nat_lit 1 + (1 : Nat))).toNat) = Int.ofNat (0 : Nat)) = false, (!decide ([if s % (2 : Int) = (1 : Int) then a (0 : Nat) else b (0 : Nat), if s % (2 : Int) = (1 : Int) then a ((0 : Nat) + (1 : Nat)) else b ((0 : Nat) + (1 : Nat)), if s % (2 : Int) = (1 : Int) then a ((0 : Nat) + (1 : Nat) + (1 : Nat)) else b ((0 : Nat) + (1 : Nat) + (1 : Nat)), if s % (2 : Int) = (1 : Int) then a ((0 : Nat) + (1 : Nat) + (1 : Nat) + (1 : Nat)) else b ((0 : Nat) + (1 : Nat) + (1 : Nat) + (1 : Nat)), if s % (2 : Int) = (1 : Int) then a ((0 : Nat) + (1 : Nat) + (1 : Nat) + (1 : Nat) + (1 : Nat)) else b ((0 : Nat) + (1 : Nat) + (1 : Nat) + (1 : Nat) + (1 : Nat))] = [a (0 : Nat), a ((0 : Nat) + (1 : Nat)), a ((0 : Nat) + (1 : Nat) + (1 : Nat)), a ((0 : Nat) + (1 : Nat) + (1 : Nat) + (1 : Nat)), a ((0 : Nat) + (1 : Nat) + (1 : Nat) + (1 : Nat) + (1 : Nat))])) = false, (!decide ([if s % (2 : Int) = (1 : Int) then b (0 : Nat) else a (0 : Nat), if s % (2 : Int) = (1 : Int) then b ((0 : Nat) + (1 : Nat)) else a ((0 : Nat) + (1 : Nat)), if s % (2 : Int) = (1 : Int) then b ((0 : Nat) + (1 : Nat) + (1 : Nat)) else a ((0 : Nat) + (1 : Nat) + (1 : Nat)), if s % (2 : Int) = (1 : Int) then b ((0 : Nat) + (1 : Nat) + (1 : Nat) + (1 : Nat)) else a ((0 : Nat) + (1 : Nat) + (1 : Nat) + (1 : Nat)), if s % (2 : Int) = (1 : Int) then b ((0 : Nat) + (1 : Nat) + (1 : Nat) + (1 : Nat) + (1 : Nat)) else a ((0 : Nat) + (1 : Nat) + (1 : Nat) + (1 : Nat) + (1 : Nat))] = [b (0 : Nat), b ((0 : Nat) + (1 : Nat)), b ((0 : Nat) + (1 : Nat) + (1 : Nat)), b ((0 : Nat) + (1 : Nat) + (1 : Nat) + (1 : Nat)), b ((0 : Nat) + (1 : Nat) + (1 : Nat) + (1 : Nat) + (1 : Nat))])) = false, decide (Int.ofNat (s.toNat % (Int.ofNat (nat_lit 1 + (1 : Nat))).toNat) = Int.ofNat (nat_lit 0 + (1 : Nat))) = true, (!decide ([if s % (2 : Int) = (1 : Int) then if s % (2 : Int) = (1 : Int) then a (0 : Nat) else b (0 : Nat) else if s % (2 : Int) = (1 : Int) then b (0 : Nat) else a (0 : Nat), if s % (2 : Int) = (1 : Int) then if s % (2 : Int) = (1 : Int) then a ((0 : Nat) + (1 : Nat)) else b ((0 : Nat) + (1 : Nat)) else if s % (2 : Int) = (1 : Int) then b ((0 : Nat) + (1 : Nat)) else a ((0 : Nat) + (1 : Nat)), if s % (2 : Int) = (1 : Int) then if s % (2 : Int) = (1 : Int) then a ((0 : Nat) + (1 : Nat) + (1 : Nat)) else b ((0 : Nat) + (1 : Nat) + (1 : Nat)) else if s % (2 : Int) = (1 : Int) then b ((0 : Nat) + (1 : Nat) + (1 : Nat)) else a ((0 : Nat) + (1 : Nat) + (1 : Nat)), if s % (2 : Int) = (1 : Int) then if s % (2 : Int) = (1 : Int) then a ((0 : Nat) + (1 : Nat) + (1 : Nat) + (1 : Nat)) else b ((0 : Nat) + (1 : Nat) + (1 : Nat) + (1 : Nat)) else if s % (2 : Int) = (1 : Int) then b ((0 : Nat) + (1 : Nat) + (1 : Nat) + (1 : Nat)) else a ((0 : Nat) + (1 : Nat) + (1 : Nat) + (1 : Nat)), if s % (2 : Int) = (1 : Int) then if s % (2 : Int) = (1 : Int) then a ((0 : Nat) + (1 : Nat) + (1 : Nat) + (1 : Nat) + (1 : Nat)) else b ((0 : Nat) + (1 : Nat) + (1 : Nat) + (1 : Nat) + (1 : Nat)) else if s % (2 : Int) = (1 : Int) then b ((0 : Nat) + (1 : Nat) + (1 : Nat) + (1 : Nat) + (1 : Nat)) else a ((0 : Nat) + (1 : Nat) + (1 : Nat) + (1 : Nat) + (1 : Nat))] = [a (0 : Nat), a ((0 : Nat) + (1 : Nat)), a ((0 : Nat) + (1 : Nat) + (1 : Nat)), a ((0 : Nat) + (1 : Nat) + (1 : Nat) + (1 : Nat)), a ((0 : Nat) + (1 : Nat) + (1 : Nat) + (1 : Nat) + (1 : Nat))])) = false, (!decide ([if s % (2 : Int) = (1 : Int) then if s % (2 : Int) = (1 : Int) then b (0 : Nat) else a (0 : Nat) else if s % (2 : Int) = (1 : Int) then a (0 : Nat) else b (0 : Nat), if s % (2 : Int) = (1 : Int) then if s % (2 : Int) = (1 : Int) then b ((0 : Nat) + (1 : Nat)) else a ((0 : Nat) + (1 : Nat)) else if s % (2 : Int) = (1 : Int) then a ((0 : Nat) + (1 : Nat)) else b ((0 : Nat) + (1 : Nat)), if s % (2 : Int) = (1 : Int) then if s % (2 : Int) = (1 : Int) then b ((0 : Nat) + (1 : Nat) + (1 : Nat)) else a ((0 : Nat) + (1 : Nat) + (1 : Nat)) else if s % (2 : Int) = (1 : Int) then a ((0 : Nat) + (1 : Nat) + (1 : Nat)) else b ((0 : Nat) + (1 : Nat) + (1 : Nat)), if s % (2 : Int) = (1 : Int) then if s % (2 : Int) = (1 : Int) then b ((0 : Nat) + (1 : Nat) + (1 : Nat) + (1 : Nat)) else a ((0 : Nat) + (1 : Nat) + (1 : Nat) + (1 : Nat)) else if s % (2 : Int) = (1 : Int) then a ((0 : Nat) + (1 : Nat) + (1 : Nat) + (1 : Nat)) else b ((0 : Nat) + (1 : Nat) + (1 : Nat) + (1 : Nat)), if s % (2 : Int) = (1 : Int) then if s % (2 : Int) = (1 : Int) then b ((0 : Nat) + (1 : Nat) + (1 : Nat) + (1 : Nat) + (1 : Nat)) else a ((0 : Nat) + (1 : Nat) + (1 : Nat) + (1 : Nat) + (1 : Nat)) else if s % (2 : Int) = (1 : Int) then a ((0 : Nat) + (1 : Nat) + (1 : Nat) + (1 : Nat) + (1 : Nat)) else b ((0 : Nat) + (1 : Nat) + (1 : Nat) + (1 : Nat) + (1 : Nat))] = [b (0 : Nat), b ((0 : Nat) + (1 : Nat)), b ((0 : Nat) + (1 : Nat) + (1 : Nat)), b ((0 : Nat) + (1 : Nat) + (1 : Nat) + (1 : Nat)), b ((0 : Nat) + (1 : Nat) + (1 : Nat) + (1 : Nat) + (1 : Nat))])) = false, decide ([if s % (2 : Int) = (1 : Int) then if s % (2 : Int) = (1 : Int) then b (0 : Nat) else a (0 : Nat) else if s % (2 : Int) = (1 : Int) then a (0 : Nat) else b (0 : Nat), if s % (2 : Int) = (1 : Int) then if s % (2 : Int) = (1 : Int) then b ((0 : Nat) + (1 : Nat)) else a ((0 : Nat) + (1 : Nat)) else if s % (2 : Int) = (1 : Int) then a ((0 : Nat) + (1 : Nat)) else b ((0 : Nat) + (1 : Nat)), if s % (2 : Int) = (1 : Int) then if s % (2 : Int) = (1 : Int) then b ((0 : Nat) + (1 : Nat) + (1 : Nat)) else a ((0 : Nat) + (1 : Nat) + (1 : Nat)) else if s % (2 : Int) = (1 : Int) then a ((0 : Nat) + (1 : Nat) + (1 : Nat)) else b ((0 : Nat) + (1 : Nat) + (1 : Nat)), if s % (2 : Int) = (1 : Int) then if s % (2 : Int) = (1 : Int) then b ((0 : Nat) + (1 : Nat) + (1 : Nat) + (1 : Nat)) else a ((0 : Nat) + (1 : Nat) + (1 : Nat) + (1 : Nat)) else if s % (2 : Int) = (1 : Int) then a ((0 : Nat) + (1 : Nat) + (1 : Nat) + (1 : Nat)) else b ((0 : Nat) + (1 : Nat) + (1 : Nat) + (1 : Nat)), if s % (2 : Int) = (1 : Int) then if s % (2 : Int) = (1 : Int) then b ((0 : Nat) + (1 : Nat) + (1 : Nat) + (1 : Nat) + (1 : Nat)) else a ((0 : Nat) + (1 : Nat) + (1 : Nat) + (1 : Nat) + (1 : Nat)) else if s % (2 : Int) = (1 : Int) then a ((0 : Nat) + (1 : Nat) + (1 : Nat) + (1 : Nat) + (1 : Nat)) else b ((0 : Nat) + (1 : Nat) + (1 : Nat) + (1 : Nat) + (1 : Nat))] = [b (0 : Nat), b ((0 : Nat) + (1 : Nat)), b ((0 : Nat) + (1 : Nat) + (1 : Nat)), b ((0 : Nat) + (1 : Nat) + (1 : Nat) + (1 : Nat)), b ((0 : Nat) + (1 : Nat) + (1 : Nat) + (1 : Nat) + (1 : Nat))]) = true, decide ([if s % (2 : Int) = (1 : Int) then if s % (2 : Int) = (1 : Int) then a (0 : Nat) else b (0 : Nat) else if s % (2 : Int) = (1 : Int) then b (0 : Nat) else a (0 : Nat), if s % (2 : Int) = (1 : Int) then if s % (2 : Int) = (1 : Int) then a ((0 : Nat) + (1 : Nat)) else b ((0 : Nat) + (1 : Nat)) else if s % (2 : Int) = (1 : Int) then b ((0 : Nat) + (1 : Nat)) else a ((0 : Nat) + (1 : Nat)), if s % (2 : Int) = (1 : Int) then if s % (2 : Int) = (1 : Int) then a ((0 : Nat) + (1 : Nat) + (1 : Nat)) else b ((0 : Nat) + (1 : Nat) + (1 : Nat)) else if s % (2 : Int) = (1 : Int) then b ((0 : Nat) + (1 : Nat) + (1 : Nat)) else a ((0 : Nat) + (1 : Nat) + (1 : Nat)), if s % (2 : Int) = (1 : Int) then if s % (2 : Int) = (1 : Int) then a ((0 : Nat) + (1 : Nat) + (1 : Nat) + (1 : Nat)) else b ((0 : Nat) + (1 : Nat) + (1 : Nat) + (1 : Nat)) else if s % (2 : Int) = (1 : Int) then b ((0 : Nat) + (1 : Nat) + (1 : Nat) + (1 : Nat)) else a ((0 : Nat) + (1 : Nat) + (1 : Nat) + (1 : Nat)), if s % (2 : Int) = (1 : Int) then if s % (2 : Int) = (1 : Int) then a ((0 : Nat) + (1 : Nat) + (1 : Nat) + (1 : Nat) + (1 : Nat)) else b ((0 : Nat) + (1 : Nat) + (1 : Nat) + (1 : Nat) + (1 : Nat)) else if s % (2 : Int) = (1 : Int) then b ((0 : Nat) + (1 : Nat) + (1 : Nat) + (1 : Nat) + (1 : Nat)) else a ((0 : Nat) + (1 : Nat) + (1 : Nat) + (1 : Nat) + (1 : Nat))] = [a (0 : Nat), a ((0 : Nat) + (1 : Nat)), a ((0 : Nat) + (1 : Nat) + (1 : Nat)), a ((0 : Nat) + (1 : Nat) + (1 : Nat) + (1 : Nat)), a ((0 : Nat) + (1 : Nat) + (1 : Nat) + (1 : Nat) + (1 : Nat))]) = true]) := by kernel_rfl
theorem swaps0 (s : Int) (a b : Nat → Int) : runF g2 200 [.br false, .br true, .br false, .br false, .br false, .br false, .br true, .br true] 5 (sargs s a b) [] [] =
    some (SV.bool true, [], [(!decide ([if s % (2 : Int) = (1 : Int) then b (0 : Nat) else a (0 : Nat), if s % (2 : Int) = (1 : Int) then b ((0 : Nat) + (1 : Nat)) else a ((0 : Nat) + (1 : Nat)), if s % (2 : Int) = (1 : Int) then b ((0 : Nat) + (1 : Nat) + (1 : Nat)) else a ((0 : Nat) + (1 : Nat) + (1 : Nat)), if s % (2 : Int) = (1 : Int) then b ((0 : Nat) + (1 : Nat) + (1 : Nat) + (1 : Nat)) else a ((0 : Nat) + (1 : Nat) + (1 : Nat) + (1 : Nat)), if s % (2 : Int) = (1 : Int) then b ((0 : Nat) + (1 : Nat) + (1 : Nat) + (1 : Nat) + (1 : Nat)) else a ((0 : Nat) + (1 : Nat) + (1 : Nat) + (1 : Nat) + (1 : Nat))] = [a (0 : Nat), a ((0 : Nat) + (1 : Nat)), a ((0 : Nat) + (1 : Nat) + (1 : Nat)), a ((0 : Nat) + (1 : Nat) + (1 : Nat) + (1 : Nat)), a ((0 : Nat) + (1 : Nat) + (1 : Nat) + (1 : Nat) + (1 : Nat))])) = false, decide (Int.ofNat (s.toNat % (Int.ofNat (nat_lit 1 + (1 : Nat))).toNat) = Int.ofNat (0 : Nat)) = true, decide (Int.ofNat (s.toNat % (Int.ofNat (nat_lit 1 + (1 : Nat))).toNat) = Int.ofNat (nat_lit 0 + (1 : Nat))) = false, (!decide ([if s % (2 : Int) = (1 : Int) then a (0 : Nat) else b (0 : Nat), if s % (2 : Int) = (1 : Int) then a ((0 : Nat) + (1 : Nat)) else b ((0 : Nat) + (1 : Nat)), if s % (2 : Int) = (1 : Int) then a ((0 : Nat) + (1 : Nat) + (1 : Nat)) else b ((0 : Nat) + (1 : Nat) + (1 : Nat)), if s % (2 : Int) = (1 : Int) then a ((0 : Nat) + (1 : Nat) + (1 : Nat) + (1 : Nat)) else b ((0 : Nat) + (1 : Nat) + (1 : Nat) + (1 : Nat)), if s % (2 : Int) = (1 : Int) then a ((0 : Nat) + (1 : Nat) + (1 : Nat) + (1 : Nat) + (1 : Nat)) else b ((0 : Nat) + (1 : Nat) + (1 : Nat) + (1 : Nat) + (1 : Nat))] = [b (0 : Nat), b ((0 : Nat) + (1 : Nat)), b ((0 : Nat) + (1 : Nat) + (1 : Nat)), b ((0 : Nat) + (1 : Nat) + (1 : Nat) + (1 : Nat)), b ((0 : Nat) + (1 : Nat) + (1 : Nat) + (1 : Nat) + (1 : Nat))])) = false, (!decide ([if s % (2 : Int) = (1 : Int) then if s % (2 : Int) = (1 : Int) then a (0 : Nat) else b (0 : Nat) else if s % (2 : Int) = (1 : Int) then b (0 : Nat) else a (0 : Nat), if s % (2 : Int) = (1 : Int) then if s % (2 : Int) = (1 : Int) then a ((0 : Nat) + (1 : Nat)) else b ((0 : Nat) + (1 : Nat)) else if s % (2 : Int) = (1 : Int) then b ((0 : Nat) + (1 : Nat)) else a ((0 : Nat) + (1 : Nat)), if s % (2 : Int) = (1 : Int) then if s % (2 : Int) = (1 : Int) then a ((0 : Nat) + (1 : Nat) + (1 : Nat)) else b ((0 : Nat) + (1 : Nat) + (1 : Nat)) else if s % (2 : Int) = (1 : Int) then b ((0 : Nat) + (1 : Nat) + (1 : Nat)) else a ((0 : Nat) + (1 : Nat) + (1 : Nat)), if s % (2 : Int) = (1 : Int) then if s % (2 : Int) = (1 : Int) then a ((0 : Nat) + (1 : Nat) + (1 : Nat) + (1 : Nat)) else b ((0 : Nat) + (1 : Nat) + (1 : Nat) + (1 : Nat)) else if s % (2 : Int) = (1 : Int) then b ((0 : Nat) + (1 : Nat) + (1 : Nat) + (1 : Nat)) else a ((0 : Nat) + (1 : Nat) + (1 : Nat) + (1 : Nat)), if s % (2 : Int) = (1 : Int) then if s % (2 : Int) = (1 : Int) then a ((0 : Nat) + (1 : Nat) + (1 : Nat) + (1 : Nat) + (1 : Nat)) else b ((0 : Nat) + (1 : Nat) + (1 : Nat) + (1 : Nat) + (1 : Nat)) else if s % (2 : Int) = (1 : Int) then b ((0 : Nat) + (1 : Nat) + (1 : Nat) + (1 : Nat) + (1 : Nat)) else a ((0 : Nat) + (1 : Nat) + (1 : Nat) + (1 : Nat) + (1 : Nat))] = [a (0 : Nat), a ((0 : Nat) + (1 : Nat)), a ((0 : Nat) + (1 : Nat) + (1 : Nat)), a ((0 : Nat) + (1 : Nat) + (1 : Nat) + (1 : Nat)), a ((0 : Nat) + (1 : Nat) + (1 : Nat) + (1 : Nat) + (1 : Nat))])) = false, (!decide ([if s % (2 : Int) = (1 : Int) then if s % (2 : Int) = (1 : Int) then b (0 : Nat) else a (0 : Nat) else if s % (2 : Int) = (1 : Int) then a (0 : Nat) else b (0 : Nat), if s % (2 : Int) = (1 : Int) then if s % (2 : Int) = (1 : Int) then b ((0 : Nat) + (1 : Nat)) else a ((0 : Nat) + (1 : Nat)) else if s % (2 : Int) = (1 : Int) then a ((0 : Nat) + (1 : Nat)) else b ((0 : Nat) + (1 : Nat)), if s % (2 : Int) = (1 : Int) then if s % (2 : Int) = (1 : Int) then b ((0 : Nat) + (1 : Nat) + (1 : Nat)) else a ((0 : Nat) + (1 : Nat) + (1 : Nat)) else if s % (2 : Int) = (1 : Int) then a ((0 : Nat) + (1 : Nat) + (1 : Nat)) else b ((0 : Nat) + (1 : Nat) + (1 : Nat)), if s % (2 : Int) = (1 : Int) then if s % (2 : Int) = (1 : Int) then b ((0 : Nat) + (1 : Nat) + (1 : Nat) + (1 : Nat)) else a ((0 : Nat) + (1 : Nat) + (1 : Nat) + (1 : Nat)) else if s % (2 : Int) = (1 : Int) then a ((0 : Nat) + (1 : Nat) + (1 : Nat) + (1 : Nat)) else b ((0 : Nat) + (1 : Nat) + (1 : Nat) + (1 : Nat)), if s % (2 : Int) = (1 : Int) then if s % (2 : Int) = (1 : Int) then b ((0 : Nat) + (1 : Nat) + (1 : Nat) + (1 : Nat) + (1 : Nat)) else a ((0 : Nat) + (1 : Nat) + (1 : Nat) + (1 : Nat) + (1 : Nat)) else if s % (2 : Int) = (1 : Int) then a ((0 : Nat) + (1 : Nat) + (1 : Nat) + (1 : Nat) + (1 : Nat)) else b ((0 : Nat) + (1 : Nat) + (1 : Nat) + (1 : Nat) + (1 : Nat))] = [b (0 : Nat), b ((0 : Nat) + (1 : Nat)), b ((0 : Nat) + (1 : Nat) + (1 : Nat)), b ((0 : Nat) + (1 : Nat) + (1 : Nat) + (1 : Nat)), b ((0 : Nat) + (1 : Nat) + (1 : Nat) + (1 : Nat) + (1 : Nat))])) = false, decide ([if s % (2 : Int) = (1 : Int) then if s % (2 : Int) = (1 : Int) then b (0 : Nat) else a (0 : Nat) else if s % (2 : Int) = (1 : Int) then a (0 : Nat) else b (0 : Nat), if s % (2 : Int) = (1 : Int) then if s % (2 : Int) = (1 : Int) then b ((0 : Nat) + (1 : Nat)) else a ((0 : Nat) + (1 : Nat)) else if s % (2 : Int) = (1 : Int) then a ((0 : Nat) + (1 : Nat)) else b ((0 : Nat) + (1 : Nat)), if s % (2 : Int) = (1 : Int) then if s % (2 : Int) = (1 : Int) then b ((0 : Nat) + (1 : Nat) + (1 : Nat)) else a ((0 : Nat) + (1 : Nat) + (1 : Nat)) else if s % (2 : Int) = (1 : Int) then a ((0 : Nat) + (1 : Nat) + (1 : Nat)) else b ((0 : Nat) + (1 : Nat) + (1 : Nat)), if s % (2 : Int) = (1 : Int) then if s % (2 : Int) = (1 : Int) then b ((0 : Nat) + (1 : Nat) + (1 : Nat) + (1 : Nat)) else a ((0 : Nat) + (1 : Nat) + (1 : Nat) + (1 : Nat)) else if s % (2 : Int) = (1 : Int) then a ((0 : Nat) + (1 : Nat) + (1 : Nat) + (1 : Nat)) else b ((0 : Nat) + (1 : Nat) + (1 : Nat) + (1 : Nat)), if s % (2 : Int) = (1 : Int) then if s % (2 : Int) = (1 : Int) then b ((0 : Nat) + (1 : Nat) + (1 : Nat) + (1 : Nat) + (1 : Nat)) else a ((0 : Nat) + (1 : Nat) + (1 : Nat) + (1 : Nat) + (1 : Nat)) else if s % (2 : Int) = (1 : Int) then a ((0 : Nat) + (1 : Nat) + (1 : Nat) + (1 : Nat) + (1 : Nat)) else b ((0 : Nat) + (1 : Nat) + (1 : Nat) + (1 : Nat) + (1 : Nat))] = [b (0 : Nat), b ((0 : Nat) + (1 : Nat)), b ((0 : Nat) + (1 : Nat) + (1 : Nat)), b ((0 : Nat) + (1 : Nat) + (1 : Nat) + (1 : Nat)), b ((0 : Nat) + (1 : Nat) + (1 : Nat) + (1 : Nat) + (1 : Nat))]) = true, decide ([if s % (2 : Int) = (1 : Int) then if s % (2 : Int) = (1 : Int) then a (0 : Nat) else b (0 : Nat) else if s % (2 : Int) = (1 : Int) then b (0 : Nat) else a (0 : Nat), if s % (2 : Int) = (1 : Int) then if s % (2 : Int) = (1 : Int) then a ((0 : Nat) + (1 : Nat)) else b ((0 : Nat) + (1 : Nat)) else if s % (2 : Int) = (1 : Int) then b ((0 : Nat) + (1 : Nat)) else a ((0 : Nat) + (1 : Nat)), if s % (2 : Int) = (1 : Int) then if s % (2 : Int) = (1 : Int) then a ((0 : Nat) + (1 : Nat) + (1 : Nat)) else b ((0 : Nat) + (1 : Nat) + (1 : Nat)) else if s % (2 : Int) = (1 : Int) then b ((0 : Nat) + (1 : Nat) + (1 : Nat)) else a ((0 : Nat) + (1 : Nat) + (1 : Nat)), if s % (2 : Int) = (1 : Int) then if s % (2 : Int) = (1 : Int) then a ((0 : Nat) + (1 : Nat) + (1 : Nat) + (1 : Nat)) else b ((0 : Nat) + (1 : Nat) + (1 : Nat) + (1 : Nat)) else if s % (2 : Int) = (1 : Int) then b ((0 : Nat) + (1 : Nat) + (1 : Nat) + (1 : Nat)) else a ((0 : Nat) + (1 : Nat) + (1 : Nat) + (1 : Nat)), if s % (2 : Int) = (1 : Int) then if s % (2 : Int) = (1 : Int) then a ((0 : Nat) + (1 : Nat) + (1 : Nat) + (1 : Nat) + (1 : Nat)) else b ((0 : Nat) + (1 : Nat) + (1 : Nat) + (1 : Nat) + (1 : Nat)) else if s % (2 : Int) = (1 : Int) then b ((0 : Nat) + (1 : Nat) + (1 : Nat) + (1 : Nat) + (1 : Nat)) else a ((0 : Nat) + (1 : Nat) + (1 : Nat) + (1 : Nat) + (1 : Nat))] = [a (0 : Nat), a ((0 : Nat) + (1 : Nat)), a ((0 : Nat) + (1 : Nat) + (1 : Nat)), a ((0 : Nat) + (1 : Nat) + (1 : Nat) + (1 : Nat)), a ((0 : Nat) + (1 : Nat) + (1 : Nat) + (1 : Nat) + (1 : Nat))]) = true]) := by kernel_rfl
theorem swaps_ok (s : Int) (a b : Nat → Int) : FnOk g2 5 (sargs s a b) [] { val := .bool true } := by
  refine FnOk.facts fun ⟨h0, _⟩ => ?_
  obtain ⟨m, rfl, hm⟩ := fits_u64 h0
  by_cases h : m % 2 = 1
  · have h2 : (m : Int) % 2 = 1 := by omega
    refine FnOk.pure g2_ok (swaps1 m a b) ?_
    simp [allC_cons, allC_nil, h, h2]
  · have h2 : ¬ (m : Int) % 2 = 1 := by omega
    have h3 : m % 2 = 0 := by omega
    refine FnOk.pure g2_ok (swaps0 m a b) ?_
    simp [allC_cons, allC_nil, h2, h3]
end Go.Proofs.Ytofcclenjblhkaa
