/- Accounts of this seat's functions: lemmas, no statement of their own. No conditions. -/
import Derived.Test.YtibfkpgdpldjbaaTL
namespace Go.Proofs.Ytibfkpgdpldjbaa
open Go Go.Vx

theorem xl_D1 {off n : Nat} {w : List (List Int)} {l : List Int} {s : Nat → Int} (h1 : off + n ≤ l.length) (h2 : n ≤ 1000000000) (h3 : Fits .u32 (s 12)) (h4 : w.length + n ≤ 1000000000000) : AllC (D1 off n w l s) := by
  have ha : a1 n ≤ n := by unfold a1; omega
  have hx := xorF_len l off (a1 n) (sb s)
  have e : S1 n s 12 = bump s (4 * (n / 256)) 12 := atL_listF (by decide)
  have h5 : Fits .u32 (S1 n s 12) := by
    rw [e]
    unfold bump uadd
    rw [if_pos rfl, m32, Int.ofNat_eq_natCast]
    refine ⟨?_, ?_⟩
    · show (0 : Int) ≤ _; omega
    · show _ ≤ (4294967295 : Int); omega
  have hl1 := l1_loop
  have hl2 := l2_loop
  have he : (w ++ e1 (n / 256) ++ [[1, 0]]).length + (n - a1 n) < 1099511627500 := by simp [e1_len]; omega
  unfold D1
  rw [hx]
  (simp only [allC_cons, allC_nil, and_true]; repeat' (with_reducible (first | refine And.intro ?_ ?_ | exact True.intro | assumption | omega | exact decide_eq_true (by first | assumption | omega) | exact decide_eq_false (by first | assumption | omega) | rfl | (simp; done))))
theorem wl_len (n : Nat) (w : List (List Int)) : (wl n w).length ≤ w.length + n + n + 2 := by
  have h1 : 3 * ((n - a1 n) / 64) ≤ n := by unfold a1; omega
  have h2 : 3 * (n / 256) ≤ n := by omega
  unfold wl
  simp only [List.length_append, e1_len, e2_len, List.length_cons, List.length_nil]
  omega
theorem xl_ok {off n : Nat} {w : List (List Int)} {l : List Int} (k : Nat → Int) (c : Int) (m : Nat → Int) (h1 : off + n ≤ l.length) (h2 : n ≤ 1000000000) (h3 : Fits .u32 c) (h4 : w.length + n ≤ 1000000000000) :
    FnOk g3 10 [.ptr 0 0, .agg (k32 k), .int .u32 c, .agg (n12 m), .sl 1 0 off 1 0 n false] [.log w, .ints .u8 l] { val := .tuple [], upd := [(0, some (.log (w ++ evX n))), (1, some (.ints .u8 (xorF l off n (strm k c m))))] } := by
  have ha := a2_le n
  have F2 : Fits .i64 ((n : Int) - (a2 n : Nat)) := fits_of (by omega) (by omega)
  have F3 : Fits .i64 (n : Int) := fits_of (by omega) (by omega)
  have hc := xl_D1 (s := S0 k c m) h1 h2 (by rw [S0_12]; exact h3) h4
  have hwl := wl_len n w
  have q0 : (wl n w).length < 1099511627776 := by omega
  have ex : xorF l off n (sb (S0 k c m)) = xorF l off n (strm k c m) := xorF_congr fun j _ => S0_sb k c m j
  by_cases h : n - a2 n = 0
  · have hr := xl_run0 off n w l k c m
    have hd : decide ((0 : Int) < (n : Int) - (a2 n : Nat)) = false := decide_eq_false (by omega)
    have e0 : wl n w ++ oneIf ((0 : Int) < (n : Int) - (a2 n : Nat)) = w ++ evX n := by
      unfold oneIf evX
      rw [hd, if_pos h]
      simp [wl, List.append_assoc]
    rw [e0, L2_eq, show xorF l off (a2 n) (sb (S0 k c m)) = xorF l off n (strm k c m) by rw [show a2 n = n by omega]; exact ex] at hr
    refine FnOk.run g3_ok hr ?_ (by simp [upto]) rfl (by simp) (by simp) (fun j hj => by match j, hj with | 0, _ => rfl | 1, _ => rfl)
    rw [allC_append]
    refine ⟨hc, ?_⟩
    (simp only [allC_cons, allC_nil, and_true]; repeat' (with_reducible (first | refine And.intro ?_ ?_ | exact True.intro | assumption | omega | exact decide_eq_true (by first | assumption | omega) | exact decide_eq_false (by first | assumption | omega) | rfl | (simp; done))))
  · have hr := xl_run1 off n w l k c m
    have hd : decide ((0 : Int) < (n : Int) - (a2 n : Nat)) = true := decide_eq_true (by omega)
    have e1' : oneIf ((0 : Int) < (n : Int) - (a2 n : Nat)) = [[1, 1]] := by unfold oneIf; rw [if_pos hd]
    have e0 : wl n w ++ [[1, 1]] ++ [[2, ((a2 n : Nat) : Int)]] ++ [[3, 22]] = w ++ evX n := by
      unfold evX
      rw [if_neg h]
      simp [wl, List.append_assoc]
    have hx := xorF_len l off (a2 n) (sb (S0 k c m))
    have hX : (X3 off n (L2 off n l (S0 k c m))).length = n - a2 n := by rw [L2_eq]; unfold X3; simp [hx]; omega
    have hY : (Y3 (X3 off n (L2 off n l (S0 k c m))) (blk (S2 n (S0 k c m)))).length = 64 := by simp [Y3, listF_length]
    have hL : (L2 off n l (S0 k c m)).length = l.length := by rw [L2_eq]; exact hx
    have ht : ((X3 off n (L2 off n l (S0 k c m))).take 64).length ≤ 64 := by simp; omega
    have hy : ((Y3 (X3 off n (L2 off n l (S0 k c m))) (blk (S2 n (S0 k c m)))).take (n - a2 n)).length = n - a2 n := by rw [List.length_take, hY]; omega
    rw [e1', e0, tail_eq off n l _ h1, ex] at hr
    have q1 : (wl n w ++ [[1, 1]]).length < 1099511627776 := by rw [List.length_append]; show (wl n w).length + 1 < _; omega
    have q2 : (wl n w ++ [[1, 1]] ++ [[2, ((a2 n : Nat) : Int)]]).length < 1099511627776 := by rw [List.length_append, List.length_append]; show (wl n w).length + 1 + 1 < _; omega
    refine FnOk.run g3_ok hr ?_ (by simp [upto]) rfl (by simp) (by simp) (fun j hj => by match j, hj with | 0, _ => rfl | 1, _ => rfl)
    rw [allC_append]
    refine ⟨hc, ?_⟩
    rw [hX, hY, hL, hy]
    have F4 : Fits .i64 ((min (n - a2 n) 64 : Nat) : Int) := fits_of (by omega) (by omega)
    have F5 : Fits .i64 ((min 64 (n - a2 n) : Nat) : Int) := fits_of (by omega) (by omega)
    (simp only [allC_cons, allC_nil, and_true]; repeat' (with_reducible (first | refine And.intro ?_ ?_ | exact True.intro | assumption | omega | exact decide_eq_true (by first | assumption | omega) | exact decide_eq_false (by first | assumption | omega) | rfl | (simp; done))))
noncomputable def F10 : SumF := fun args B => match args, B with
  | [.raw (.pointer none), .agg ks, .int .u32 c, .agg ns, x], [.ints K l] => match sameK K .u8, numsAs (List.replicate 32 .u8) ks, numsAs (List.replicate 12 .u8) ns, vwI 0 l x with
    | true, some lk, some ln, some (off, n) => some { val := .tuple [], upd := [(0, some (.ints .u8 (xorF l off n (strm (atL lk) c (atL ln)))))], C := [off + n ≤ l.length, n ≤ 1000000000, Fits .u32 c] }
    | _, _, _, _ => none
  | [.ptr 0 0, .agg ks, .int .u32 c, .agg ns, x], [.log w, .ints K l] => match sameK K .u8, numsAs (List.replicate 32 .u8) ks, numsAs (List.replicate 12 .u8) ns, vwI 1 l x with
    | true, some lk, some ln, some (off, n) => some { val := .tuple [], upd := [(0, some (.log (w ++ evX n))), (1, some (.ints .u8 (xorF l off n (strm (atL lk) c (atL ln)))))], C := [off + n ≤ l.length, n ≤ 1000000000, Fits .u32 c, w.length + n ≤ 1000000000000] }
    | _, _, _, _ => none
  | _, _ => none
theorem acc10 : Acc g3 10 F10 := by
  intro args B out h hC
  unfold F10 at h
  split at h
  · rename_i ks c ns x K l
    split at h
    · rename_i lk ln off n hK hk hn hx
      obtain rfl := kidx_inj hK
      simp only [Option.some.injEq] at h; subst h
      simp only [allC_cons, allC_nil, and_true] at hC
      refine FnOk.argsH (args' := [.raw (.pointer none), .agg (k32 (atL lk)), .int .u32 c, .agg (n12 (atL ln)), .sl 0 0 off 1 0 n false]) (xn_ok _ c _ hC.1 (by omega) hC.2.2) fun w0 O ρ Φ w vs r d => ?_
      simp only [DenT] at d ⊢
      obtain ⟨v1, r1, rfl, d1, v2, r2, rfl, d2, v3, r3, rfl, d3, v4, r4, rfl, d4, v5, r5, rfl, d5, rfl⟩ := d
      exact ⟨_, _, rfl, d1, _, _, rfl, nums_imp hk _ _ _ _ d2, _, _, rfl, d3, _, _, rfl, nums_imp hn _ _ _ _ d4, _, _, rfl, vwI_den hx r rfl d5, rfl⟩
    · simp at h
  · rename_i ks c ns x w K l
    split at h
    · rename_i lk ln off n hK hk hn hx
      obtain rfl := kidx_inj hK
      simp only [Option.some.injEq] at h; subst h
      simp only [allC_cons, allC_nil, and_true] at hC
      refine FnOk.argsH (args' := [.ptr 0 0, .agg (k32 (atL lk)), .int .u32 c, .agg (n12 (atL ln)), .sl 1 0 off 1 0 n false]) (xl_ok _ c _ hC.1 hC.2.1 hC.2.2.1 hC.2.2.2) fun w0 O ρ Φ w vs r d => ?_
      simp only [DenT] at d ⊢
      obtain ⟨v1, r1, rfl, d1, v2, r2, rfl, d2, v3, r3, rfl, d3, v4, r4, rfl, d4, v5, r5, rfl, d5, rfl⟩ := d
      exact ⟨_, _, rfl, d1, _, _, rfl, nums_imp hk _ _ _ _ d2, _, _, rfl, d3, _, _, rfl, nums_imp hn _ _ _ _ d4, _, _, rfl, vwI_den hx r rfl d5, rfl⟩
    · simp at h
  · simp at h
noncomputable def F10c : SumF := fun args B => match args, B with
  | [.raw (.pointer none), .agg ks, .int .u32 c, .agg ns, .sl 0 _ off 1 0 n _], [.cells cs] => match numsAs (List.replicate cs.length .u8) cs, numsAs (List.replicate 32 .u8) ks, numsAs (List.replicate 12 .u8) ns with
    | some l, some lk, some ln => some { val := .tuple [], upd := [(0, some (.cells (svF (List.replicate (xorF l off n (strm (atL lk) c (atL ln))).length .u8) (atL (xorF l off n (strm (atL lk) c (atL ln)))) 0)))], C := [off + n ≤ l.length, n ≤ 1000000000, Fits .u32 c] }
    | _, _, _ => none
  | [.ptr 0 0, .agg ks, .int .u32 c, .agg ns, .sl 1 _ off 1 0 n _], [.log w, .cells cs] => match numsAs (List.replicate cs.length .u8) cs, numsAs (List.replicate 32 .u8) ks, numsAs (List.replicate 12 .u8) ns with
    | some l, some lk, some ln => some { val := .tuple [], upd := [(0, some (.log (w ++ evX n))), (1, some (.cells (svF (List.replicate (xorF l off n (strm (atL lk) c (atL ln))).length .u8) (atL (xorF l off n (strm (atL lk) c (atL ln)))) 0)))], C := [off + n ≤ l.length, n ≤ 1000000000, Fits .u32 c, w.length + n ≤ 1000000000000] }
    | _, _, _ => none
  | _, _ => none
theorem acc10c : Acc g3 10 F10c := by
  intro args B out h hC
  unfold F10c at h
  split at h
  · rename_i ks c ns m off n kn cs
    split at h
    · rename_i l lk ln hl hk hn
      simp only [Option.some.injEq] at h; subst h
      refine FnOk.asInts (i := 0) (out := { val := .tuple [], upd := [(0, some (.ints .u8 (xorF l off n (strm (atL lk) c (atL ln)))))], C := [off + n ≤ l.length, n ≤ 1000000000, Fits .u32 c] }) rfl hl (acc10 _ _ _ ?_ hC) rfl rfl rfl (fun j => ?_)
      · show F10 _ [.ints .u8 l] = _
        simp only [F10, hk, hn, vwI, show sameK IntKind.u8 IntKind.u8 = true from rfl, show (Nat.beq 0 0).and (Nat.beq 1 1) = true from rfl]
      · match j with
        | 0 => rfl
        | j + 1 => rfl
    · simp at h
  · rename_i ks c ns m off n kn w cs
    split at h
    · rename_i l lk ln hl hk hn
      simp only [Option.some.injEq] at h; subst h
      refine FnOk.asInts (i := 1) (out := { val := .tuple [], upd := [(0, some (.log (w ++ evX n))), (1, some (.ints .u8 (xorF l off n (strm (atL lk) c (atL ln)))))], C := [off + n ≤ l.length, n ≤ 1000000000, Fits .u32 c, w.length + n ≤ 1000000000000] }) rfl hl (acc10 _ _ _ ?_ hC) rfl rfl rfl (fun j => ?_)
      · show F10 _ [.log w, .ints .u8 l] = _
        simp only [F10, hk, hn, vwI, show sameK IntKind.u8 IntKind.u8 = true from rfl, show (Nat.beq 1 1).and (Nat.beq 1 1) = true from rfl]
      · match j with
        | 0 => rfl
        | 1 => rfl
        | j + 2 => rfl
    · simp at h
  · simp at h
/-- one account or else another -/
def orF (F G : SumF) : SumF := fun args B => match F args B with
  | some o => some o
  | none => G args B
theorem acc_or {g : Ctx} {f : FuncId} {F G : SumF} (hF : Acc g f F) (hG : Acc g f G) : Acc g f (orF F G) := by
  intro args B out h hC
  unfold orF at h
  split at h
  · rename_i o e
    simp only [Option.some.injEq] at h; subst h
    exact hF _ _ _ e hC
  · exact hG _ _ _ h hC
theorem acc10o : Acc g3 10 (orF F10 F10c) := acc_or acc10 acc10c
/-! ### Block -/
theorem bk_run0 (k : Nat → Int) (c : Int) (m : Nat → Int) : runF g3 100 [] 14 [.raw (.pointer none), .agg (k32 k), .int .u32 c, .agg (n12 m)] [] [] = some (.agg (b64 (blk (S0 k c m))), [], []) := by kernel_rfl
theorem bk_run1 (w : List (List Int)) (k : Nat → Int) (c : Int) (m : Nat → Int) : runF g3 100 [] 14 [.ptr 0 0, .agg (k32 k), .int .u32 c, .agg (n12 m)] [.log w] [] = some (.agg (b64 (blk (S0 k c m))), [some (.log (w ++ [[3, 22]]))], [w.length < 1099511627776]) := by kernel_rfl
theorem S0_blk (k : Nat → Int) (c : Int) (m : Nat → Int) : b64 (blk (S0 k c m)) = b64 (blk (stt k c m)) := by
  have e : ∀ j, j < 64 → blk (S0 k c m) j = blk (stt k c m) j := fun j hj => blk_congr (fun i hi => by unfold S0; rw [atL_listF hi, stt_congr c (fun i h => atL_listF h) (fun i h => atL_listF h)]) hj
  apply List.ext_getElem?
  intro j
  rw [svF_get, svF_get]
  by_cases hj : j < 64
  · rw [Nat.zero_add, e j hj]
  · rw [List.getElem?_eq_none (by simp; omega)]; rfl
noncomputable def F14 : SumF := fun args B => match args, B with
  | [.raw (.pointer none), .agg ks, .int .u32 c, .agg ns], [] => match numsAs (List.replicate 32 .u8) ks, numsAs (List.replicate 12 .u8) ns with
    | some lk, some ln => some { val := .agg (b64 (blk (stt (atL lk) c (atL ln)))) }
    | _, _ => none
  | [.ptr 0 0, .agg ks, .int .u32 c, .agg ns], [.log w] => match numsAs (List.replicate 32 .u8) ks, numsAs (List.replicate 12 .u8) ns with
    | some lk, some ln => some { val := .agg (b64 (blk (stt (atL lk) c (atL ln)))), upd := [(0, some (.log (w ++ [[3, 22]])))], C := [w.length < 1099511627776] }
    | _, _ => none
  | _, _ => none
theorem acc14 : Acc g3 14 F14 := by
  intro args B out h hC
  unfold F14 at h
  split at h
  · rename_i ks c ns
    split at h
    · rename_i lk ln hk hn
      simp only [Option.some.injEq] at h; subst h
      refine FnOk.imp (args' := [.raw (.pointer none), .agg (k32 (atL lk)), .int .u32 c, .agg (n12 (atL ln))]) ?_ ⟨DenImp.refl _, nums_imp hk, DenImp.refl _, nums_imp hn, trivial⟩
      rw [← S0_blk]
      exact FnOk.pure g3_ok (bk_run0 _ _ _) (by simp [AllC])
    · simp at h
  · rename_i ks c ns w
    split at h
    · rename_i lk ln hk hn
      simp only [Option.some.injEq] at h; subst h
      have hw : w.length < 1099511627776 := hC _ (by simp)
      refine FnOk.imp (args' := [.ptr 0 0, .agg (k32 (atL lk)), .int .u32 c, .agg (n12 (atL ln))]) ?_ ⟨DenImp.refl _, nums_imp hk, DenImp.refl _, nums_imp hn, trivial⟩
      rw [← S0_blk]
      exact FnOk.run g3_ok (bk_run1 w _ _ _) (by (simp only [allC_cons, allC_nil, and_true]; repeat' (with_reducible (first | refine And.intro ?_ ?_ | exact True.intro | assumption | omega | exact decide_eq_true (by first | assumption | omega) | exact decide_eq_false (by first | assumption | omega) | rfl | (simp; done))))) (by simp [upto]) rfl (by simp) (by simp) (fun j hj => by match j, hj with | 0, _ => rfl)
    · simp at h
  · simp at h
/-- .. the other one an array's beginning -/
def F11c : SumF := fun args B => match args, B with
  | [x, .sl 1 _ ob 1 0 nb _], [.ints K la, .cells cs] => match sameK K .u8, numsAs (List.replicate cs.length .u8) cs, vwI 0 la x with
    | true, some lb, some (oa, na) => some { val := .sbool true, upd := [(1, some (.cells (svF (List.replicate lb.length .u8) (atL lb) 0)))], C := [oa + na ≤ la.length, ob + nb ≤ lb.length, na ≤ 140737488355328, subI la oa na = subI lb ob nb] }
    | _, _, _ => none
  | _, _ => none
theorem acc11c : Acc g3 11 F11c := by
  intro args B out h hC
  unfold F11c at h
  split at h
  · rename_i x m ob nb kn K la cs
    split at h
    · rename_i lb oa na hK hl hx
      obtain rfl := kidx_inj hK
      simp only [Option.some.injEq] at h; subst h
      refine FnOk.asInts (i := 1) (out := { val := .sbool true, C := [oa + na ≤ la.length, ob + nb ≤ lb.length, na ≤ 140737488355328, subI la oa na = subI lb ob nb] }) rfl hl (acc11 _ _ _ ?_ hC) rfl rfl rfl (fun j => ?_)
      · show F11 [x, .sl 1 m ob 1 0 nb kn] [.ints .u8 la, .ints .u8 lb] = _
        simp only [F11, hx, show vwI 1 lb (.sl 1 m ob 1 0 nb kn) = some (ob, nb) from rfl, show sameK IntKind.u8 IntKind.u8 = true from rfl]
      · match j with
        | 0 => rfl
        | 1 => rfl
        | j + 2 => rfl
    · simp at h
  · simp at h
theorem acc11o : Acc g3 11 (orF F11 F11c) := acc_or acc11 acc11c
noncomputable abbrev g4 : Ctx := g3.add [(9, F9), (10, orF F10 F10c), (11, orF F11 F11c), (12, F12), (14, F14)]
theorem g4_ok : CtxU g4 := g3_ok.add mixed noGo (by
  intro x hx
  simp only [List.mem_cons, List.not_mem_nil, or_false] at hx
  rcases hx with rfl | rfl | rfl | rfl | rfl
  · exact acc9
  · exact acc10o
  · exact acc11o
  · exact acc12
  · exact acc14)
end Go.Proofs.Ytibfkpgdpldjbaa
