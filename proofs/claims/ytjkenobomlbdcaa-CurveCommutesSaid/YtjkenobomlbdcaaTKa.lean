/- Accounts of this seat's functions: lemmas, no statement of their own. No conditions. -/
import Derived.Test.YtjkenobomlbdcaaTN
import Derived.Test.YtjkenobomlbdcaaV4
namespace Go.Proofs.Ytjkenobomlbdcaa
open Go Go.Vx
/-! ### CurveAgrees, CurveCommutes -/
abbrev cL (L : Lz) : L4 Qn := ⟨cF L.a, cF L.b, cF L.c, cF L.d⟩
theorem cF_mm (a b : Int) : cF (mm a b) = cF a * cF b := by unfold mm; rw [cF_mod, cF_mul]
theorem cF_zA (a b : Int) : cF (zA a b) = cF a + cF b := by unfold zA; rw [cF_mod, cF_add]
theorem cF_zS (a b : Int) : cF (zS a b) = cF a - cF b := by unfold zS; rw [cF_mod, cF_sub]
theorem cL_step (x : Int) (L : Lz) : cL (lzStep x L) = stF (cF 121665) (cF x) (cL L) := by
  simp only [lzStep, stF, cL, cF_mm, cF_zA, cF_zS]
theorem cF_inv (b : Int) : cF (invM b) = iv (cF b) := by
  rw [← iv_cF]
  exact cF_eq.2 (invM_eq b).symm
def bN (k : Nat → Int) : Nat → Nat
  | 0 => 0
  | i + 1 => if kBit k i = 1 then 2 * bN k i + 1 else 2 * bN k i
theorem eZ_rep {k : Nat → Int} {x : Int} {K : Lk Qn} {P : Pt K.E} (hk : K.k = cF 121665) (hP : Rep K P (cF x) 1) (hx : cF x ≠ 0) : ∀ i, RepL K P (bN k i) (cL (eZ k x i))
  | 0 => by
    have := repL_start hP
    show RepL K P 0 ⟨cF 1, cF 0, cF x, cF 1⟩
    rw [cF_1, cF_0]
    exact this
  | i + 1 => by
    have ih := eZ_rep (k := k) hk hP hx i
    show RepL K P (bN k (i + 1)) (cL (lzSw (kBit k i) (lzStep x (lzSw (kBit k i) (eZ k x i)))))
    unfold bN
    rcases kBit_01 k i with h | h
    · rw [h, if_neg (by decide)]
      simp only [lzSw, show ¬ (0 : Int) % 2 = 1 by decide, if_false]
      rw [cL_step, ← hk]
      exact repL_0 ih hP hx
    · rw [h, if_pos rfl]
      simp only [lzSw, show (1 : Int) % 2 = 1 by decide, if_true]
      have := repL_1 ih hP hx
      rw [hk] at this
      have e := cL_step x ⟨(eZ k x i).c, (eZ k x i).d, (eZ k x i).a, (eZ k x i).b⟩
      have e2 : (cL (eZ k x i)).sw = cL ⟨(eZ k x i).c, (eZ k x i).d, (eZ k x i).a, (eZ k x i).b⟩ := rfl
      rw [e2, ← e] at this
      exact this
theorem shV_ld {k : Nat → Int} (h : kBit k 254 = 0) : IsLd (cF 121665) (fun x => cF (shV k (x.val : Int))) (2 * bN k 254) := by
  refine ⟨?_, fun u hu K P hk hP => ?_⟩
  · have z : ((0 : Fin Qn).val : Int) = 0 := by rw [← cF_0, cF_val]; rfl
    show cF (shV k ((0 : Fin Qn).val : Int)) = 0
    rw [z, shV_0 h, cF_0]
  · rw [← cF_back u] at hP hu
    have h1 := (eZ_rep (k := k) hk hP hu 255).1
    have e : bN k 255 = 2 * bN k 254 := by
      show (if kBit k 254 = 1 then 2 * bN k 254 + 1 else 2 * bN k 254) = _
      rw [h, if_neg (by decide)]
    rw [e] at h1
    refine ⟨_, _, h1, ?_⟩
    show cF (mm (zEnd k (u.val : Int)).a (invM (zEnd k (u.val : Int)).b)) = cF (eZ k (u.val : Int) 255).a * iv (cF (eZ k (u.val : Int) 255).b)
    rw [zEnd_eq, cF_mm, cF_inv]
theorem shV_in (k : Nat → Int) (x : Int) : 0 ≤ shV k x ∧ shV k x < Q := ⟨Int.emod_nonneg _ (by decide), Int.emod_lt_of_pos _ (by decide)⟩
theorem shV_comm {k j : Nat → Int} (hk : kBit k 254 = 0) (hj : kBit j 254 = 0) {x : Int} (h0 : 0 ≤ x) (h1 : x < Q) : shV k (shV j x) = shV j (shV k x) := by
  have h := ld_comm (fk_point fkQ) (shV_ld hk) (shV_ld hj) (cF x)
  have a1 := shV_in j x
  have a2 := shV_in k x
  simp only [val_cF h0 h1, val_cF a1.1 a1.2, val_cF a2.1 a2.2] at h
  have b1 := shV_in k (shV j x)
  have b2 := shV_in j (shV k x)
  have := cF_eq.1 h
  rw [Int.emod_eq_of_lt b1.1 b1.2, Int.emod_eq_of_lt b2.1 b2.2] at this
  exact this
theorem is_byteN {v : Int} (h0 : 0 ≤ v) (h1 : v < Q) : Is (L5 (fdecN (listF 32 (byteN v) 0))) v := by
  have hb : ∀ i, i < 32 → Byte (atL (listF 32 (byteN v) 0) i) := fun i hi => by
    rw [atL_listF hi]
    unfold byteN
    exact ⟨by omega, by omega⟩
  have := is_dec hb
  have e : leN 32 (atL (listF 32 (byteN v) 0)) 0 % 57896044618658097711785492504343953926634992332820282019728792003956564819968 = v := by
    show leN 32 (byteN v) 0 % _ = v
    rw [leN_byte]
    have hQ : Q = 57896044618658097711785492504343953926634992332820282019728792003956564819949 := rfl
    rw [hQ] at h1
    have e0 : ((256 ^ 0 : Nat) : Int) = 1 := rfl
    have e32 : ((256 ^ 32 : Nat) : Int) = 115792089237316195423570985008687907853269984665640564039457584007913129639936 := rfl
    rw [e0, e32, Int.ediv_one]
    omega
  rw [e] at this
  exact this
theorem sh_two {a b : Nat → Int} {l : List Int} {n : Int} (hl : listF 32 (atL l) 0 = l) (hn : Is (L5 (fdecN l)) n) (hn0 : 0 ≤ n) (hn1 : n < Q)
    (ha : kBit (cK a) 254 = 0) (hb : kBit (cK b) 254 = 0) : shW a (shW b l) = shW b (shW a l) := by
  have one : ∀ k : Nat → Int, shW k l = listF 32 (byteN (shV (cK k) n)) 0 := fun k => shF_V (k := atL (listF 32 k 0)) (u := atL l) (by rw [hl]; exact hn)
  have two : ∀ k j : Nat → Int, shW k (shW j l) = listF 32 (byteN (shV (cK k) (shV (cK j) n))) 0 := fun k j => by
    rw [one j]
    have hv := shV_in (cK j) n
    exact shF_V (k := atL (listF 32 k 0)) (u := atL (listF 32 (byteN (shV (cK j) n)) 0)) (is_byteN hv.1 hv.2)
  rw [two, two, shV_comm ha hb hn0 hn1]
theorem pu_run (k : Nat → Int) : runF gN 900 [] 15 [.raw (.pointer none), .agg (b32 k)] [] [] = some (.agg (b32 (shF (atL (listF 32 k 0)) (atL (kl 9)))), [], []) :=
  run_parts (by kernel_rfl) (by kernel_rfl) (by kernel_rfl)
noncomputable def F15 : SumF := fun args B => match args, B with
  | [.raw (.pointer none), .agg ks], [] => match numsAs (List.replicate 32 .u8) ks with
    | some lk => some { val := .agg (b32 (shF (atL (listF 32 (atL lk) 0)) (atL (kl 9)))) }
    | none => none
  | _, _ => none
theorem acc15 : Acc gN 15 F15 := by
  intro args B out h _
  unfold F15 at h
  split at h
  · split at h
    · rename_i lk hk
      simp only [Option.some.injEq] at h; subst h
      exact FnOk.imp (FnOk.pure gN_ok (pu_run (atL lk)) (by simp [AllC])) ⟨DenImp.refl _, nums_imp hk, trivial⟩
    · simp at h
  · simp at h
noncomputable abbrev gNa : Ctx := gN.add [(15, F15)]
theorem gNa_ok : CtxU gNa := gN_ok.add mixed noGo (by
  intro x hx
  simp only [List.mem_cons, List.not_mem_nil, or_false] at hx
  rcases hx with rfl
  exact acc15)
theorem ag_run (a b : Nat → Int) : runF gNa 900 [.br true] 4 [.agg (b32 a), .agg (b32 b)] [] [] =
    some (.sbool true, [], [decide (shW a (shW b (kl 9)) = shW b (shW a (kl 9))) = true]) :=
  run_parts (by kernel_rfl) (by kernel_rfl) (by kernel_rfl)
theorem co_run (a b u : Nat → Int) : runF gN 900 [.br true] 5 [.agg (b32 a), .agg (b32 b), .agg (b32 u)] [] [] =
    some (.sbool true, [], [decide (shW a (shW b (listF 32 u 0)) = shW b (shW a (listF 32 u 0))) = true]) :=
  run_parts (by kernel_rfl) (by kernel_rfl) (by kernel_rfl)
abbrev U32 (k : Nat → Int) : Prop := ∀ (i : Nat) (q : IntKind), (List.replicate 32 IntKind.u8)[i]? = some q → Fits q (k i)
theorem agrees_ok (a b : Nat → Int) (ha : U32 a) (hb : U32 b) : FnOk gNa 4 [.agg (b32 a), .agg (b32 b)] [] { val := .sbool true } := by
  refine FnOk.pure gNa_ok (ag_run a b) ?_
  simp only [allC_cons, allC_nil, and_true]
  exact decide_eq_true (sh_two (l := kl 9) rfl (is_k (m := 9) (by decide)) (by decide) (by decide) (cK_bits (dec_byte ha)).1 (cK_bits (dec_byte hb)).1)
theorem commutes_ok (a b u : Nat → Int) (ha : U32 a) (hb : U32 b) (hu : U32 u) : FnOk gN 5 [.agg (b32 a), .agg (b32 b), .agg (b32 u)] [] { val := .sbool true } := by
  refine FnOk.pure gN_ok (co_run a b u) ?_
  simp only [allC_cons, allC_nil, and_true]
  have hd := Is_mod (is_dec (l := listF 32 u 0) (dec_byte hu))
  exact decide_eq_true (sh_two (l := listF 32 u 0) rfl hd (Int.emod_nonneg _ (by decide)) (Int.emod_lt_of_pos _ (by decide)) (cK_bits (dec_byte ha)).1 (cK_bits (dec_byte hb)).1)
end Go.Proofs.Ytjkenobomlbdcaa
