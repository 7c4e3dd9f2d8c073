/- Accounts of this seat's functions: lemmas, no statement of their own. No conditions. -/
import Derived.Test.YtjkenobomlbdcaaTFa
namespace Go.Proofs.Ytjkenobomlbdcaa
open Go Go.Vx
abbrev fT (x : Nat → Int) : List Int := listF 31 x 0 ++ [uxor (x 31) 128]
abbrev fPl (x : Nat → Int) : List Int := [uadd .u8 237 (urem (x 0) 19)] ++ List.replicate 31 255
abbrev fLo (x : Nat → Int) : List Int := kl (urem (x 0) 19)
abbrev foF (k u : Nat → Int) : Nat → Int := shF (atL (listF 32 k 0)) (atL (listF 32 u 0))
abbrev foE (k u : Nat → Int) : Prop := decide (shQ (listF 32 k 0) (fPl u) = shQ (listF 32 k 0) (fLo u)) = true
theorem fo_run1 (k u : Nat → Int) : runF gN 900 [.br false, .br false, .loop 8 foKeep 3 (.exit 0) (mkLoopN foG), .br true, .br false, .br true] 6 [.agg (b32 k), .agg (b32 u)] [] [] = some (.sbool true, [], [(!decide (shQ (listF 32 k 0) (fT u) = shQ (listF 32 k 0) (listF 32 u 0))) = false, decide (128 ≤ foF k u 31) = false, LoopGood gN 73 (.loop foBody) foKeep 3 (.exit 0) (mkLoopN foG), (1 : Int) = 1, moZ (atL (listF 32 (foF k u) 0)) (decide (foF k u 31 = 127)) 30 = true, decide (237 ≤ atL (listF 32 (foF k u) 0) 0) = false, foE k u]) :=
  run_parts (by kernel_rfl) (by kernel_rfl) (by kernel_rfl)
theorem fo_run0 (k u : Nat → Int) : runF gN 900 [.br false, .br false, .loop 8 foKeep 3 (.exit 0) (mkLoopN foG), .br false, .br true] 6 [.agg (b32 k), .agg (b32 u)] [] [] = some (.sbool true, [], [(!decide (shQ (listF 32 k 0) (fT u) = shQ (listF 32 k 0) (listF 32 u 0))) = false, decide (128 ≤ foF k u 31) = false, LoopGood gN 73 (.loop foBody) foKeep 3 (.exit 0) (mkLoopN foG), (1 : Int) = 1, moZ (atL (listF 32 (foF k u) 0)) (decide (foF k u 31 = 127)) 30 = false, foE k u]) :=
  run_parts (by kernel_rfl) (by kernel_rfl) (by kernel_rfl)
theorem xor128 : ∀ m, m < 256 → (m ^^^ 128) % 128 = m % 128 ∧ (m ^^^ 128) < 256 := by decide +kernel
theorem top_xor {v : Int} (h : Byte v) : uxor v 128 % 128 = v % 128 ∧ Byte (uxor v 128) := by
  obtain ⟨m, rfl⟩ := Int.eq_ofNat_of_zero_le h.1
  have e : uxor (m : Int) 128 = ((m ^^^ 128 : Nat) : Int) := rfl
  have := xor128 m (by have := h.2; omega)
  rw [e]
  exact ⟨by omega, by omega, by omega⟩
theorem le_top (f : Nat → Int) : leN 32 f 0 = leN 31 f 0 + 452312848583266388373324160190187140051835877600158453279131187530910662656 * f 31 := by
  have e := leN_add 31 1 f 0
  have s : leN 1 f (0 + 31) = f 31 := by simp [leN]
  rw [s] at e
  exact e
theorem le_same {f g : Nat → Int} : ∀ (n i : Nat), (∀ j, j < n → f (i + j) = g (i + j)) → leN n f i = leN n g i
  | 0, _, _ => rfl
  | n + 1, i, h => by
    have h0 := h 0 (by omega)
    rw [Nat.add_zero] at h0
    simp only [leN]
    have h1 := le_same (f := f) (g := g) n (i + 1) (fun j hj => by have := h (j + 1) (by omega); rw [show i + 1 + j = i + (j + 1) by omega]; exact this)
    rw [h0, h1]
theorem fT_at (x : Nat → Int) : atL (fT x) 31 = uxor (x 31) 128 := rfl
theorem fT_lo (x : Nat → Int) : ∀ j, j < 31 → atL (fT x) j = atL (listF 32 x 0) j := fun j hj => by
  rw [atL_listF (by omega)]
  have : atL (fT x) j = atL (listF 31 x 0) j := by
    show (listF 31 x 0 ++ [uxor (x 31) 128]).getD j 0 = (listF 31 x 0).getD j 0
    rw [List.getD_eq_getElem?_getD, List.getD_eq_getElem?_getD, List.getElem?_append_left (by rw [listF_length]; exact hj)]
  rw [this, atL_listF hj]
theorem fT_le {x : Nat → Int} (hb : ∀ i, i < 32 → Byte (atL (listF 32 x 0) i)) : (∀ i, i < 32 → Byte (atL (fT x) i)) ∧ leN 32 (atL (fT x)) 0 % (57896044618658097711785492504343953926634992332820282019728792003956564819968 : Int) = leN 32 (atL (listF 32 x 0)) 0 % (57896044618658097711785492504343953926634992332820282019728792003956564819968 : Int) := by
  have e31 : atL (listF 32 x 0) 31 = x 31 := atL_listF (by decide)
  have h31 := hb 31 (by decide)
  rw [e31] at h31
  obtain ⟨t1, t2⟩ := top_xor h31
  refine ⟨fun i hi => ?_, ?_⟩
  · by_cases h : i = 31
    · subst h; rw [fT_at]; exact t2
    · rw [fT_lo x i (by omega)]; exact hb i hi
  · rw [le_top, le_top (atL (listF 32 x 0)), fT_at, e31, le_same (f := atL (fT x)) (g := atL (listF 32 x 0)) 31 0 fun j hj => by rw [Nat.zero_add]; exact fT_lo x j hj]
    generalize leN 31 (atL (listF 32 x 0)) 0 = A
    generalize uxor (x 31) 128 = y at *
    generalize x 31 = z at *
    clear hb h31 t2 e31
    omega
theorem fPl_le (x : Nat → Int) {lo : Int} (h0 : 0 ≤ lo ∧ lo < 19) (h : uadd .u8 237 (urem (x 0) 19) = 237 + lo) : (∀ i, i < 32 → Byte (atL (fPl x) i)) ∧ leN 32 (atL (fPl x)) 0 % 57896044618658097711785492504343953926634992332820282019728792003956564819968 = Q + lo := by
  refine ⟨fun i hi => ?_, ?_⟩
  · refine getD_byte _ i fun y hy => ?_
    simp only [fPl, List.mem_cons, List.mem_append, List.mem_replicate, List.not_mem_nil, or_false] at hy
    rcases hy with rfl | ⟨_, rfl⟩
    · rw [h]; exact ⟨by omega, by omega⟩
    · exact ⟨by decide, by decide⟩
  · have e : leN 32 (atL (fPl x)) 0 = uadd .u8 237 (urem (x 0) 19) + 256 * leN 31 (atL (fPl x)) 1 := by kernel_rfl
    have e2 : leN 31 (atL (fPl x)) 1 = leN 31 (atL ([0] ++ List.replicate 31 255)) 1 := by kernel_rfl
    have e3 : leN 31 (atL ([0] ++ List.replicate 31 255)) 1 = 452312848583266388373324160190187140051835877600158453279131187530910662655 := by kernel_rfl
    rw [e, h, e2, e3]
    unfold Q
    omega
theorem moZ_all (s : Nat → Int) (b : Bool) : ∀ n, moZ s b n = true → b = true ∧ ∀ i, i < n → foV s i = true
  | 0, h => ⟨h, fun i hi => absurd hi (by omega)⟩
  | n + 1, h => by
    simp only [moZ, Bool.and_eq_true] at h
    obtain ⟨h1, h2⟩ := moZ_all s b n h.1
    refine ⟨h1, fun i hi => ?_⟩
    by_cases e : i = n
    · subst e; exact h.2
    · exact h2 i (by omega)
theorem most_lt {V : Int} (h0 : 0 ≤ V ∧ V < Q) (h31 : byteN V 31 = 127) (hi : ∀ i, i < 30 → byteN V (i + 1) = 255) : byteN V 0 < 237 := by
  have e := leN_byte 32 (N := V) 0
  have e1 : ((256 ^ 0 : Nat) : Int) = 1 := rfl
  have hQ : Q < ((256 ^ 32 : Nat) : Int) := by decide
  rw [e1, Int.ediv_one, Int.emod_eq_of_lt h0.1 (Int.lt_trans h0.2 hQ)] at e
  have e2 : leN 32 (byteN V) 0 = byteN V 0 + 256 * leN 31 (byteN V) 1 := rfl
  have e3 : leN 31 (byteN V) 1 = leN 31 (atL ([0] ++ List.replicate 30 255 ++ [127])) 1 := le_same 31 1 fun j hj => by
    by_cases hj2 : j = 30
    · subst hj2; exact h31
    · rw [show 1 + j = j + 1 by omega, hi j (by omega)]
      have : ∀ j, j < 30 → atL ([0] ++ List.replicate 30 255 ++ [127]) (j + 1) = 255 := by decide +kernel
      exact (this j (by omega)).symm
  have e4 : leN 31 (atL ([0] ++ List.replicate 30 255 ++ [127])) 1 = 226156424291633194186662080095093570025917938800079226639565593765455331327 := by kernel_rfl
  rw [e2, e3, e4] at e
  have := h0.2
  unfold Q at this
  omega
theorem forms_ok (k u : Nat → Int) (hu : ∀ (i : Nat) (q : IntKind), (List.replicate 32 IntKind.u8)[i]? = some q → Fits q (u i)) : FnOk gN 6 [.agg (b32 k), .agg (b32 u)] [] { val := .sbool true } := by
  have hb := dec_byte hu
  have A : Is (L5 (fdecN (listF 32 u 0))) (dV u) := is_dec hb
  obtain ⟨tb, te⟩ := fT_le hb
  have T := is_dec tb
  rw [te] at T
  have A' : Is (L5 (fdecN (listF 32 (atL (listF 32 u 0)) 0))) (dV u) := by
    rw [listF_eq0.2 (fun j hj => atL_listF (a := u) hj)]; exact A
  have l32 : ∀ l : List Int, l.length = 32 → listF 32 (atL l) 0 = l := fun l hl => by have := listF_atL l; rw [hl] at this; exact this
  have lT : (fT u).length = 32 := by unfold fT; rw [List.length_append, listF_length]; rfl
  have T' : Is (L5 (fdecN (listF 32 (atL (fT u)) 0))) (dV u) := by rw [l32 _ lT]; exact T
  have s0 := shF_V (k := atL (listF 32 k 0)) A'
  have s1 := shF_V (k := atL (listF 32 k 0)) T'
  have hV : InQ (shV (atL (listF 32 (shK (atL (listF 32 k 0))) 0)) (dV u)) := modQ _
  have hF : ∀ i, i < 32 → foF k u i = byteN (shV (atL (listF 32 (shK (atL (listF 32 k 0))) 0)) (dV u)) i := fun i hi => listF_eq0.1 s0 i hi
  have c1 : (!decide (shQ (listF 32 k 0) (fT u) = shQ (listF 32 k 0) (listF 32 u 0))) = false := by
    rw [decide_eq_true (show shQ (listF 32 k 0) (fT u) = shQ (listF 32 k 0) (listF 32 u 0) from s1.trans s0.symm)]; rfl
  generalize shV (atL (listF 32 (shK (atL (listF 32 k 0))) 0)) (dV u) = V at hV hF
  have c2 : decide (128 ≤ foF k u 31) = false := decide_eq_false (by
    rw [hF 31 (by decide)]
    have h2 := hV.2
    have h1 := hV.1
    show ¬ 128 ≤ V / ((256 ^ 31 : Nat) : Int) % 256
    have e : ((256 ^ 31 : Nat) : Int) = 452312848583266388373324160190187140051835877600158453279131187530910662656 := rfl
    rw [e]
    unfold Q at h2
    omega)
  have hx0 := hb 0 (by decide)
  rw [atL_listF (by decide)] at hx0
  have hlo : urem (u 0) 19 = u 0 % 19 := by
    obtain ⟨m, hm⟩ := Int.eq_ofNat_of_zero_le hx0.1
    rw [hm]
    show ((m % 19 : Nat) : Int) = (m : Int) % 19
    omega
  have lo0 : 0 ≤ u 0 % 19 ∧ u 0 % 19 < 19 := ⟨by omega, by omega⟩
  have hadd : uadd .u8 237 (urem (u 0) 19) = 237 + u 0 % 19 := by
    rw [hlo]
    obtain ⟨m, hm⟩ := Int.eq_ofNat_of_zero_le lo0.1
    rw [hm] at lo0 ⊢
    show (((237 + m) % 256 : Nat) : Int) = 237 + (m : Int)
    omega
  obtain ⟨pb, pe⟩ := fPl_le u lo0 hadd
  have P := is_dec pb
  rw [pe] at P
  have P1 : Is (L5 (fdecN (listF 32 (atL (fPl u)) 0))) (u 0 % 19) := by
    rw [l32 _ rfl]
    exact Is_of P (by rw [show Q + u 0 % 19 = u 0 % 19 + Q by omega, Int.add_emod_right])
  have P2 : Is (L5 (fdecN (listF 32 (atL (fLo u)) 0))) (u 0 % 19) := by
    rw [l32 _ rfl]
    unfold fLo
    rw [hlo]
    exact is_k ⟨lo0.1, by omega⟩
  have cE : foE k u := decide_eq_true ((shF_V (k := atL (listF 32 k 0)) P1).trans (shF_V (k := atL (listF 32 k 0)) P2).symm)
  have hL := fo_loop
  cases hm : moZ (atL (listF 32 (foF k u) 0)) (decide (foF k u 31 = 127)) 30 with
  | false =>
    refine FnOk.pure gN_ok (fo_run0 k u) ?_
    simp only [allC_cons, allC_nil, and_true]
    exact ⟨c1, c2, hL, trivial, hm, cE⟩
  | true =>
    refine FnOk.pure gN_ok (fo_run1 k u) ?_
    simp only [allC_cons, allC_nil, and_true]
    refine ⟨c1, c2, hL, trivial, hm, decide_eq_false ?_, cE⟩
    obtain ⟨m1, m2⟩ := moZ_all _ _ _ hm
    have h31 := of_decide_eq_true m1
    rw [hF 31 (by decide)] at h31
    have hi : ∀ i, i < 30 → byteN V (i + 1) = 255 := fun i hi => by
      have h := of_decide_eq_true (m2 i hi)
      rw [show ((i : Int) + 1).toNat = i + 1 by omega] at h
      have h3 : (listF 32 (atL (listF 32 (foF k u) 0)) 0).getD (i + 1) 0 = foF k u (i + 1) := (atL_listF (a := atL (listF 32 (foF k u) 0)) (by omega)).trans (atL_listF (by omega))
      rw [h3, hF _ (by omega)] at h
      exact h
    have := most_lt hV h31 hi
    rw [atL_listF (by decide), hF 0 (by decide)]
    omega
end Go.Proofs.Ytjkenobomlbdcaa
