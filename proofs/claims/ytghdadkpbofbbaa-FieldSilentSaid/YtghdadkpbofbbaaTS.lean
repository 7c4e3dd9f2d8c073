/- Accounts of this seat's functions: lemmas, no statement of their own. No conditions. -/
import Derived.Test.YtghdadkpbofbbaaTRd
namespace Go.Proofs.Ytghdadkpbofbbaa
open Go Go.Vx
/-! ### FieldDecodes -/
abbrev fM (b : List Int) : Int := leN 32 (atL b) 0 % E255 % Q
abbrev fWf (b : List Int) : Nat → Int := byteN (hxL (L16 (dgN (fM b))))
abbrev fW (b : List Int) : List Int := listF 32 (fWf b) 0
abbrev fT (x : Nat → Int) : List Int := listF 31 x 0 ++ [uxor (x 31) 128]
abbrev fP (x : Nat → Int) : List Int := [uadd .u8 237 (urem (x 0) 19)] ++ List.replicate 30 255 ++ [127]
abbrev fK (x : Nat → Int) : List Int := [urem (x 0) 19] ++ List.replicate 31 0
abbrev nE (a : List Int) (w : List Int) : Prop := (!decide (BS a = w)) = false
abbrev fdC (x : Nat → Int) : List Prop := [DG (atL (L16 (dgN (fM (listF 32 x 0))))), decide (128 ≤ fWf (listF 32 x 0) 31) = false, nE (L5 (fdecN (fW (listF 32 x 0)))) (fW (listF 32 x 0)), nE (L5 (fdecN (fT x))) (fW (listF 32 x 0)), nE (dE x) (fW (listF 32 x 0)), nE (dE x) (fW (listF 32 x 0)), decide (BS (L5 (fdecN (fP x))) = fK x) = true]
theorem fd_run (x : Nat → Int) : runF gRc 3000 [.br false, .br false, .br false, .br false, .br false, .br true] 4 [.agg (b32 x)] [] [] = some (.sbool true, [], fdC x) :=
  run_parts (by kernel_rfl) (by kernel_rfl) (by kernel_rfl)
theorem kl_bytes {m : Int} (h : 0 ≤ m ∧ m < 256) : listF 32 (byteN m) 0 = kl m := by
  have hb := kl_byte h
  have e : ∀ i, i < 32 → byteN m i = atL (kl m) i := fun i hi => by
    have := byte_leN 32 (f := atL (kl m)) 0 (fun j hj => by rw [Nat.zero_add]; exact hb j hj) i hi
    rw [kl_le h, Nat.zero_add] at this
    exact this
  have e2 : listF 32 (byteN m) 0 = listF 32 (atL (kl m)) 0 := listF_eq0.2 e
  rw [e2]; rfl
theorem xor128 : ∀ m, m < 256 → (m ^^^ 128) % 128 = m % 128 ∧ (m ^^^ 128) < 256 := by decide +kernel
theorem top_xor {v : Int} (h : Byte v) : uxor v 128 % 128 = v % 128 ∧ Byte (uxor v 128) := by
  obtain ⟨m, rfl⟩ := Int.eq_ofNat_of_zero_le h.1
  have e : uxor (m : Int) 128 = ((m ^^^ 128 : Nat) : Int) := rfl
  have := xor128 m (by have := h.2; omega)
  rw [e]
  exact ⟨by omega, by omega, by omega⟩
theorem le_top (f : Nat → Int) : leN 32 f 0 = leN 31 f 0 + 452312848583266388373324160190187140051835877600158453279131187530910662656 * f 31 := by
  have e := leN_add 31 1 f 0
  have s : leN 1 f (0 + 31) = f 31 := by simp [leN]
  rw [s] at e
  exact e
theorem le_same {f g : Nat → Int} : ∀ (n i : Nat), (∀ j, j < n → f (i + j) = g (i + j)) → leN n f i = leN n g i
  | 0, _, _ => rfl
  | n + 1, i, h => by
    have h0 := h 0 (by omega)
    rw [Nat.add_zero] at h0
    simp only [leN]
    have h1 := le_same (f := f) (g := g) n (i + 1) (fun j hj => by have := h (j + 1) (by omega); rw [show i + 1 + j = i + (j + 1) by omega]; exact this)
    rw [h0, h1]
theorem fT_at (x : Nat → Int) : atL (fT x) 31 = uxor (x 31) 128 := rfl
theorem fT_lo (x : Nat → Int) : ∀ j, j < 31 → atL (fT x) j = atL (listF 32 x 0) j := fun j hj => by
  rw [atL_listF (by omega)]
  have : atL (fT x) j = atL (listF 31 x 0) j := by
    show (listF 31 x 0 ++ [uxor (x 31) 128]).getD j 0 = (listF 31 x 0).getD j 0
    rw [List.getD_eq_getElem?_getD, List.getD_eq_getElem?_getD, List.getElem?_append_left (by rw [listF_length]; exact hj)]
  rw [this, atL_listF hj]
theorem fT_le {x : Nat → Int} (hb : ∀ i, i < 32 → Byte (atL (listF 32 x 0) i)) : (∀ i, i < 32 → Byte (atL (fT x) i)) ∧ leN 32 (atL (fT x)) 0 % E255 = leN 32 (atL (listF 32 x 0)) 0 % E255 := by
  have e31 : atL (listF 32 x 0) 31 = x 31 := atL_listF (by decide)
  have h31 := hb 31 (by decide)
  rw [e31] at h31
  obtain ⟨t1, t2⟩ := top_xor h31
  refine ⟨fun i hi => ?_, ?_⟩
  · by_cases h : i = 31
    · subst h; rw [fT_at]; exact t2
    · rw [fT_lo x i (by omega)]; exact hb i hi
  · rw [le_top, le_top (atL (listF 32 x 0)), fT_at, e31, le_same (f := atL (fT x)) (g := atL (listF 32 x 0)) 31 0 fun j hj => by rw [Nat.zero_add]; exact fT_lo x j hj]
    generalize leN 31 (atL (listF 32 x 0)) 0 = A
    generalize uxor (x 31) 128 = y at *
    generalize x 31 = z at *
    clear hb h31 t2 e31
    simp only [E255]
    omega
theorem fP_le (x : Nat → Int) {lo : Int} (h0 : 0 ≤ lo ∧ lo < 19) (h : uadd .u8 237 (urem (x 0) 19) = 237 + lo) : (∀ i, i < 32 → Byte (atL (fP x) i)) ∧ leN 32 (atL (fP x)) 0 = Q + lo := by
  refine ⟨fun i hi => ?_, ?_⟩
  · refine getD_byte _ i fun y hy => ?_
    simp only [fP, List.mem_cons, List.mem_append, List.mem_replicate, List.not_mem_nil, or_false] at hy
    rcases hy with (rfl | ⟨_, rfl⟩) | rfl
    · rw [h]; exact ⟨by omega, by omega⟩
    · exact ⟨by decide, by decide⟩
    · exact ⟨by decide, by decide⟩
  · have e : leN 32 (atL (fP x)) 0 = uadd .u8 237 (urem (x 0) 19) + 256 * leN 31 (atL (fP x)) 1 := by kernel_rfl
    have e2 : leN 31 (atL (fP x)) 1 = leN 31 (atL ([0] ++ List.replicate 30 255 ++ [127])) 1 := by kernel_rfl
    have e3 : leN 31 (atL ([0] ++ List.replicate 30 255 ++ [127])) 1 = 226156424291633194186662080095093570025917938800079226639565593765455331327 := by kernel_rfl
    rw [e, h, e2, e3]
    unfold Q
    omega
theorem decodes_ok (x : Nat → Int) (hx : ∀ (i : Nat) (q : IntKind), (List.replicate 32 IntKind.u8)[i]? = some q → Fits q (x i)) : FnOk gRc 4 [.agg (b32 x)] [] { val := .sbool true } := by
  have hb := dec_byte hx
  refine FnOk.pure gRc_ok (fd_run x) ?_
  have A : Is (dE x) (dV x) := is_dec hb
  obtain ⟨tb, te⟩ := fT_le hb
  have T := is_dec tb
  have e255 : E255 = 57896044618658097711785492504343953926634992332820282019728792003956564819968 := rfl
  rw [← e255, te] at T
  have hM : 0 ≤ fM (listF 32 x 0) ∧ fM (listF 32 x 0) < Q := ⟨Int.emod_nonneg _ (by decide), Int.emod_lt_of_pos _ (by decide)⟩
  have hw : fWf (listF 32 x 0) = byteN (fM (listF 32 x 0)) := by
    unfold fWf
    rw [hxL_dg, Int.emod_eq_of_lt hM.1 (Int.lt_trans hM.2 (by decide))]
  have hW : fW (listF 32 x 0) = listF 32 (byteN (fM (listF 32 x 0))) 0 := by unfold fW; rw [hw]
  have eA : BS (dE x) = fW (listF 32 x 0) := by rw [bytes_eq A, hW]
  have eT : BS (L5 (fdecN (fT x))) = fW (listF 32 x 0) := by rw [bytes_eq T, hW]
  have wb : ∀ i, i < 32 → Byte (atL (fW (listF 32 x 0)) i) := fun i hi => by
    rw [hW, atL_listF hi]
    exact ⟨Int.emod_nonneg _ (by decide), Int.emod_lt_of_pos _ (by decide)⟩
  have W := is_dec wb
  have le32 : leN 32 (atL (fW (listF 32 x 0))) 0 = fM (listF 32 x 0) := by
    rw [hW, le_same (f := atL (listF 32 (byteN (fM (listF 32 x 0))) 0)) (g := byteN (fM (listF 32 x 0))) 32 0 fun j hj => by rw [Nat.zero_add]; exact atL_listF hj, leN_byte]
    have e1 : ((256 ^ 0 : Nat) : Int) = 1 := rfl
    rw [e1, Int.ediv_one, Int.emod_eq_of_lt hM.1 (Int.lt_trans hM.2 (by decide))]
  rw [le32, Int.emod_eq_of_lt hM.1 (Int.lt_trans hM.2 (by decide))] at W
  have eW : BS (L5 (fdecN (fW (listF 32 x 0)))) = fW (listF 32 x 0) := by rw [bytes_eq W, Int.emod_eq_of_lt hM.1 hM.2]; exact hW.symm
  have h31 : fWf (listF 32 x 0) 31 < 128 := by
    rw [hw]
    have h1 := hM.1
    have h2 := hM.2
    generalize fM (listF 32 x 0) = M at *
    show M / ((256 ^ 31 : Nat) : Int) % 256 < 128
    have e : ((256 ^ 31 : Nat) : Int) = 452312848583266388373324160190187140051835877600158453279131187530910662656 := rfl
    rw [e]
    unfold Q at h2
    omega
  have hx0 := hb 0 (by decide)
  rw [atL_listF (by decide)] at hx0
  have hlo : urem (x 0) 19 = x 0 % 19 := by
    obtain ⟨m, hm⟩ := Int.eq_ofNat_of_zero_le hx0.1
    rw [hm]
    show ((m % 19 : Nat) : Int) = (m : Int) % 19
    omega
  have lo0 : 0 ≤ x 0 % 19 ∧ x 0 % 19 < 19 := ⟨by omega, by omega⟩
  have hadd : uadd .u8 237 (urem (x 0) 19) = 237 + x 0 % 19 := by
    rw [hlo]
    obtain ⟨m, hm⟩ := Int.eq_ofNat_of_zero_le lo0.1
    rw [hm] at lo0 ⊢
    show (((237 + m) % 256 : Nat) : Int) = 237 + (m : Int)
    omega
  obtain ⟨pb, pe⟩ := fP_le x lo0 hadd
  have P := is_dec pb
  rw [pe] at P
  have eP : BS (L5 (fdecN (fP x))) = fK x := by
    have e : (Q + x 0 % 19) % 57896044618658097711785492504343953926634992332820282019728792003956564819968 % Q = x 0 % 19 := by
      unfold Q; omega
    have e2 : fK x = kl (x 0 % 19) := by unfold fK; rw [hlo]; rfl
    rw [bytes_eq P, e, kl_bytes ⟨lo0.1, by omega⟩, e2]
  simp only [fdC, allC_cons, allC_nil, and_true]
  have no : ∀ {a w : List Int}, BS a = w → nE a w := fun h => by unfold nE; rw [h]; simp
  exact ⟨DG_dg _, decide_eq_false (by omega), no eW, no eT, no eA, no eA, decide_eq_true eP⟩
end Go.Proofs.Ytghdadkpbofbbaa
