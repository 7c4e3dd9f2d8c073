/- Accounts of this seat's functions: lemmas, no statement of their own. No conditions. -/
import Derived.Test.YtjkenobomlbdcaaTM
namespace Go.Proofs.Ytjkenobomlbdcaa
open Go Go.Vx
theorem dec_byte {x : Nat → Int} (h : ∀ (i : Nat) (q : IntKind), (List.replicate 32 IntKind.u8)[i]? = some q → Fits q (x i)) : ∀ i, i < 32 → Byte (atL (listF 32 x 0) i) := fun i hi => by
  rw [atL_listF hi]
  have h1 := h i .u8 (by rw [List.getElem?_replicate, if_pos hi])
  exact ⟨h1.1, Int.lt_of_le_of_lt h1.2 (by decide)⟩
/-- the clamped key -/
abbrev cK (k : Nat → Int) : Nat → Int := atL (listF 32 (shK (atL (listF 32 k 0))) 0)
theorem and248 : ∀ m, m < 256 → (m &&& 248) % 2 = 0 ∧ (m &&& 248) / 2 % 2 = 0 := by decide +kernel
theorem cK_bits {k : Nat → Int} (h : ∀ i, i < 32 → Byte (atL (listF 32 k 0) i)) : kBit (cK k) 254 = 0 ∧ kBit (cK k) 253 = 0 := by
  obtain ⟨h0, h1⟩ := h 0 (by decide)
  obtain ⟨m, hm⟩ := Int.eq_ofNat_of_zero_le h0
  have e : uand (atL (listF 32 k 0) 0) 248 = ((m &&& 248 : Nat) : Int) := by rw [hm]; rfl
  obtain ⟨a1, a2⟩ := and248 m (by omega)
  constructor
  · show umask (ushr (uand (atL (listF 32 k 0) 0) 248) 0) 1 = 0
    rw [e, show ushr ((m &&& 248 : Nat) : Int) 0 = ((m &&& 248 : Nat) : Int) / 1 from ushrE _ 0 (Int.natCast_nonneg _), Int.ediv_one, show umask ((m &&& 248 : Nat) : Int) 1 = ((m &&& 248 : Nat) : Int) % 2 from umaskE _ 1 (Int.natCast_nonneg _)]
    omega
  · show umask (ushr (uand (atL (listF 32 k 0) 0) 248) 1) 1 = 0
    rw [e, show ushr ((m &&& 248 : Nat) : Int) 1 = ((m &&& 248 : Nat) : Int) / 2 from ushrE _ 1 (Int.natCast_nonneg _), show umask (((m &&& 248 : Nat) : Int) / 2) 1 = (((m &&& 248 : Nat) : Int) / 2) % 2 from umaskE _ 1 (by omega)]
    omega
/-! ### CurveLow -/
abbrev mL : List Int := 236 :: (List.replicate 30 255 ++ [127])
abbrev n32 : List Int := List.replicate 32 0
abbrev shW (k : Nat → Int) (l : List Int) : List Int := listF 32 (shF (atL (listF 32 k 0)) (atL l)) 0
theorem lo_run (k : Nat → Int) : runF gN 3000 [.br true, .br true, .br true] 7 [.agg (b32 k)] [] [] =
    some (.sbool true, [], [decide (shW k mL = n32) = true, decide (shW k (kl 1) = n32) = true, decide (shW k n32 = n32) = true]) :=
  run_parts (by kernel_rfl) (by kernel_rfl) (by kernel_rfl)
theorem is_mL : Is (L5 (fdecN mL)) (Q - 1) := by
  have hb : ∀ i, i < 32 → Byte (atL mL i) := fun i hi => by
    refine getD_byte _ i fun x hx => ?_
    simp only [mL, List.mem_cons, List.mem_append, List.mem_replicate, List.not_mem_nil, or_false] at hx
    rcases hx with rfl | ⟨_, rfl⟩ | rfl
    · exact ⟨by decide, by decide⟩
    · exact ⟨by decide, by decide⟩
    · exact ⟨by decide, by decide⟩
  have := is_dec (l := mL) hb
  have e : leN 32 (atL mL) 0 % 57896044618658097711785492504343953926634992332820282019728792003956564819968 = Q - 1 := by kernel_rfl
  rw [e] at this
  exact this
theorem low_ok (k : Nat → Int) (hk : ∀ (i : Nat) (q : IntKind), (List.replicate 32 IntKind.u8)[i]? = some q → Fits q (k i)) : FnOk gN 7 [.agg (b32 k)] [] { val := .sbool true } := by
  obtain ⟨h1, h2⟩ := cK_bits (dec_byte hk)
  have z : listF 32 (byteN 0) 0 = n32 := by kernel_rfl
  have eM : shW k mL = n32 := by
    have := shF_V (k := atL (listF 32 k 0)) (u := atL mL) is_mL
    rw [show shV (atL (listF 32 (shK (atL (listF 32 k 0))) 0)) (Q - 1) = 0 from shV_M h1 h2, z] at this
    exact this
  have e1 : shW k (kl 1) = n32 := by
    have := shF_V (k := atL (listF 32 k 0)) (u := atL (kl 1)) (is_k (m := 1) (by decide))
    rw [show shV (atL (listF 32 (shK (atL (listF 32 k 0))) 0)) 1 = 0 from shV_1 h1 h2, z] at this
    exact this
  have e0 : shW k n32 = n32 := by
    have := shF_V (k := atL (listF 32 k 0)) (u := atL n32) (is_k (m := 0) (by decide))
    rw [show shV (atL (listF 32 (shK (atL (listF 32 k 0))) 0)) 0 = 0 from shV_0 h1, z] at this
    exact this
  refine FnOk.pure gN_ok (lo_run k) ?_
  simp only [allC_cons, allC_nil, and_true]
  exact ⟨decide_eq_true eM, decide_eq_true e1, decide_eq_true e0⟩
end Go.Proofs.Ytjkenobomlbdcaa
