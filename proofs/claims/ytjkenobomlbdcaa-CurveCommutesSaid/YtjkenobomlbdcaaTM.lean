/- Accounts of this seat's functions: lemmas, no statement of their own. No conditions. -/
import Derived.Test.YtjkenobomlbdcaaTL
namespace Go.Proofs.Ytjkenobomlbdcaa
open Go Go.Vx
/-! ### the way up, without the swaps put off -/
def eZ (k : Nat → Int) (x : Int) : Nat → Lz
  | 0 => ⟨1, 0, x, 1⟩
  | i + 1 => lzSw (kBit k i) (lzStep x (lzSw (kBit k i) (eZ k x i)))
theorem kBit_01 (k : Nat → Int) (i : Nat) : kBit k i = 0 ∨ kBit k i = 1 := by
  unfold kBit umask
  rw [show (1 : Int).toNat = 1 from rfl, Int.ofNat_eq_natCast]
  omega
theorem lzSw_two {s t : Int} (hs : s = 0 ∨ s = 1) (ht : t = 0 ∨ t = 1) (L : Lz) : lzSw (uadd .u64 t s) L = lzSw s (lzSw t L) := by
  rcases hs with rfl | rfl <;> rcases ht with rfl | rfl <;> rfl
theorem eZ_eq (k : Nat → Int) (x : Int) : ∀ i, ((shZ k x 0 ⟨1, 0, x, 1⟩ i).1 = 0 ∨ (shZ k x 0 ⟨1, 0, x, 1⟩ i).1 = 1) ∧ lzSw (shZ k x 0 ⟨1, 0, x, 1⟩ i).1 (shZ k x 0 ⟨1, 0, x, 1⟩ i).2 = eZ k x i
  | 0 => ⟨.inl rfl, rfl⟩
  | i + 1 => by
    obtain ⟨h1, h2⟩ := eZ_eq k x i
    refine ⟨kBit_01 k i, ?_⟩
    show lzSw (kBit k i) (lzStep x (lzSw (uadd .u64 _ (kBit k i)) _)) = _
    rw [lzSw_two (kBit_01 k i) h1, h2]; rfl
theorem zEnd_eq (k : Nat → Int) (x : Int) : zEnd k x = eZ k x 255 := (eZ_eq k x 255).2
/-! ### points of small order -/
theorem zS_self (a : Int) : zS a a = 0 := by unfold zS; rw [Int.sub_self, Int.zero_emod]
theorem mm_l (a : Int) : mm 0 a = 0 := by unfold mm; rw [Int.zero_mul, Int.zero_emod]
theorem mm_r (a : Int) : mm a 0 = 0 := by unfold mm; rw [Int.mul_zero, Int.zero_emod]
theorem zA_r (a : Int) : zA a 0 = a % Q := by unfold zA; rw [Int.add_zero]
theorem zS_r (a : Int) : zS a 0 = a % Q := by unfold zS; rw [Int.sub_zero]
theorem zA_l (a : Int) : zA 0 a = a % Q := by unfold zA; rw [Int.zero_add]
theorem zS_l (a : Int) : zS 0 a = -a % Q := by unfold zS; rw [Int.zero_sub]
theorem mm_mod (a b : Int) : mm (a % Q) (b % Q) = mm a b := by unfold mm; rw [← Int.mul_emod]
theorem sq_neg (a : Int) : mm (-a % Q) (-a % Q) = mm (a % Q) (a % Q) := by rw [mm_mod, mm_mod]; unfold mm; rw [Int.neg_mul_neg]
theorem mm_one (a b : Int) : mm 1 (mm a b) = mm a b := by unfold mm; rw [Int.one_mul, Int.emod_emod_of_dvd _ (Int.dvd_refl Q)]
theorem zA_mm_neg_l (a b : Int) : zA (mm (-a % Q) b) (mm (a % Q) b) = 0 := by
  unfold zA mm
  rw [← Int.add_emod, ← Int.add_mul, Int.mul_emod, ← Int.add_emod, Int.add_comm, Int.add_right_neg, Int.zero_emod, Int.zero_mul, Int.zero_emod]
theorem zA_mm_neg_r (a b : Int) : zA (mm a (b % Q)) (mm a (-b % Q)) = 0 := by
  unfold zA mm
  rw [← Int.add_emod, ← Int.mul_add, Int.mul_emod, ← Int.add_emod, Int.add_right_neg, Int.zero_emod, Int.mul_zero, Int.zero_emod]
/-- multiples of the point 0 -/
def T2 (n : Int) (L : Lz) : Prop := (n = 0 ∧ L.b = 0 ∧ L.c = 0) ∨ (n = 1 ∧ L.a = 0 ∧ L.d = 0)
theorem T2_step {n s : Int} {L : Lz} (h : T2 n L) (hs : s = 0 ∨ s = 1) : T2 s (lzSw s (lzStep 0 (lzSw s L))) := by
  obtain ⟨a, b, c, d⟩ := L
  rcases hs with rfl | rfl
  · left
    refine ⟨rfl, ?_, ?_⟩ <;> rcases h with ⟨_, h1, h2⟩ | ⟨_, h1, h2⟩ <;> simp only at h1 h2 <;> subst h1 h2 <;> simp only [lzSw, lzStep, Int.zero_emod, zA_r, zS_r, zA_l, zS_l, zS_self, sq_neg, mm_l, mm_r, zA_mm_neg_l, zA_mm_neg_r, show ¬ (0 : Int) = 1 by decide, if_false]
  · right
    refine ⟨rfl, ?_, ?_⟩ <;> rcases h with ⟨_, h1, h2⟩ | ⟨_, h1, h2⟩ <;> simp only at h1 h2 <;> subst h1 h2 <;> simp only [lzSw, lzStep, show (1 : Int) % 2 = 1 by decide, zA_r, zS_r, zA_l, zS_l, zS_self, sq_neg, mm_l, mm_r, zA_mm_neg_l, zA_mm_neg_r, if_true]
theorem zA_M (a b : Int) : zA (mm a b) (mm (Q - 1) (mm a b)) = 0 := by
  unfold zA mm
  rw [Int.add_emod_emod]
  have : a * b % Q + (Q - 1) * (a * b % Q) = Q * (a * b % Q) := by rw [Int.sub_mul, Int.one_mul]; omega
  rw [this, Int.mul_emod_right]
/-- multiples of the point 1 -/
def T1 (n : Int) (L : Lz) : Prop := (n = 0 ∧ L.b = 0 ∧ zS L.c L.d = 0) ∨ (n = 1 ∧ zS L.a L.b = 0 ∧ L.c = 0) ∨ (n = 2 ∧ L.a = 0 ∧ zS L.c L.d = 0) ∨ (n = 3 ∧ zS L.a L.b = 0 ∧ L.d = 0)
theorem T1_step {n s : Int} {L : Lz} (h : T1 n L) (hs : s = 0 ∨ s = 1) : T1 ((2 * n + s) % 4) (lzSw s (lzStep 1 (lzSw s L))) := by
  obtain ⟨a, b, c, d⟩ := L
  rcases hs with rfl | rfl
  · rcases h with ⟨rfl, h1, h2⟩ | ⟨rfl, h1, h2⟩ | ⟨rfl, h1, h2⟩ | ⟨rfl, h1, h2⟩ <;> simp only at h1 h2
    · subst h1
      refine .inl ⟨rfl, ?_, ?_⟩ <;> simp only [lzSw, lzStep, h2, Int.zero_emod, zA_r, zS_r, zA_l, zS_l, zS_self, sq_neg, mm_l, mm_r, mm_one, zA_M, show ¬ (0 : Int) = 1 by decide, if_false]
    · subst h2
      refine .inr (.inr (.inl ⟨rfl, ?_, ?_⟩)) <;> simp only [lzSw, lzStep, h1, Int.zero_emod, zA_r, zS_r, zA_l, zS_l, zS_self, sq_neg, mm_l, mm_r, mm_one, zA_M, show ¬ (0 : Int) = 1 by decide, if_false]
    · subst h1
      refine .inl ⟨rfl, ?_, ?_⟩ <;> simp only [lzSw, lzStep, h2, Int.zero_emod, zA_r, zS_r, zA_l, zS_l, zS_self, sq_neg, mm_l, mm_r, mm_one, zA_M, show ¬ (0 : Int) = 1 by decide, if_false]
    · subst h2
      refine .inr (.inr (.inl ⟨rfl, ?_, ?_⟩)) <;> simp only [lzSw, lzStep, h1, Int.zero_emod, zA_r, zS_r, zA_l, zS_l, zS_self, sq_neg, mm_l, mm_r, mm_one, zA_M, show ¬ (0 : Int) = 1 by decide, if_false]
  · rcases h with ⟨rfl, h1, h2⟩ | ⟨rfl, h1, h2⟩ | ⟨rfl, h1, h2⟩ | ⟨rfl, h1, h2⟩ <;> simp only at h1 h2
    · subst h1
      refine .inr (.inl ⟨rfl, ?_, ?_⟩) <;> simp only [lzSw, lzStep, h2, Int.zero_emod, show (1 : Int) % 2 = 1 by decide, zA_r, zS_r, zA_l, zS_l, zS_self, sq_neg, mm_l, mm_r, mm_one, zA_M, if_true]
    · subst h2
      refine .inr (.inr (.inr ⟨rfl, ?_, ?_⟩)) <;> simp only [lzSw, lzStep, h1, Int.zero_emod, show (1 : Int) % 2 = 1 by decide, zA_r, zS_r, zA_l, zS_l, zS_self, sq_neg, mm_l, mm_r, mm_one, zA_M, if_true]
    · subst h1
      refine .inr (.inl ⟨rfl, ?_, ?_⟩) <;> simp only [lzSw, lzStep, h2, Int.zero_emod, show (1 : Int) % 2 = 1 by decide, zA_r, zS_r, zA_l, zS_l, zS_self, sq_neg, mm_l, mm_r, mm_one, zA_M, if_true]
    · subst h2
      refine .inr (.inr (.inr ⟨rfl, ?_, ?_⟩)) <;> simp only [lzSw, lzStep, h1, Int.zero_emod, show (1 : Int) % 2 = 1 by decide, zA_r, zS_r, zA_l, zS_l, zS_self, sq_neg, mm_l, mm_r, mm_one, zA_M, if_true]
/-- multiples of the point (Q - 1) -/
def TM (n : Int) (L : Lz) : Prop := (n = 0 ∧ L.b = 0 ∧ zA L.c L.d = 0) ∨ (n = 1 ∧ zA L.a L.b = 0 ∧ L.c = 0) ∨ (n = 2 ∧ L.a = 0 ∧ zA L.c L.d = 0) ∨ (n = 3 ∧ zA L.a L.b = 0 ∧ L.d = 0)
theorem TM_step {n s : Int} {L : Lz} (h : TM n L) (hs : s = 0 ∨ s = 1) : TM ((2 * n + s) % 4) (lzSw s (lzStep (Q - 1) (lzSw s L))) := by
  obtain ⟨a, b, c, d⟩ := L
  rcases hs with rfl | rfl
  · rcases h with ⟨rfl, h1, h2⟩ | ⟨rfl, h1, h2⟩ | ⟨rfl, h1, h2⟩ | ⟨rfl, h1, h2⟩ <;> simp only at h1 h2
    · subst h1
      refine .inl ⟨rfl, ?_, ?_⟩ <;> simp only [lzSw, lzStep, h2, Int.zero_emod, zA_r, zS_r, zA_l, zS_l, zS_self, sq_neg, mm_l, mm_r, mm_one, zA_M, show ¬ (0 : Int) = 1 by decide, if_false]
    · subst h2
      refine .inr (.inr (.inl ⟨rfl, ?_, ?_⟩)) <;> simp only [lzSw, lzStep, h1, Int.zero_emod, zA_r, zS_r, zA_l, zS_l, zS_self, sq_neg, mm_l, mm_r, mm_one, zA_M, show ¬ (0 : Int) = 1 by decide, if_false]
    · subst h1
      refine .inl ⟨rfl, ?_, ?_⟩ <;> simp only [lzSw, lzStep, h2, Int.zero_emod, zA_r, zS_r, zA_l, zS_l, zS_self, sq_neg, mm_l, mm_r, mm_one, zA_M, show ¬ (0 : Int) = 1 by decide, if_false]
    · subst h2
      refine .inr (.inr (.inl ⟨rfl, ?_, ?_⟩)) <;> simp only [lzSw, lzStep, h1, Int.zero_emod, zA_r, zS_r, zA_l, zS_l, zS_self, sq_neg, mm_l, mm_r, mm_one, zA_M, show ¬ (0 : Int) = 1 by decide, if_false]
  · rcases h with ⟨rfl, h1, h2⟩ | ⟨rfl, h1, h2⟩ | ⟨rfl, h1, h2⟩ | ⟨rfl, h1, h2⟩ <;> simp only at h1 h2
    · subst h1
      refine .inr (.inl ⟨rfl, ?_, ?_⟩) <;> simp only [lzSw, lzStep, h2, Int.zero_emod, show (1 : Int) % 2 = 1 by decide, zA_r, zS_r, zA_l, zS_l, zS_self, sq_neg, mm_l, mm_r, mm_one, zA_M, if_true]
    · subst h2
      refine .inr (.inr (.inr ⟨rfl, ?_, ?_⟩)) <;> simp only [lzSw, lzStep, h1, Int.zero_emod, show (1 : Int) % 2 = 1 by decide, zA_r, zS_r, zA_l, zS_l, zS_self, sq_neg, mm_l, mm_r, mm_one, zA_M, if_true]
    · subst h1
      refine .inr (.inl ⟨rfl, ?_, ?_⟩) <;> simp only [lzSw, lzStep, h2, Int.zero_emod, show (1 : Int) % 2 = 1 by decide, zA_r, zS_r, zA_l, zS_l, zS_self, sq_neg, mm_l, mm_r, mm_one, zA_M, if_true]
    · subst h2
      refine .inr (.inr (.inr ⟨rfl, ?_, ?_⟩)) <;> simp only [lzSw, lzStep, h1, Int.zero_emod, show (1 : Int) % 2 = 1 by decide, zA_r, zS_r, zA_l, zS_l, zS_self, sq_neg, mm_l, mm_r, mm_one, zA_M, if_true]
/-- the number so far, modulo 4 -/
def pre (k : Nat → Int) : Nat → Int
  | 0 => 0
  | i + 1 => (2 * pre k i + kBit k i) % 4
theorem pre_end (k : Nat → Int) (i : Nat) (h1 : kBit k i = 0) (h2 : kBit k (i + 1) = 0) : pre k (i + 2) = 0 := by
  show (2 * ((2 * pre k i + kBit k i) % 4) + kBit k (i + 1)) % 4 = 0
  rw [h1, h2]; omega
theorem eZ_0 (k : Nat → Int) : ∀ i, T2 (match i with | 0 => 0 | j + 1 => kBit k j) (eZ k 0 i)
  | 0 => .inl ⟨rfl, rfl, rfl⟩
  | i + 1 => T2_step (eZ_0 k i) (kBit_01 k i)
theorem eZ_1 (k : Nat → Int) : ∀ i, T1 (pre k i) (eZ k 1 i)
  | 0 => .inl ⟨rfl, rfl, zS_self 1⟩
  | i + 1 => T1_step (eZ_1 k i) (kBit_01 k i)
theorem eZ_M (k : Nat → Int) : ∀ i, TM (pre k i) (eZ k (Q - 1) i)
  | 0 => .inl ⟨rfl, rfl, show zA (Q - 1) 1 = 0 by decide⟩
  | i + 1 => TM_step (eZ_M k i) (kBit_01 k i)
theorem inv0 : invM 0 = 0 := by kernel_rfl
theorem shV_0 {k : Nat → Int} (h : kBit k 254 = 0) : shV k 0 = 0 := by
  have := eZ_0 k 255
  rw [← zEnd_eq] at this
  simp only [h] at this
  rcases this with ⟨_, h1, _⟩ | ⟨h1, _⟩
  · unfold shV; rw [h1, inv0, mm_r]
  · exact absurd h1 (by decide)
theorem shV_1 {k : Nat → Int} (h : kBit k 254 = 0) (h' : kBit k 253 = 0) : shV k 1 = 0 := by
  have := eZ_1 k 255
  rw [← zEnd_eq, pre_end k 253 h' h] at this
  rcases this with ⟨_, h1, _⟩ | ⟨h1, _⟩ | ⟨h1, _⟩ | ⟨h1, _⟩
  · unfold shV; rw [h1, inv0, mm_r]
  · exact absurd h1 (by decide)
  · exact absurd h1 (by decide)
  · exact absurd h1 (by decide)
theorem shV_M {k : Nat → Int} (h : kBit k 254 = 0) (h' : kBit k 253 = 0) : shV k (Q - 1) = 0 := by
  have := eZ_M k 255
  rw [← zEnd_eq, pre_end k 253 h' h] at this
  rcases this with ⟨_, h1, _⟩ | ⟨h1, _⟩ | ⟨h1, _⟩ | ⟨h1, _⟩
  · unfold shV; rw [h1, inv0, mm_r]
  · exact absurd h1 (by decide)
  · exact absurd h1 (by decide)
  · exact absurd h1 (by decide)
end Go.Proofs.Ytjkenobomlbdcaa
