/- Accounts of this seat's functions: lemmas, no statement of their own. No conditions. -/
import Derived.Test.YtkpkdingeomhnaaTSc
namespace Go.Proofs.Ytkpkdingeomhnaa
open Go Go.Vx
/-! ### the iterator with a yield that counts -/
abbrev slB (a n : Int) (c : Nat) (L : List (List Int)) : List Body := [.cells [.int .i64 a], .cells [.ptr 3 0], .cells [.int .i64 n], .cells [.int .i64 (c : Int), .own 4], .rows [.i64, .i64] L]
abbrev slY : SV := .func 26 [] [.ptr 0 0]
theorem sl_pre (a n : Int) (c : Nat) (L : List (List Int)) : runC gx 200 27 [] (takeSeq 3 c38) [(0, slY), (1, .ptr 1 0), (2, .ptr 2 0)] (slB a n c L) siK [0, 1, 2, 3, 4] =
    some (Ex.normal, [slY, .own 4, .int .i64 (mx0 n)], (slB a n c L).map some, []) := by kernel_rfl
theorem sl_go (a n : Int) (c : Nat) (L : List (List Int)) (i : Nat) : runC gx 200 27 [.br true, .br false] siC (siK.zip [slY, .own 4, .int .i64 (i : Int)]) (slB a n c L) siK [0, 1, 2, 3, 4] =
    some (Ex.normal, [slY, .own 4, .int .i64 ((↑i : Int) + (1 : Int))], (slB (a + 1) n c L).map some, [Fits IntKind.i64 (↑L.length : Int), decide ((↑i : Int) < (↑L.length : Int)) = true, Fits IntKind.i64 (a + (1 : Int)), i < L.length, i < L.length, (0 : Int) ≤ (↑i : Int) ∧ (↑i : Int) < (↑L.length : Int), (!decide (a + (1 : Int) ≤ (4000 : Int))) = false, Fits IntKind.i64 ((↑i : Int) + (1 : Int))]) := by kernel_rfl
theorem sl_end (a n : Int) (c : Nat) (L : List (List Int)) (i : Nat) : runC gx 200 27 [.br false] siC (siK.zip [slY, .own 4, .int .i64 (i : Int)]) (slB a n c L) [] [0, 1, 2, 3, 4] =
    some (Ex.exit (0 : Nat), [], (slB a n c L).map some, [Fits IntKind.i64 (↑L.length : Int), decide ((↑i : Int) < (↑L.length : Int)) = false]) := by kernel_rfl
abbrev slA : List SV := [slY, .ptr 1 0, .ptr 2 0]
abbrev slQ (a n : Int) (L : List (List Int)) : List Body := [.cells [.int .i64 a], .cells [.ptr 3 0], .cells [.int .i64 n], .log L]
section
variable {L : List (List Int)} {n : Int}
theorem sl_round (h : L.length ≤ 4000) {j : Nat} (hj : n.toNat + j < L.length) {w0 : World} {O : Vx.Own} (hG : GlobOk gx w0 O) :
    SimC gx.P w0 O 27 siC (siK.zip [slY, .own 4, .int .i64 ((n.toNat + j : Nat) : Int)]) (slB (j : Int) n L.length L) .normal (siK.zip [slY, .own 4, .int .i64 ((n.toNat + (j + 1) : Nat) : Int)]) (slB ((j + 1 : Nat) : Int) n L.length L) 4 := by
  refine SimC.run (ids := [0, 1, 2, 3, 4]) gx_ok (by decide) (sl_go (j : Int) n L.length L (n.toNat + j)) ?_ (by decide) (by decide) (by decide) (by simp) hG
  simp only [allC_cons, allC_nil, and_true]
  refine ⟨fits_small (by omega), decide_eq_true (by omega), fits_small (n := j + 1) (by omega), hj, hj, ⟨by omega, by omega⟩, ?_, fits_small (n := n.toNat + j + 1) (by omega)⟩
  rw [decide_eq_true (by omega)]; rfl
theorem sl_body (h : L.length ≤ 4000) {w0 : World} {O : Vx.Own} (hG : GlobOk gx w0 O) :
    SimC gx.P w0 O 27 c38 [(0, slY), (1, .ptr 1 0), (2, .ptr 2 0)] (slB 0 n L.length L) .normal [] (slB ((L.length - n.toNat : Nat) : Int) n L.length L) 4 := by
  refine SimC.cut (k := 3) (keep := siK) (ids := [0, 1, 2, 3, 4]) si_noloop gx_ok (by decide) (sl_pre 0 n L.length L) (fun p hp => by cases hp) (by decide) (by decide) (by decide) (by simp) hG ?_
  rw [si_drop, mx0_nat]
  refine SimC.block (SimC.iter (S := fun j => siK.zip [slY, .own 4, .int .i64 ((n.toNat + j : Nat) : Int)]) (B := fun j => slB (j : Int) n L.length L) (N := L.length - n.toNat) (fun j hj => sl_round h (by omega) hG) ?_ (by simp) 0 (Nat.zero_le _)) (.inl ⟨rfl, rfl⟩)
  refine SimC.run (keep := []) (ids := [0, 1, 2, 3, 4]) gx_ok (by decide) (sl_end _ n L.length L (n.toNat + (L.length - n.toNat))) ?_ (by decide) (by decide) (by decide) (by simp) hG
  simp only [allC_cons, allC_nil, and_true]
  exact ⟨fits_small (by omega), decide_eq_false (by omega)⟩
theorem sl_log (h : L.length ≤ 4000) {w0 : World} {O : Vx.Own} (hG : GlobOk gx w0 O) :
    SimC gx.P w0 O 27 c38 [(0, slY), (1, .ptr 1 0), (2, .ptr 2 0)] (slQ 0 n L) .normal [] (slQ ((L.length - n.toNat : Nat) : Int) n L) 4 :=
  SimC.unlogAt (k := 3) (l := L) (l' := L) (B := slQ 0 n L) (B1 := [.cells [.int .i64 ((L.length - n.toNat : Nat) : Int)], .cells [.ptr 3 0], .cells [.int .i64 n], .cells [.int .i64 (L.length : Int), .own 4]]) rfl (by decide) (by simp) (by simp) (sl_body h hG) rfl (fun b hb => by
    simp at hb
    rcases hb with rfl | rfl | rfl | rfl <;> rfl)
end
def sin26 (args : List SV) (B : List Body) : OpOut :=
  let n := gI (gC B 2); let L := gL B 3
  { val := .tuple [], upd := updZ 0 (slQ ((L.length - n.toNat : Nat) : Int) n L), C := [args = slA, B.map normB = slQ 0 n L, L.length ≤ 4000] }
theorem sin26_ok {args : List SV} {B : List Body} (hC : AllC (sin26 args B).C) : FnOk gx 38 args B (sin26 args B) := by
  unfold sin26 at hC ⊢
  simp only at hC ⊢
  generalize gI (gC B 2) = n at *
  generalize gL B 3 = L at *
  simp only [allC_cons, allC_nil, and_true] at hC
  obtain ⟨rfl, hB, h⟩ := hC
  have hl : B.length = 4 := by have := congrArg List.length hB; simpa using this
  refine FnOk.ofSim (fn := Try.f38) (c := c38) (S := [(0, slY), (1, .ptr 1 0), (2, .ptr 2 0)]) (S' := []) (B' := slQ ((L.length - n.toNat : Nat) : Int) n L) (e := .normal) gx_ok rfl rfl (by decide) (by decide) (by kernel_rfl) (by kernel_rfl) (.inl rfl) (updZ_BH (by rw [hl]; rfl)) (by rw [hl]; rfl) fun w0 O hG => ?_
  rw [hl]
  refine SimC.preB ?_
  rw [hB]
  exact sl_log h hG
def sinF : SumF := fun args B => match args with
  | .func f _ _ :: _ => match Nat.beq f 24 with
    | true => some (sin24 args B)
    | false => match Nat.beq f 26 with
      | true => some (sin26 args B)
      | false => none
  | _ => none
theorem acc38 : Acc gx 38 sinF := by
  intro args B out h hC
  unfold sinF at h
  split at h
  · split at h
    · simp only [Option.some.injEq] at h; subst h; exact sin24_ok hC
    · split at h
      · simp only [Option.some.injEq] at h; subst h; exact sin26_ok hC
      · simp at h
  · simp at h
/-- with the iterator -/
noncomputable abbrev gs : Ctx := g4.add [(38, sinF)]
theorem gs_ok : CtxU gs := g4_ok.add mixed noGo (by
  intro x hx
  simp only [List.mem_cons, List.not_mem_nil, or_false] at hx
  subst hx
  exact fun args B out h hC => FnOk.of (g := gx) rfl rfl (acc38 args B out h hC))
end Go.Proofs.Ytkpkdingeomhnaa
