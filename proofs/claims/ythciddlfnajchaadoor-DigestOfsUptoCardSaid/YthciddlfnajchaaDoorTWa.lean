/- Accounts of this seat's functions: lemmas, no statement of their own. No conditions. -/
import Derived.Test.YthciddlfnajchaaDoorTNa
import Derived.Test.YthciddlfnajchaaDoorTSc
namespace Go.Proofs.Tryd
open Go Go.Vx
/-! ### EventsSum, EventsWrite -/
noncomputable abbrev ge : Ctx := g1.add [(40, F40), (41, F41), (42, F42)]
theorem ge_ok : CtxU ge := g1_ok.add mixed noGo (by
  intro x hx
  simp only [List.mem_cons, List.not_mem_nil, or_false] at hx
  rcases hx with rfl | rfl | rfl
  · exact acc40
  · exact acc41
  · exact acc42)
abbrev bI (b : Bool) : Int := if b = true then 1 else 0
abbrev evK : List IntKind := [.i64, .i64]
theorem bI_t {p : Prop} [Decidable p] (h : p) : bI (decide p) = 1 := by rw [decide_eq_true h]; rfl
theorem bI_f {p : Prop} [Decidable p] (h : ¬ p) : bI (decide p) = 0 := by rw [decide_eq_false h]; rfl
theorem es_run (h : Int) : runF ge 300 [] 25 [.int .i64 h] [] [1] = some (.own 0, [some (.rows evK [[2, h], [3, 31]])], [(2 : Nat) * 16 ≤ 2 ^ 47]) :=
  run_parts (by kernel_rfl) (by kernel_rfl) (by kernel_rfl)
def F25 : SumF := fun args B => match args, B with
  | [.int .i64 h], [] => some { val := .own 0, new := [.rows evK [[2, h], [3, 31]]] }
  | _, _ => none
theorem acc25 : Acc ge 25 F25 := by
  intro args B out h hC
  unfold F25 at h
  split at h
  · rename_i n
    simp only [Option.some.injEq] at h; subst h
    exact FnOk.run (out := { val := .own 0, new := [.rows evK [[2, n], [3, 31]]] }) (new := [1]) ge_ok (es_run n) (by simp only [allC_cons, allC_nil, and_true]; decide) (by simp [upto]) rfl (by simp) (by simp) (fun j hj => by
      match j, hj with
      | 0, _ => rfl)
  · simp at h
abbrev ewKeep : List Nat := [0, 1, 6]
noncomputable abbrev ewBody : Code := bodyAt Tryd.prog 26 2
abbrev ewS (h : Int) (n : Int) : List (Nat × SV) := ewKeep.zip [.int .i64 h, .int .i64 n, .own 0]
theorem ew_00 (h n : Int) (l : List (List Int)) : runC ge 300 47 [.br true, .br false, .br false] ewBody (ewS h n) [.rows evK l] ewKeep [4] =
    some (.normal, [.int .i64 (h + (64 - h)), .int .i64 (n - (64 - h)), .own 0], [some (.rows evK ((l ++ [[1, 1], [1, bI (decide (h = 64))]]) ++ [[2, h], [2, (64 - h)]]))], [decide (0 < n) = true, (l ++ [[1, 1], [1, bI (decide (h = 64))]]).length * 16 ≤ 2 ^ 47, decide (h = 64) = false, Fits .i64 (64 - h), decide (n < 64 - h) = false, ((l ++ [[1, 1], [1, bI (decide (h = 64))]]) ++ [[2, h], [2, (64 - h)]]).length * 16 ≤ 2 ^ 47, Fits .i64 (h + (64 - h)), Fits .i64 (n - (64 - h))]) :=
  r3_parts4 (by kernel_rfl) (by kernel_rfl) (by kernel_rfl) (by kernel_rfl)
theorem ew_01 (h n : Int) (l : List (List Int)) : runC ge 300 47 [.br true, .br false, .br true] ewBody (ewS h n) [.rows evK l] ewKeep [4] =
    some (.normal, [.int .i64 (h + n), .int .i64 (n - n), .own 0], [some (.rows evK ((l ++ [[1, 1], [1, bI (decide (h = 64))]]) ++ [[2, h], [2, n]]))], [decide (0 < n) = true, (l ++ [[1, 1], [1, bI (decide (h = 64))]]).length * 16 ≤ 2 ^ 47, decide (h = 64) = false, Fits .i64 (64 - h), decide (n < 64 - h) = true, ((l ++ [[1, 1], [1, bI (decide (h = 64))]]) ++ [[2, h], [2, n]]).length * 16 ≤ 2 ^ 47, Fits .i64 (h + n), Fits .i64 (n - n)]) :=
  r3_parts4 (by kernel_rfl) (by kernel_rfl) (by kernel_rfl) (by kernel_rfl)
theorem ew_10 (h n : Int) (l : List (List Int)) : runC ge 300 47 [.br true, .br true, .br false] ewBody (ewS h n) [.rows evK l] ewKeep [6] =
    some (.normal, [.lit .i64 64, .int .i64 (n - 64), .own 0], [some (.rows evK ((l ++ [[1, 1], [1, bI (decide (h = 64))]] ++ [[3, 31]]) ++ [[2, 0], [2, 64]]))], [decide (0 < n) = true, (l ++ [[1, 1], [1, bI (decide (h = 64))]]).length * 16 ≤ 2 ^ 47, decide (h = 64) = true, (l ++ [[1, 1], [1, bI (decide (h = 64))]] ++ [[3, 31]]).length * 16 ≤ 2 ^ 47, decide (n < 64) = false, ((l ++ [[1, 1], [1, bI (decide (h = 64))]] ++ [[3, 31]]) ++ [[2, 0], [2, 64]]).length * 16 ≤ 2 ^ 47, Fits .i64 (n - 64)]) :=
  r3_parts4 (by kernel_rfl) (by kernel_rfl) (by kernel_rfl) (by kernel_rfl)
theorem ew_11 (h n : Int) (l : List (List Int)) : runC ge 300 47 [.br true, .br true, .br true] ewBody (ewS h n) [.rows evK l] ewKeep [6] =
    some (.normal, [.int .i64 (0 + n), .int .i64 (n - n), .own 0], [some (.rows evK ((l ++ [[1, 1], [1, bI (decide (h = 64))]] ++ [[3, 31]]) ++ [[2, 0], [2, n]]))], [decide (0 < n) = true, (l ++ [[1, 1], [1, bI (decide (h = 64))]]).length * 16 ≤ 2 ^ 47, decide (h = 64) = true, (l ++ [[1, 1], [1, bI (decide (h = 64))]] ++ [[3, 31]]).length * 16 ≤ 2 ^ 47, decide (n < 64) = true, ((l ++ [[1, 1], [1, bI (decide (h = 64))]] ++ [[3, 31]]) ++ [[2, 0], [2, n]]).length * 16 ≤ 2 ^ 47, Fits .i64 (0 + n), Fits .i64 (n - n)]) :=
  r3_parts4 (by kernel_rfl) (by kernel_rfl) (by kernel_rfl) (by kernel_rfl)
theorem ew_end (h n : Int) (l : List (List Int)) : runC ge 300 47 [.br false] ewBody (ewS h n) [.rows evK l] ewKeep [0] =
    some (.exit 0, [.int .i64 h, .int .i64 n, .own 0], [some (.rows evK l)], [decide (0 < n) = false]) :=
  r3_parts4 (by kernel_rfl) (by kernel_rfl) (by kernel_rfl) (by kernel_rfl)
/-! ### EventsWrite: the loop -/
abbrev b0 (h : Int) : Int := if h = 64 then 0 else h
abbrev kR (h n : Int) : Int := if n < 64 - b0 h then n else 64 - b0 h
abbrev hN (h n : Int) : Int := b0 h + kR h n
def evR (h n : Int) : List (List Int) := [[1, 1], [1, bI (decide (h = 64))]] ++ ((if h = 64 then [[3, 31]] else []) ++ [[2, b0 h], [2, kR h n]])
/-- what is logged in the loop, and what is held behind it -/
def evW : Nat → Int → Int → List (List Int)
  | 0, _, _ => []
  | f + 1, h, n => if 0 < n then evR h n ++ evW f (hN h n) (n - kR h n) else []
def ewH : Nat → Int → Int → Int
  | 0, h, _ => h
  | f + 1, h, n => if 0 < n then ewH f (hN h n) (n - kR h n) else h
theorem evR_len (h n : Int) : (evR h n).length ≤ 5 := by unfold evR; split <;> simp
theorem evW_len : ∀ (f : Nat) (h n : Int), (evW f h n).length ≤ 5 * f
  | 0, _, _ => by simp [evW]
  | f + 1, h, n => by
    simp only [evW]; split
    · have := evW_len f (hN h n) (n - kR h n)
      have := evR_len h n
      rw [List.length_append]; omega
    · simp
theorem kR_bd {h n : Int} (h0 : 0 ≤ h ∧ h ≤ 64) (hn : 0 < n) : 0 < kR h n ∧ kR h n ≤ n ∧ 0 ≤ hN h n ∧ hN h n ≤ 64 := by
  simp only [hN, kR, b0]
  split <;> split <;> omega
theorem ew_n : ∀ (f : Nat) (h : Int), evW f h 0 = [] ∧ ewH f h 0 = h
  | 0, _ => ⟨rfl, rfl⟩
  | f + 1, h => ⟨if_neg (by decide), if_neg (by decide)⟩
theorem q00 (k : Nat) : ∀ j : Nat, j < 0 → ([k] : List Nat)[j]? = some j := fun j hj => absurd hj (by omega)
theorem DenImp.unlit {k : IntKind} {n : Int} : DenImp (.lit k n) (.int k n) := fun w0 O ρ v d => by
  obtain ⟨d, h⟩ := denV_cell d (by simp) rfl
  exact den_cell rfl h (by simpa [DenC] using d)
theorem ew_step {w0 : World} {O : Go.Vx.Own} (hgl : GlobOk ge w0 O) (h n : Int) (h0 : 0 ≤ h ∧ h ≤ 64) (hn : 0 < n) (hn2 : n ≤ 131072) (l : List (List Int)) (hl : l.length ≤ 1000000) : SimC ge.P w0 O 47 ewBody (ewS h n) [.rows evK l] .normal (ewS (hN h n) (n - kR h n)) [.rows evK (l ++ evR h n)] 0 := by
  have z1 : decide (0 < n) = true := decide_eq_true hn
  by_cases c : h = 64
  · have b : b0 h = 0 := if_pos c
    have z2 : decide (h = 64) = true := decide_eq_true c
    by_cases d : n < 64
    · have k : kR h n = n := by simp only [kR, b]; exact if_pos (by omega)
      have e : l ++ evR h n = l ++ [[1, 1], [1, bI (decide (h = 64))]] ++ [[3, 31]] ++ [[2, 0], [2, n]] := by
        simp only [evR, if_pos c, b, k, List.append_assoc]
      have hr := ew_11 h n l
      rw [← e] at hr
      rw [hN, b, k]
      refine SimC.run (B' := [.rows evK (l ++ evR h n)]) ge_ok (by decide) hr ?_ (by decide) (q00 _) (by decide) (by simp) hgl
      have := evR_len h n
      simp only [allC_cons, allC_nil, and_true, List.length_append, List.length_cons, List.length_nil]
      exact ⟨z1, by omega, z2, by omega, decide_eq_true d, by omega, fits_of (by omega) (by omega), fits_of (by omega) (by omega)⟩
    · have k : kR h n = 64 := by simp only [kR, b]; exact if_neg (by omega)
      have e : l ++ evR h n = l ++ [[1, 1], [1, bI (decide (h = 64))]] ++ [[3, 31]] ++ [[2, 0], [2, 64]] := by
        simp only [evR, if_pos c, b, k, List.append_assoc]
      have hr := ew_10 h n l
      rw [← e] at hr
      rw [hN, b, k]
      refine SimC.weakenI (S1 := ewKeep.zip [.lit .i64 64, .int .i64 (n - 64), .own 0]) (SimC.run (B' := [.rows evK (l ++ evR h n)]) ge_ok (by decide) hr ?_ (by decide) (q00 _) (by decide) (by simp) hgl) fun y hy => ?_
      · have := evR_len h n
        simp only [allC_cons, allC_nil, and_true, List.length_append, List.length_cons, List.length_nil]
        exact ⟨z1, by omega, z2, by omega, decide_eq_false d, by omega, fits_of (by omega) (by omega)⟩
      · simp only [List.zip_cons_cons, List.zip_nil_right, List.mem_cons, List.not_mem_nil, or_false] at hy
        rcases hy with rfl | rfl | rfl
        · exact ⟨(by decide : 0 < 65535), DenImp.unlit⟩
        · exact ⟨(by decide : 1 < 65535), DenImp.refl _⟩
        · exact ⟨(by decide : 6 < 65535), DenImp.refl _⟩
  · have b : b0 h = h := if_neg c
    have z2 : decide (h = 64) = false := decide_eq_false c
    by_cases d : n < 64 - h
    · have k : kR h n = n := by simp only [kR, b]; exact if_pos (by omega)
      have e : l ++ evR h n = l ++ [[1, 1], [1, bI (decide (h = 64))]] ++ [[2, h], [2, n]] := by
        simp only [evR, if_neg c, b, k, List.append_assoc, List.nil_append]
      have hr := ew_01 h n l
      rw [← e] at hr
      rw [hN, b, k]
      refine SimC.run (B' := [.rows evK (l ++ evR h n)]) ge_ok (by decide) hr ?_ (by decide) (q00 _) (by decide) (by simp) hgl
      have := evR_len h n
      simp only [allC_cons, allC_nil, and_true, List.length_append, List.length_cons, List.length_nil]
      exact ⟨z1, by omega, z2, fits_of (by omega) (by omega), decide_eq_true d, by omega, fits_of (by omega) (by omega), fits_of (by omega) (by omega)⟩
    · have k : kR h n = 64 - h := by simp only [kR, b]; exact if_neg (by omega)
      have e : l ++ evR h n = l ++ [[1, 1], [1, bI (decide (h = 64))]] ++ [[2, h], [2, 64 - h]] := by
        simp only [evR, if_neg c, b, k, List.append_assoc, List.nil_append]
      have hr := ew_00 h n l
      rw [← e] at hr
      rw [hN, b, k]
      refine SimC.run (B' := [.rows evK (l ++ evR h n)]) ge_ok (by decide) hr ?_ (by decide) (q00 _) (by decide) (by simp) hgl
      have := evR_len h n
      simp only [allC_cons, allC_nil, and_true, List.length_append, List.length_cons, List.length_nil]
      exact ⟨z1, by omega, z2, fits_of (by omega) (by omega), decide_eq_false d, by omega, fits_of (by omega) (by omega), fits_of (by omega) (by omega)⟩
theorem ew_sim {w0 : World} {O : Go.Vx.Own} (hgl : GlobOk ge w0 O) : ∀ (f : Nat) (h n : Int) (l : List (List Int)), n.toNat ≤ f → 0 ≤ n → n ≤ 131072 → 0 ≤ h ∧ h ≤ 64 → l.length + 5 * n.toNat ≤ 1000000 →
    SimC ge.P w0 O 47 (.loop ewBody) (ewS h n) [.rows evK l] (.exit 0) [(0, .int .i64 (ewH f h n)), (6, .own 0)] [.rows evK (l ++ evW f h n)] 0
  | f, h, n, l, hf, hn, hm, h0, hl => by
    by_cases c : n = 0
    · subst c
      rw [(ew_n f h).1, (ew_n f h).2, List.append_nil]
      exact SimC.done (SimC.weaken (SimC.run (B' := [.rows evK l]) ge_ok (by decide) (ew_end h 0 l) (by simp only [allC_cons, allC_nil, and_true]; decide) (by decide) (q00 _) (by decide) (by simp) hgl) (sub_mkT (by simp; exact ⟨rfl, rfl⟩))) (by simp)
    · obtain ⟨f, rfl⟩ : ∃ k, f = k + 1 := ⟨f - 1, by omega⟩
      have k := kR_bd h0 (show 0 < n by omega)
      have hr := ew_step hgl h n h0 (by omega) hm l (by omega)
      have r := ew_sim hgl f (hN h n) (n - kR h n) (l ++ evR h n) (by omega) (by omega) (by omega) ⟨k.2.2.1, k.2.2.2⟩ (by have := evR_len h n; rw [List.length_append]; omega)
      have e1 : evW (f + 1) h n = evR h n ++ evW f (hN h n) (n - kR h n) := by simp only [evW]; exact if_pos (by omega)
      have e2 : ewH (f + 1) h n = ewH f (hN h n) (n - kR h n) := by simp only [ewH]; exact if_pos (by omega)
      rw [e1, e2, ← List.append_assoc]
      exact SimC.next (Nat.le_refl _) hr r
def ewG : LoopF := fun vals B => match vals, B with
  | [.int .i64 h, .int .i64 n, .raw (.slice none 0 0)], [] => some ([(0, .int .i64 (ewH n.toNat h n)), (6, .own 0)], [.rows evK (evW n.toNat h n)], [0 ≤ h ∧ h ≤ 64, 0 ≤ n ∧ n ≤ 131072])
  | _, _ => none
theorem ew_loop : LoopGood ge 47 (.loop ewBody) ewKeep 0 (.exit 0) (mkLoopN ewG) := by
  refine LoopGood.mkN (by decide) fun vals B S' B' C hG hC hlen w0 O hgl => ?_
  clear hlen
  unfold ewG at hG
  split at hG
  · rename_i h n
    simp only [Option.some.injEq, Prod.mk.injEq] at hG
    obtain ⟨rfl, rfl, rfl⟩ := hG
    simp only [allC_cons, allC_nil, and_true] at hC
    refine SimC.adoptS (.rows evK []) 6 rfl rfl (by simp) (by simp) ?_
    exact ew_sim hgl n.toNat h n [] (Nat.le_refl _) hC.2.1 hC.2.2 hC.1 (by simp; omega)
  · simp at hG
theorem ew_run (h n : Int) : runF ge 300 [.loop 2 ewKeep 0 (.exit 0) (mkLoopN ewG)] 26 [.int .i64 h, .int .i64 n] [] [2] = some (.tuple [.own 0, .int .i64 (ewH n.toNat h n)], [some (.rows evK (evW n.toNat h n ++ [[1, 0]]))], [LoopGood ge 47 (.loop ewBody) ewKeep 0 (.exit 0) (mkLoopN ewG), 0 ≤ h ∧ h ≤ 64, 0 ≤ n ∧ n ≤ 131072, (evW n.toNat h n ++ [[1, 0]]).length * 16 ≤ 2 ^ 47]) :=
  run_parts (by kernel_rfl) (by kernel_rfl) (by kernel_rfl)
abbrev evX (h n : Int) : List (List Int) := evW n.toNat h n ++ [[1, 0]]
theorem evX_len (h n : Int) : (evX h n).length ≤ 5 * n.toNat + 1 := by
  have := evW_len n.toNat h n
  rw [List.length_append]; simp; omega
def F26 : SumF := fun args B => match args, B with
  | [.int .i64 h, .int .i64 n], [] => some { val := .tuple [.own 0, .int .i64 (ewH n.toNat h n)], new := [.rows evK (evX h n)], C := [0 ≤ h ∧ h ≤ 64, 0 ≤ n ∧ n ≤ 131072] }
  | _, _ => none
theorem acc26 : Acc ge 26 F26 := by
  intro args B out hh hC
  unfold F26 at hh
  split at hh
  · rename_i h n
    rename_i h5
    simp only [Option.some.injEq] at hh; subst hh
    simp only [allC_cons, allC_nil, and_true] at hC
    have hL := ew_loop
    have hl : (evW n.toNat h n ++ [[1, 0]]).length ≤ 5 * n.toNat + 1 := evX_len h n
    refine FnOk.val (v := .tuple [.own 0, .int .i64 (ewH n.toNat h n)]) (C := []) (rd := []) ?_ (fun _ _ _ _ h => h)
    exact FnOk.run (out := { val := .tuple [.own 0, .int .i64 (ewH n.toNat h n)], new := [.rows evK (evX h n)] }) (new := [2]) ge_ok (ew_run h n) (by simp only [allC_cons, allC_nil, and_true]; exact ⟨hL, hC.1, hC.2, by omega⟩) (by simp [upto]) rfl (by simp) (by simp) (fun j hj => by
      match j, hj with
      | 0, _ => rfl)
  · simp at hh
end Go.Proofs.Tryd

namespace Go.Proofs.Tryd
open Go Go.Vx
/-! ### long -/
theorem qL0 (k : List Nat) : ∀ j : Nat, j < 0 → k[j]? = some j := fun j hj => absurd hj (Nat.not_lt_zero j)
abbrev lgKeep : List Nat := [0, 3, 4]
noncomputable abbrev lgBody : Code := bodyAt Tryd.prog 27 5
noncomputable abbrev lgO (d : Nat → List Int) (m : Nat) (n i : Int) : List SV := [.ro 1 m (rowL d), .int .i64 n, .int .i64 i]
noncomputable abbrev lgS (d : Nat → List Int) (m : Nat) (n : Int) (i : Nat) : List (Nat × SV) := lgKeep.zip (lgO d m n (i : Int))
abbrev lgC (m i : Nat) (n : Int) (e : List Int) (b : Bool) : List Prop := [Fits .i64 (m : Int), decide ((i : Int) < (m : Int)) = true, Fits .i64 (n + (e.length : Int)), Fits .i64 (e.length : Int), (0 : Int) ≤ (i : Int) ∧ (i : Int) < (m : Int), decide (131072 < n + (e.length : Int)) = b]
theorem lg_go (d : Nat → List Int) (m i : Nat) (n : Int) : runC g1 300 23 [.br true, .br false] lgBody (lgS d m n i) [] lgKeep [] =
    some (.normal, lgO d m (n + ((d i).length : Int)) ((i : Int) + 1), [], lgC m i n (d i) false ++ [Fits .i64 ((i : Int) + 1)]) :=
  r3_parts4 (by kernel_rfl) (by kernel_rfl) (by kernel_rfl) (by kernel_rfl)
theorem lg_long (d : Nat → List Int) (m i : Nat) (n : Int) : runC g1 300 23 [.br true, .br true] lgBody (lgS d m n i) [] [2] [] =
    some (.ret, [.bool true], [], lgC m i n (d i) true) :=
  r3_parts4 (by kernel_rfl) (by kernel_rfl) (by kernel_rfl) (by kernel_rfl)
theorem lg_end (d : Nat → List Int) (m i : Nat) (n : Int) : runC g1 300 23 [.br false] lgBody (lgS d m n i) [] lgKeep [] =
    some (.exit 0, lgO d m n (i : Int), [], [Fits .i64 (m : Int), decide ((i : Int) < (m : Int)) = false]) :=
  r3_parts4 (by kernel_rfl) (by kernel_rfl) (by kernel_rfl) (by kernel_rfl)
noncomputable abbrev lC (f : Nat → SV) (m : Nat) : List Prop := [f = rowL (lOf f), Fits .i64 (m : Int), LB (lOf f) m]
noncomputable def lgG0 : LoopF := fun vals B => match vals, B with
  | [.ro 1 m f, .int .i64 0, .int .i64 0], [] => some ([], [], lC f m ++ [stp (lOf f) m = m])
  | _, _ => none
noncomputable def lgG1 : LoopF := fun vals B => match vals, B with
  | [.ro 1 m f, .int .i64 0, .int .i64 0], [] => some ([(2, .bool true)], [], lC f m ++ [stp (lOf f) m < m])
  | _, _ => none
theorem lgC_ok {m i : Nat} {x e : List Int} {b : Bool} (Fm : Fits .i64 (m : Int)) (hi : i < m) (hx : x.length ≤ 131072) (he : e.length ≤ 140737488351232) (hb : decide (131072 < x.length + e.length) = b) : AllC (lgC m i (x.length : Int) e b) := by
  simp only [lgC, allC_cons, allC_nil, and_true]
  refine ⟨Fm, decide_eq_true (by omega), fits_of (by omega) (by omega), fits_of (by omega) (by omega), ⟨by omega, by omega⟩, ?_⟩
  rw [← hb]
  exact decide_eq_decide.2 (by omega)
theorem lg_round {w0 : World} {O : Go.Vx.Own} (hgl : GlobOk g1 w0 O) (d : Nat → List Int) (m : Nat) (Fm : Fits .i64 (m : Int)) (hl : LB d m) (i : Nat) (hi : i < stp d m) :
    SimC g1.P w0 O 23 lgBody (lgS d m ((xZ d i).length : Int) i) [] .normal (lgS d m ((xZ d (i + 1)).length : Int) (i + 1)) [] 0 := by
  have hle := stp_le d m
  have hs := stp_lt hi
  have hx := xZ_len (d := d) (m := m) i (by omega)
  have hm : (m : Int) ≤ 9223372036854775807 := Fm.2
  have e : ((xZ d (i + 1)).length : Int) = ((xZ d i).length : Int) + ((d i).length : Int) := by
    simp only [xZ, List.length_append]; omega
  rw [e]
  refine SimC.run (B' := []) g1_ok (by decide) (lg_go d m i _) (allC_append.2 ⟨lgC_ok Fm (by omega) hx (hl i (by omega)) (decide_eq_false (by omega)), ?_⟩) (by decide) (qL0 _) (by decide) (by simp) hgl
  simp only [allC_cons, allC_nil, and_true]
  exact fits_of (by omega) (by omega)
theorem lg_loop0 : LoopGood g1 23 (.loop lgBody) lgKeep 0 (.exit 0) (mkLoopN lgG0) := by
  refine LoopGood.mkN (by decide) fun vals B S' B' C hG hC hlen w0 O hgl => ?_
  clear hlen
  unfold lgG0 at hG
  split at hG
  · rename_i m f
    simp only [Option.some.injEq, Prod.mk.injEq] at hG
    obtain ⟨rfl, rfl, rfl⟩ := hG
    simp only [lC, allC_append, allC_cons, allC_nil, and_true] at hC
    obtain ⟨⟨hf, Fm, hl⟩, hN⟩ := hC
    generalize lOf f = d at *
    rw [hf]
    clear hf
    show SimC _ _ _ _ _ (lgS d m ((xZ d 0).length : Int) 0) [] _ _ _ _
    refine SimC.iter (g := g1) (e := .exit 0) (S := fun i => lgS d m ((xZ d i).length : Int) i) (B := fun _ => []) (N := m) (fun i hi => lg_round hgl d m Fm hl i (by omega)) ?_ (by simp) 0 (by omega)
    exact SimC.weaken (SimC.run (B' := []) g1_ok (by decide) (lg_end d m m _) (by simp only [allC_cons, allC_nil, and_true]; exact ⟨Fm, decide_eq_false (by omega)⟩) (by decide) (qL0 _) (by decide) (by simp) hgl) (sub_mkT (by simp))
  · simp at hG
theorem lg_loop1 : LoopGood g1 23 (.loop lgBody) lgKeep 0 .ret (mkLoopN lgG1) := by
  refine LoopGood.mkN (by decide) fun vals B S' B' C hG hC hlen w0 O hgl => ?_
  clear hlen
  unfold lgG1 at hG
  split at hG
  · rename_i m f
    simp only [Option.some.injEq, Prod.mk.injEq] at hG
    obtain ⟨rfl, rfl, rfl⟩ := hG
    simp only [lC, allC_append, allC_cons, allC_nil, and_true] at hC
    obtain ⟨⟨hf, Fm, hl⟩, hN⟩ := hC
    generalize lOf f = d at *
    rw [hf]
    clear hf
    show SimC _ _ _ _ _ (lgS d m ((xZ d 0).length : Int) 0) [] _ _ _ _
    refine SimC.iter (g := g1) (e := .ret) (S := fun i => lgS d m ((xZ d i).length : Int) i) (B := fun _ => []) (N := stp d m) (fun i hi => lg_round hgl d m Fm hl i hi) ?_ (by simp) 0 (by omega)
    exact SimC.weaken (SimC.run (B' := []) g1_ok (by decide) (lg_long d m (stp d m) _) (lgC_ok Fm hN (xZ_len _ (Nat.le_refl _)) (hl _ hN) (decide_eq_true (stp_at hN))) (by decide) (qL0 _) (by decide) (by simp) hgl) (sub_mkT (by simp; exact rfl))
  · simp at hG
theorem long_run0 (d : Nat → List Int) (m : Nat) : runF g1 900 [.br false, .loop 5 lgKeep 0 (.exit 0) (mkLoopN lgG0)] 27 [.ro 1 m (rowL d)] [] [] =
    some (.bool false, [], [Fits .i64 (m : Int), decide ((400 : Int) < (m : Int)) = false, LoopGood g1 23 (.loop lgBody) lgKeep 0 (.exit 0) (mkLoopN lgG0)] ++ (lC (rowL d) m ++ [stp d m = m])) :=
  run_parts (by kernel_rfl) (by kernel_rfl) (by kernel_rfl)
theorem long_run1 (d : Nat → List Int) (m : Nat) : runF g1 900 [.br false, .loop 5 lgKeep 0 .ret (mkLoopN lgG1)] 27 [.ro 1 m (rowL d)] [] [] =
    some (.bool true, [], [Fits .i64 (m : Int), decide ((400 : Int) < (m : Int)) = false, LoopGood g1 23 (.loop lgBody) lgKeep 0 .ret (mkLoopN lgG1)] ++ (lC (rowL d) m ++ [stp d m < m])) :=
  run_parts (by kernel_rfl) (by kernel_rfl) (by kernel_rfl)
theorem long_run2 (d : Nat → List Int) (m : Nat) : runF g1 900 [.br true] 27 [.ro 1 m (rowL d)] [] [] =
    some (.bool true, [], [Fits .i64 (m : Int), decide ((400 : Int) < (m : Int)) = true]) :=
  run_parts (by kernel_rfl) (by kernel_rfl) (by kernel_rfl)
noncomputable def F27 : SumF := fun args B => match args, B with
  | [.ro 1 m f], [] => some { val := .sbool (decide (400 < m ∨ stp (lOf f) m < m)), C := lC f m }
  | _, _ => none
theorem acc27 : Acc g1 27 F27 := by
  intro args B out h hC
  unfold F27 at h
  split at h
  · rename_i m f
    simp only [Option.some.injEq] at h; subst h
    have hC2 := hC
    simp only [lC, allC_cons, allC_nil, and_true] at hC2
    obtain ⟨hf, Fm, hl⟩ := hC2
    generalize hd : lOf f = d at *
    have hc : AllC (lC (rowL d) m) := by
      simp only [lC, allC_cons, allC_nil, and_true]; exact ⟨rfl, Fm, hl⟩
    have hL0 := lg_loop0
    have hL1 := lg_loop1
    rw [hf]
    have hle := stp_le d m
    by_cases h4 : 400 < m
    · exact FnOk.toSb (b := true) (FnOk.pure g1_ok (long_run2 d m) (by simp only [allC_cons, allC_nil, and_true]; exact ⟨Fm, decide_eq_true (by omega)⟩)) (decide_eq_true (.inl h4)).symm
    · have h0 : decide ((400 : Int) < (m : Int)) = false := decide_eq_false (by omega)
      by_cases hs : stp d m < m
      · refine FnOk.toSb (b := true) (FnOk.pure g1_ok (long_run1 d m) ?_) (decide_eq_true (.inr hs)).symm
        refine allC_append.2 ⟨?_, allC_append.2 ⟨hc, ?_⟩⟩
        · simp only [allC_cons, allC_nil, and_true]; exact ⟨Fm, h0, hL1⟩
        · simp only [allC_cons, allC_nil, and_true]; exact hs
      · refine FnOk.toSb (b := false) (FnOk.pure g1_ok (long_run0 d m) ?_) (decide_eq_false (by omega)).symm
        refine allC_append.2 ⟨?_, allC_append.2 ⟨hc, ?_⟩⟩
        · simp only [allC_cons, allC_nil, and_true]; exact ⟨Fm, h0, hL0⟩
        · simp only [allC_cons, allC_nil, and_true]; omega
  · simp at h

/-! ### stands, of constant lists -/
abbrev srO (w l : List Int) (i : Int) : List SV := [.roi .u8 w, .roi .u8 l, .int .i64 i]
abbrev srS (w l : List Int) (i : Nat) : List (Nat × SV) := sdKeep.zip (srO w l (i : Int))
theorem sr_go1 (i : Nat) (l w : List Int) : runC g1 300 44 [.br true, .br true, .br false, .br false, .br false] sdBody (srS w l i) [] sdKeep [] =
    some (.normal, srO w l ((i : Int) + 1), [], [Fits .i64 (w.length : Int), decide ((i : Int) < (w.length : Int)) = true, decide ((l.length : Int) ≤ (i : Int)) = false, Fits .i64 (l.length : Int), (!decide (w.getD i 0 = l.getD i 0)) = false, (0 : Int) ≤ (i : Int) ∧ (i : Int) < (l.length : Int), (0 : Int) ≤ (i : Int) ∧ (i : Int) < (w.length : Int), decide ((i : Int) < (l.length : Int)) = true, Fits .i64 (l.length : Int), Fits .i64 ((i : Int) + 1)]) :=
  r3_parts4 (by kernel_rfl) (by kernel_rfl) (by kernel_rfl) (by kernel_rfl)
theorem sr_go0 (i : Nat) (l w : List Int) : runC g1 300 44 [.br true, .br false, .br true, .br false, .br false] sdBody (srS w l i) [] sdKeep [] =
    some (.normal, srO w l ((i : Int) + 1), [], [Fits .i64 (w.length : Int), decide ((i : Int) < (w.length : Int)) = true, Fits .i64 (161 + (i : Int).tmod 7), (0 : Int) ≤ (i : Int) ∧ (i : Int) < (w.length : Int), decide ((l.length : Int) ≤ (i : Int)) = true, Fits .i64 (l.length : Int), decide ((i : Int) < (l.length : Int)) = false, Fits .i64 (l.length : Int), (!decide (w.getD i 0 = markN i)) = false, Fits .i64 ((i : Int) + 1)]) :=
  r3_parts4 (by kernel_rfl) (by kernel_rfl) (by kernel_rfl) (by kernel_rfl)
theorem sr_end (i : Nat) (l w : List Int) : runC g1 300 44 [.br false] sdBody (srS w l i) [] sdKeep [] =
    some (.exit 0, srO w l (i : Int), [], [Fits .i64 (w.length : Int), decide ((i : Int) < (w.length : Int)) = false]) :=
  r3_parts4 (by kernel_rfl) (by kernel_rfl) (by kernel_rfl) (by kernel_rfl)
def srG : LoopF := fun vals B => match vals, B with
  | [.roi K w, .roi K2 l, .int .i64 0], [] => match sameK K .u8, sameK K2 .u8 with
    | true, true => some ([], [], [l.length ≤ 1000000000, w = roomL l])
    | _, _ => none
  | _, _ => none
theorem sr_loop : LoopGood g1 44 (.loop sdBody) sdKeep 0 (.exit 0) (mkLoopN srG) := by
  refine LoopGood.mkN (by decide) fun vals B S' B' C hG hC hlen w0 O hgl => ?_
  clear hlen
  unfold srG at hG
  split at hG
  · rename_i K w K2 l
    split at hG
    · rename_i hK hK2
      obtain rfl := kidx_inj hK
      obtain rfl := kidx_inj hK2
      simp only [Option.some.injEq, Prod.mk.injEq] at hG
      obtain ⟨rfl, rfl, rfl⟩ := hG
      simp only [allC_cons, allC_nil, and_true] at hC
      obtain ⟨h3, hw⟩ := hC
      have hl : w.length = l.length + 70 := by rw [hw, roomL_len]
      have F1 : Fits .i64 (w.length : Int) := fits_of (by omega) (by omega)
      have F3 : Fits .i64 (l.length : Int) := fits_of (by omega) (by omega)
      refine SimC.iter (g := g1) (S := srS w l) (B := fun _ => []) (N := w.length) (fun i hi => ?_) ?_ (by simp) 0 (by omega)
      · have F2 : Fits .i64 ((i : Int) + 1) := fits_of (by omega) (by omega)
        have e : w.getD i 0 = if i < l.length then l.getD i 0 else markN i := by
          rw [hw]; exact roomL_get l (by omega)
        by_cases c : i < l.length
        · rw [if_pos c] at e
          refine SimC.run (B' := []) g1_ok (by decide) (sr_go1 i l w) ?_ (by decide) (qL0 _) (by decide) (by simp) hgl
          simp only [allC_cons, allC_nil, and_true]
          exact ⟨F1, decide_eq_true (by omega), decide_eq_false (by omega), F3, by rw [decide_eq_true e]; rfl, ⟨by omega, by omega⟩, ⟨by omega, by omega⟩, decide_eq_true (by omega), F3, F2⟩
        · rw [if_neg c] at e
          refine SimC.run (B' := []) g1_ok (by decide) (sr_go0 i l w) ?_ (by decide) (qL0 _) (by decide) (by simp) hgl
          simp only [allC_cons, allC_nil, and_true]
          exact ⟨F1, decide_eq_true (by omega), tmod_fits i, ⟨by omega, by omega⟩, decide_eq_true (by omega), F3, decide_eq_false (by omega), F3, by rw [decide_eq_true e]; rfl, F2⟩
      · exact SimC.weaken (SimC.run (B' := []) g1_ok (by decide) (sr_end w.length l w) (by simp only [allC_cons, allC_nil, and_true]; exact ⟨F1, decide_eq_false (by omega)⟩) (by decide) (qL0 _) (by decide) (by simp) hgl) (fun t => .inr (by simp [mkT, tget, Tr.get_lf]))
    · simp at hG
  · simp at hG
theorem sr_run (l w : List Int) : runF g1 300 [.loop 2 sdKeep 0 (.exit 0) (mkLoopN srG)] 20 [.roi .u8 w, .roi .u8 l] [] [] =
    some (.bool true, [], [LoopGood g1 44 (.loop sdBody) sdKeep 0 (.exit 0) (mkLoopN srG), l.length ≤ 1000000000, w = roomL l]) :=
  run_parts (by kernel_rfl) (by kernel_rfl) (by kernel_rfl)
def F20r : SumF := fun args B => match args, B with
  | [.roi K w, .roi K2 l], [] => match sameK K .u8, sameK K2 .u8 with
    | true, true => some { val := .sbool true, C := [l.length ≤ 1000000000, w = roomL l] }
    | _, _ => none
  | _, _ => none
theorem acc20r : Acc g1 20 F20r := by
  intro args B out h hC
  unfold F20r at h
  split at h
  · rename_i K w K2 l
    split at h
    · rename_i hK hK2
      obtain rfl := kidx_inj hK
      obtain rfl := kidx_inj hK2
      simp only [Option.some.injEq] at h; subst h
      have hL := sr_loop
      exact FnOk.toSb (b := true) (FnOk.pure g1_ok (sr_run l w) (allC_cons.2 ⟨hL, hC⟩)) rfl
    · simp at h
  · simp at h
/-! ### joined -/
noncomputable abbrev pC (f : Nat → SV) (m : Nat) : List Prop := [f = rowL (lOf f), m ≤ 1000, ∀ i, i < m → (lOf f i).length ≤ 131072]
abbrev jnKeep : List Nat := [0, 3, 4]
noncomputable abbrev jnBody : Code := bodyAt Tryd.prog 29 3
noncomputable abbrev jnO (d : Nat → List Int) (m : Nat) (i : Int) : List SV := [.ro 1 m (rowL d), .own 0, .int .i64 i]
noncomputable abbrev jnS (d : Nat → List Int) (m i : Nat) : List (Nat × SV) := jnKeep.zip (jnO d m (i : Int))
theorem jn_go (d : Nat → List Int) (m i : Nat) (x : List Int) : runC g1 300 18 [.br true] jnBody (jnS d m i) [.ints .u8 x] jnKeep [1] =
    some (.normal, jnO d m ((i : Int) + 1), [some (.ints .u8 (x ++ d i))], [Fits .i64 (m : Int), decide ((i : Int) < (m : Int)) = true, (x ++ d i).length * 1 ≤ 2 ^ 47, (0 : Int) ≤ (i : Int) ∧ (i : Int) < (m : Int), Fits .i64 ((i : Int) + 1)]) :=
  r3_parts4 (by kernel_rfl) (by kernel_rfl) (by kernel_rfl) (by kernel_rfl)
theorem jn_end (d : Nat → List Int) (m i : Nat) (x : List Int) : runC g1 300 18 [.br false] jnBody (jnS d m i) [.ints .u8 x] jnKeep [0] =
    some (.exit 0, jnO d m (i : Int), [some (.ints .u8 x)], [Fits .i64 (m : Int), decide ((i : Int) < (m : Int)) = false]) :=
  r3_parts4 (by kernel_rfl) (by kernel_rfl) (by kernel_rfl) (by kernel_rfl)
noncomputable def jnG : LoopF := fun vals B => match vals, B with
  | [.ro 1 m f, .raw (.slice none 0 0), .int .i64 0], [] => some ([(3, .own 0)], [.ints .u8 (xZ (lOf f) m)], pC f m)
  | _, _ => none
theorem xZ_le {d : Nat → List Int} {m : Nat} (hl : ∀ i, i < m → (d i).length ≤ 131072) : ∀ i, i ≤ m → (xZ d i).length ≤ 131072 * i
  | 0, _ => by simp [xZ]
  | i + 1, h => by
    have := xZ_le hl i (by omega)
    have := hl i (by omega)
    simp only [xZ, List.length_append]; omega
theorem jn_loop : LoopGood g1 18 (.loop jnBody) jnKeep 0 (.exit 0) (mkLoopN jnG) := by
  refine LoopGood.mkN (by decide) fun vals B S' B' C hG hC hlen w0 O hgl => ?_
  clear hlen
  unfold jnG at hG
  split at hG
  · rename_i m f
    simp only [Option.some.injEq, Prod.mk.injEq] at hG
    obtain ⟨rfl, rfl, rfl⟩ := hG
    simp only [pC, allC_cons, allC_nil, and_true] at hC
    obtain ⟨hf, hm, hl⟩ := hC
    generalize lOf f = d at *
    rw [hf]
    clear hf
    have Fm : Fits .i64 (m : Int) := fits_of (by omega) (by omega)
    refine SimC.adoptS (.ints .u8 []) 3 rfl rfl (by simp) (by simp) ?_
    show SimC _ _ _ _ _ (jnS d m 0) [.ints .u8 (xZ d 0)] _ _ _ _
    refine SimC.iter (g := g1) (e := .exit 0) (S := fun i => jnS d m i) (B := fun i => [.ints .u8 (xZ d i)]) (N := m) (fun i hi => ?_) ?_ (by simp) 0 (by omega)
    · have h1 := xZ_le hl i (by omega)
      have h2 := hl i hi
      refine SimC.run (B' := [.ints .u8 (xZ d (i + 1))]) g1_ok (by decide) (jn_go d m i (xZ d i)) ?_ (by decide) (qL0 _) (by decide) (by simp) hgl
      simp only [allC_cons, allC_nil, and_true, List.length_append]
      exact ⟨Fm, decide_eq_true (by omega), by omega, ⟨by omega, by omega⟩, fits_of (by omega) (by omega)⟩
    · exact SimC.weaken (SimC.run (B' := [.ints .u8 (xZ d m)]) g1_ok (by decide) (jn_end d m m _) (by simp only [allC_cons, allC_nil, and_true]; exact ⟨Fm, decide_eq_false (by omega)⟩) (by decide) (qL0 _) (by decide) (by simp) hgl) (sub_mkT (by simp; exact rfl))
  · simp at hG
theorem jn_run (d : Nat → List Int) (m : Nat) : runF g1 300 [.loop 3 jnKeep 0 (.exit 0) (mkLoopN jnG)] 29 [.ro 1 m (rowL d)] [] [0] =
    some (.own 0, [some (.ints .u8 (xZ d m))], LoopGood g1 18 (.loop jnBody) jnKeep 0 (.exit 0) (mkLoopN jnG) :: pC (rowL d) m) :=
  run_parts (by kernel_rfl) (by kernel_rfl) (by kernel_rfl)
noncomputable def F29 : SumF := fun args B => match args, B with
  | [.ro 1 m f], [] => some { val := .own 0, new := [.ints .u8 (xZ (lOf f) m)], C := pC f m }
  | _, _ => none
theorem acc29 : Acc g1 29 F29 := by
  intro args B out h hC
  unfold F29 at h
  split at h
  · rename_i m f
    simp only [Option.some.injEq] at h; subst h
    have hC2 := hC
    simp only [pC, allC_cons, allC_nil, and_true] at hC2
    obtain ⟨hf, hm, hl⟩ := hC2
    generalize lOf f = d at *
    have hL := jn_loop
    rw [hf]
    exact FnOk.val (C := []) (rd := []) (FnOk.run (out := { val := .own 0, new := [.ints .u8 (xZ d m)] }) (new := [0]) g1_ok (jn_run d m) (allC_cons.2 ⟨hL, by simp only [pC, allC_cons, allC_nil, and_true]; exact ⟨rfl, hm, hl⟩⟩) (by simp [upto]) rfl (by simp) (by simp) (fun j hj => by
      match j, hj with
      | 0, _ => rfl)) (fun _ _ _ _ h => h)
  · simp at h
/-! ### lens -/
def lnL (d : Nat → List Int) : Nat → List Int
  | 0 => []
  | i + 1 => lnL d i ++ [((d i).length : Int)]
theorem lnL_len (d : Nat → List Int) : ∀ i, (lnL d i).length = i
  | 0 => rfl
  | i + 1 => by simp [lnL, lnL_len d i]
theorem lnL_get (d : Nat → List Int) : ∀ {m i : Nat}, i < m → (lnL d m).getD i 0 = ((d i).length : Int)
  | m + 1, i, h => by
    simp only [lnL]
    rw [List.getD_eq_getElem?_getD]
    by_cases c : i < m
    · rw [List.getElem?_append_left (by rw [lnL_len]; exact c), ← List.getD_eq_getElem?_getD]
      exact lnL_get d c
    · have e : i = m := by omega
      subst e
      rw [List.getElem?_append_right (by rw [lnL_len]; exact Nat.le_refl _), lnL_len]
      simp
noncomputable abbrev lnBody : Code := bodyAt Tryd.prog 31 3
theorem ln_go (d : Nat → List Int) (m i : Nat) (L : List Int) : runC g1 300 20 [.br true] lnBody (jnS d m i) [.ints .i64 L] jnKeep [2] =
    some (.normal, jnO d m ((i : Int) + 1), [some (.ints .i64 (L ++ [((d i).length : Int)]))], [Fits .i64 (m : Int), decide ((i : Int) < (m : Int)) = true, (L ++ [((d i).length : Int)]).length * 8 ≤ 2 ^ 47, Fits .i64 ((d i).length : Int), (0 : Int) ≤ (i : Int) ∧ (i : Int) < (m : Int), Fits .i64 ((i : Int) + 1)]) :=
  r3_parts4 (by kernel_rfl) (by kernel_rfl) (by kernel_rfl) (by kernel_rfl)
theorem ln_end (d : Nat → List Int) (m i : Nat) (L : List Int) : runC g1 300 20 [.br false] lnBody (jnS d m i) [.ints .i64 L] jnKeep [0] =
    some (.exit 0, jnO d m (i : Int), [some (.ints .i64 L)], [Fits .i64 (m : Int), decide ((i : Int) < (m : Int)) = false]) :=
  r3_parts4 (by kernel_rfl) (by kernel_rfl) (by kernel_rfl) (by kernel_rfl)
noncomputable def lnG : LoopF := fun vals B => match vals, B with
  | [.ro 1 m f, .raw (.slice none 0 0), .int .i64 0], [] => some ([(3, .own 0)], [.ints .i64 (lnL (lOf f) m)], pC f m)
  | _, _ => none
theorem ln_loop : LoopGood g1 20 (.loop lnBody) jnKeep 0 (.exit 0) (mkLoopN lnG) := by
  refine LoopGood.mkN (by decide) fun vals B S' B' C hG hC hlen w0 O hgl => ?_
  clear hlen
  unfold lnG at hG
  split at hG
  · rename_i m f
    simp only [Option.some.injEq, Prod.mk.injEq] at hG
    obtain ⟨rfl, rfl, rfl⟩ := hG
    simp only [pC, allC_cons, allC_nil, and_true] at hC
    obtain ⟨hf, hm, hl⟩ := hC
    generalize lOf f = d at *
    rw [hf]
    clear hf
    have Fm : Fits .i64 (m : Int) := fits_of (by omega) (by omega)
    refine SimC.adoptS (.ints .i64 []) 3 rfl rfl (by simp) (by simp) ?_
    show SimC _ _ _ _ _ (jnS d m 0) [.ints .i64 (lnL d 0)] _ _ _ _
    refine SimC.iter (g := g1) (e := .exit 0) (S := fun i => jnS d m i) (B := fun i => [.ints .i64 (lnL d i)]) (N := m) (fun i hi => ?_) ?_ (by simp) 0 (by omega)
    · have h1 := lnL_len d i
      have h2 := hl i hi
      refine SimC.run (B' := [.ints .i64 (lnL d (i + 1))]) g1_ok (by decide) (ln_go d m i (lnL d i)) ?_ (by decide) (qL0 _) (by decide) (by simp) hgl
      simp only [allC_cons, allC_nil, and_true, List.length_append, List.length_singleton]
      exact ⟨Fm, decide_eq_true (by omega), by omega, fits_of (by omega) (by omega), ⟨by omega, by omega⟩, fits_of (by omega) (by omega)⟩
    · exact SimC.weaken (SimC.run (B' := [.ints .i64 (lnL d m)]) g1_ok (by decide) (ln_end d m m _) (by simp only [allC_cons, allC_nil, and_true]; exact ⟨Fm, decide_eq_false (by omega)⟩) (by decide) (qL0 _) (by decide) (by simp) hgl) (sub_mkT (by simp; exact rfl))
  · simp at hG
theorem ln_run (d : Nat → List Int) (m : Nat) : runF g1 300 [.loop 3 jnKeep 0 (.exit 0) (mkLoopN lnG)] 31 [.ro 1 m (rowL d)] [] [0] =
    some (.own 0, [some (.ints .i64 (lnL d m))], LoopGood g1 20 (.loop lnBody) jnKeep 0 (.exit 0) (mkLoopN lnG) :: pC (rowL d) m) :=
  run_parts (by kernel_rfl) (by kernel_rfl) (by kernel_rfl)
noncomputable def F31 : SumF := fun args B => match args, B with
  | [.ro 1 m f], [] => some { val := .own 0, new := [.ints .i64 (lnL (lOf f) m)], C := pC f m }
  | _, _ => none
theorem acc31 : Acc g1 31 F31 := by
  intro args B out h hC
  unfold F31 at h
  split at h
  · rename_i m f
    simp only [Option.some.injEq] at h; subst h
    have hC2 := hC
    simp only [pC, allC_cons, allC_nil, and_true] at hC2
    obtain ⟨hf, hm, hl⟩ := hC2
    generalize lOf f = d at *
    have hL := ln_loop
    rw [hf]
    exact FnOk.val (C := []) (rd := []) (FnOk.run (out := { val := .own 0, new := [.ints .i64 (lnL d m)] }) (new := [0]) g1_ok (ln_run d m) (allC_cons.2 ⟨hL, by simp only [pC, allC_cons, allC_nil, and_true]; exact ⟨rfl, hm, hl⟩⟩) (by simp [upto]) rfl (by simp) (by simp) (fun j hj => by
      match j, hj with
      | 0, _ => rfl)) (fun _ _ _ _ h => h)
  · simp at h
end Go.Proofs.Tryd
