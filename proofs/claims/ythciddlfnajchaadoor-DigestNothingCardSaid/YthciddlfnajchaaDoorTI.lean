/- Accounts of this seat's functions: lemmas, no statement of their own. No conditions. -/
import Derived.Test.YthciddlfnajchaaDoorTH
namespace Go.Proofs.Tryd
open Go Go.Vx
/-! ### steps as rows -/
noncomputable abbrev rowY (p : Nat → Bool) (d : Nat → List Int) : Nat → SV := fun i => .agg [.sbool (p i), .roi .u8 (d i)]
def pOf (f : Nat → SV) (i : Nat) : Bool := match f i with | .agg [.sbool b, _] => b | _ => false
def dOf (f : Nat → SV) (i : Nat) : List Int := match f i with | .agg [_, .roi _ l] => l | _ => []
/-! ### DigestNothing: the loop -/
variable (p : Addr)
abbrev noKeep : List Nat := [0, 3, 4, 5, 6]
noncomputable abbrev noBody : Code := bodyAt Tryd.prog 4 7
noncomputable abbrev noO (q : Nat → Bool) (d : Nat → List Int) (m : Nat) (n i : Int) : List SV := [.ro 2 m (rowY q d), nilR, .ptr 0 0, .int .i64 n, .int .i64 i]
noncomputable abbrev noS (q : Nat → Bool) (d : Nat → List Int) (m : Nat) (n i : Int) : List (Nat × SV) := noKeep.zip (noO q d m n i)
noncomputable abbrev noB (a : Nat → Int) : List Body := [dgV nilR a]
abbrev stC (m i : Nat) (n : Int) (e : List Int) (b : Bool) : List Prop := [Fits .i64 (m : Int), decide ((i : Int) < (m : Int)) = true, (0 : Int) ≤ (i : Int) ∧ (i : Int) < (m : Int), Fits .i64 (131072 - n), Fits .i64 (e.length : Int), decide (131072 - n < (e.length : Int)) = b]
abbrev heC (a : Nat → Int) : List Prop := [0 ≤ a 74 ∧ a 74 ≤ 64]
abbrev wrC (i m : Nat) (n : Int) (e : List Int) (a : Nat → Int) : List Prop := [Fits .i64 (n + (e.length : Int)), Fits .i64 (e.length : Int), 0 ≤ n75 a 74 ∧ n75 a 74 ≤ 64, e.length ≤ 140737488355328]
abbrev suC (x : Nat → Int) : List Prop := [Fits .i64 ((n75 x 0).toNat : Int), 0 ≤ n75 x 74 ∧ n75 x 74 ≤ 64, 0 ≤ n75 x 0 ∧ n75 x 0 ≤ 32]
theorem no_go0 (q : Nat → Bool) (d : Nat → List Int) (m i : Nat) (n : Int) (a : Nat → Int) : runC (gn p) 600 69 [.br true, .br false, .br false] noBody (noS q d m n (i : Int)) (noB a) noKeep [0] =
    some (.normal, noO q d m (n + ((d i).length : Int)) ((i : Int) + 1), (noB (wrA (n75 a) (d i))).map some, stC m i n (d i) false ++ (wrC i m n (d i) a ++ [q i = false, (0 : Int) ≤ (i : Int) ∧ (i : Int) < (m : Int), Fits .i64 ((i : Int) + 1)])) :=
  r3_parts4 (by kernel_rfl) (by kernel_rfl) (by kernel_rfl) (by kernel_rfl)
theorem no_go1 (q : Nat → Bool) (d : Nat → List Int) (m i : Nat) (n : Int) (a : Nat → Int) : runC (gn p) 600 69 [.br true, .br false, .br true, .br false] noBody (noS q d m n (i : Int)) (noB a) noKeep [0] =
    some (.normal, noO q d m (n + ((d i).length : Int)) ((i : Int) + 1), (noB (wrA (n75 a) (d i))).map some, [Fits .i64 (m : Int), decide ((i : Int) < (m : Int)) = true, (0 : Int) ≤ (i : Int) ∧ (i : Int) < (m : Int), Fits .i64 (131072 - n), Fits .i64 ((d i).length : Int), decide (131072 - n < ((d i).length : Int)) = false, Fits .i64 (n + ((d i).length : Int)), Fits .i64 ((d i).length : Int), 0 ≤ n75 a 74 ∧ n75 a 74 ≤ 64, (d i).length ≤ 140737488355328, Fits .i64 ((n75 (wrA (n75 a) (d i)) 0).toNat : Int), 0 ≤ n75 (wrA (n75 a) (d i)) 74 ∧ n75 (wrA (n75 a) (d i)) 74 ≤ 64, 0 ≤ n75 (wrA (n75 a) (d i)) 0 ∧ n75 (wrA (n75 a) (d i)) 0 ≤ 32, q i = true, (0 : Int) ≤ (i : Int) ∧ (i : Int) < (m : Int), (!decide (((n75 (wrA (n75 a) (d i)) 0).toNat : Int) = 0)) = false, Fits .i64 ((i : Int) + 1)]) :=
  r3_parts4 (by kernel_rfl) (by kernel_rfl) (by kernel_rfl) (by kernel_rfl)
theorem no_long (q : Nat → Bool) (d : Nat → List Int) (m i : Nat) (n : Int) (a : Nat → Int) : runC (gn p) 600 69 [.br true, .br true] noBody (noS q d m n (i : Int)) (noB a) [2] [0] =
    some (.ret, [.bool true], (noB a).map some, stC m i n (d i) true) :=
  r3_parts4 (by kernel_rfl) (by kernel_rfl) (by kernel_rfl) (by kernel_rfl)
theorem no_end (q : Nat → Bool) (d : Nat → List Int) (m i : Nat) (n : Int) (a : Nat → Int) : runC (gn p) 600 69 [.br false] noBody (noS q d m n (i : Int)) (noB a) noKeep [0] =
    some (.exit 0, noO q d m n (i : Int), (noB a).map some, [Fits .i64 (m : Int), decide ((i : Int) < (m : Int)) = false]) :=
  r3_parts4 (by kernel_rfl) (by kernel_rfl) (by kernel_rfl) (by kernel_rfl)
/-! what was taken -/
def xZ (d : Nat → List Int) : Nat → List Int
  | 0 => []
  | i + 1 => xZ d i ++ d i
noncomputable def aZ (a : Nat → Int) (d : Nat → List Int) : Nat → (Nat → Int)
  | 0 => a
  | i + 1 => wrA (n75 (aZ a d i)) (d i)
/-- the first i below m at which P holds, or m -/
def firstI (P : Nat → Bool) : Nat → Nat
  | 0 => 0
  | m + 1 => if firstI P m < m then firstI P m else if P m then m else m + 1
theorem firstI_spec (P : Nat → Bool) : ∀ m, firstI P m ≤ m ∧ (∀ i, i < firstI P m → P i = false) ∧ (firstI P m < m → P (firstI P m) = true)
  | 0 => ⟨Nat.le_refl _, fun i hi => absurd hi (Nat.not_lt_zero i), fun h => absurd h (Nat.lt_irrefl 0)⟩
  | m + 1 => by
    obtain ⟨h1, h2, h3⟩ := firstI_spec P m
    by_cases c : firstI P m < m
    · have e : firstI P (m + 1) = firstI P m := by simp only [firstI]; rw [if_pos c]
      rw [e]
      exact ⟨by omega, h2, fun _ => h3 c⟩
    · have em : firstI P m = m := by omega
      cases hp : P m with
      | true =>
        have e : firstI P (m + 1) = m := by simp only [firstI]; rw [if_neg c, hp]; rfl
        rw [e]
        exact ⟨by omega, fun i hi => h2 i (by omega), fun _ => hp⟩
      | false =>
        have e : firstI P (m + 1) = m + 1 := by simp only [firstI]; rw [if_neg c, hp]; rfl
        rw [e]
        refine ⟨Nat.le_refl _, fun i hi => ?_, fun h => absurd h (Nat.lt_irrefl _)⟩
        by_cases ci : i < m
        · exact h2 i (by omega)
        · rw [show i = m by omega]; exact hp
def stp (d : Nat → List Int) (m : Nat) : Nat := firstI (fun i => decide (131072 < (xZ d i).length + (d i).length)) m
theorem stp_le (d : Nat → List Int) (m : Nat) : stp d m ≤ m := (firstI_spec _ m).1
theorem stp_lt {d : Nat → List Int} {m i : Nat} (h : i < stp d m) : (xZ d i).length + (d i).length ≤ 131072 := by
  have := (firstI_spec _ m).2.1 i h
  have := of_decide_eq_false this
  omega
theorem stp_at {d : Nat → List Int} {m : Nat} (h : stp d m < m) : 131072 < (xZ d (stp d m)).length + (d (stp d m)).length := of_decide_eq_true ((firstI_spec _ m).2.2 h)
theorem xZ_len {d : Nat → List Int} {m : Nat} : ∀ i, i ≤ stp d m → (xZ d i).length ≤ 131072
  | 0, _ => by simp [xZ]
  | i + 1, h => by
    have := stp_lt (show i < stp d m by omega)
    simp only [xZ, List.length_append]; omega
abbrev Bytes (l : List Int) : Prop := ∀ j, Byte (l.getD j 0)
theorem bytes_of {l : List Int} (h : ∀ n ∈ l, Fits .u8 n) : Bytes l := fun j => by
  rw [List.getD_eq_getElem?_getD]
  cases e : l[j]? with
  | none => exact ⟨by decide, by decide⟩
  | some v =>
    have := h v (List.mem_of_getElem? e)
    exact ⟨this.1, Int.lt_of_le_of_lt this.2 (by decide)⟩
abbrev YB (d : Nat → List Int) (m : Nat) : Prop := ∀ i, i < m → Bytes (d i)
theorem rowY_bytes {f : Nat → SV} {m : Nat} (h : f = rowY (pOf f) (dOf f)) (hf : ∀ i, i < m → factsC (f i)) : YB (dOf f) m := fun i hi => by
  have := hf i hi
  rw [h] at this
  have h2 : factsL [.sbool (pOf f i), .roi .u8 (dOf f i)] := this
  exact bytes_of h2.2.1
theorem stC_ok {m i : Nat} {n : Nat} {e : List Int} {b : Bool} (Fm : Fits .i64 (m : Int)) (hi : i < m) (hx : n ≤ 131072) (he : Fits .i64 (e.length : Int)) (hb : decide (131072 < n + e.length) = b) : AllC (stC m i n e b) := by
  simp only [stC, allC_cons, allC_nil, and_true]
  refine ⟨Fm, decide_eq_true (by omega), ⟨by omega, by omega⟩, fits_of (by omega) (by omega), he, ?_⟩
  rw [← hb]
  exact decide_eq_decide.2 (by omega)
/-! the size and what is held stay in their bounds -/
theorem flA_size (a : Nat → Int) : flA a 0 = a 0 := by
  show n75 (cntA a) 0 = a 0
  rw [n75_at (by omega)]; rfl
theorem ovA_size (a : Nat → Int) (l : List Int) : ovA a l 0 = a 0 := rfl
theorem wrF_size : ∀ (n : Nat) (a : Nat → Int) (l : List Int), wrF n a l 0 = a 0
  | 0, _, _ => rfl
  | n + 1, a, l => by
    simp only [wrF]
    by_cases c : l = []
    · rw [if_pos c]
    · rw [if_neg c, wrF_size n]
      unfold stepA
      rw [ovA_size]
      by_cases c6 : a 74 = 64
      · rw [if_pos c6, flA_size]
      · rw [if_neg c6]
theorem wrF_held : ∀ (n : Nat) (a : Nat → Int) (l : List Int), 0 ≤ a 74 ∧ a 74 ≤ 64 → 0 ≤ wrF n a l 74 ∧ wrF n a l 74 ≤ 64
  | 0, _, _, h => h
  | n + 1, a, l, h => by
    simp only [wrF]
    by_cases c : l = []
    · rw [if_pos c]; exact h
    · rw [if_neg c]; exact wrF_held n _ _ (step_held h)
/-- a size below 33, at most a block held -/
def OkA (a : Nat → Int) : Prop := (0 ≤ a 74 ∧ a 74 ≤ 64) ∧ 0 ≤ a 0 ∧ a 0 ≤ 32
theorem OkA.n {a : Nat → Int} (h : OkA a) : OkA (n75 a) := by
  unfold OkA; rw [n75_at (by omega), n75_at (by omega)]; exact h
theorem OkA.wr {a : Nat → Int} (h : OkA a) (l : List Int) : OkA (wrA a l) := ⟨wrF_held _ _ _ h.1, by unfold wrA; rw [wrF_size]; exact h.2⟩
theorem OkA.aZ {a : Nat → Int} (h : OkA a) (d : Nat → List Int) : ∀ i, OkA (aZ a d i)
  | 0 => h
  | i + 1 => (OkA.aZ h d i).n.wr _
theorem aZ_size {a : Nat → Int} (d : Nat → List Int) : ∀ i, aZ a d i 0 = a 0
  | 0 => rfl
  | i + 1 => by
    show wrF _ _ _ 0 = _
    rw [wrF_size, n75_at (by omega), aZ_size d i]
/-! ### DigestNothing: the loops -/
theorem no_round {w0 : World} {O : Go.Vx.Own} (hgl : GlobOk (gn p) w0 O) (q : Nat → Bool) (d : Nat → List Int) (m : Nat) (a : Nat → Int) (h0 : OkA a) (hz : a 0 = 0) (Fm : Fits .i64 (m : Int)) (hm : m ≤ 400) (i : Nat) (hi : i < stp d m) :
    SimC (gn p).P w0 O 69 noBody (noS q d m ((xZ d i).length : Int) (i : Int)) (noB (aZ a d i)) .normal (noS q d m ((xZ d (i + 1)).length : Int) ((i + 1 : Nat) : Int)) (noB (aZ a d (i + 1))) 1 := by
  have hle := stp_le d m
  have hl := stp_lt hi
  have hx := xZ_len (d := d) (m := m) i (by omega)
  have F1 : Fits .i64 ((i : Int) + 1) := fits_of (by omega) (by omega)
  have Fl : Fits .i64 ((d i).length : Int) := fits_of (by omega) (by omega)
  have M := (h0.aZ d i).n
  have M2 := (h0.aZ d (i + 1)).n
  have ap : ((xZ d (i + 1)).length : Int) = ((xZ d i).length : Int) + ((d i).length : Int) := by simp [xZ]
  have Fn : Fits .i64 (((xZ d i).length : Int) + ((d i).length : Int)) := fits_of (by omega) (by omega)
  have hs : AllC (stC m i ((xZ d i).length : Int) (d i) false) := stC_ok Fm (by omega) hx Fl (decide_eq_false (by omega))
  simp only [stC, allC_cons, allC_nil, and_true] at hs
  obtain ⟨s1, s2, s3, s4, s5, s6⟩ := hs
  rw [ap]
  cases hp : q i with
  | false =>
    refine SimC.run (B' := noB (aZ a d (i + 1))) (gn_ok p) (by decide) (no_go0 p q d m i ((xZ d i).length : Int) (aZ a d i)) (allC_append.2 ⟨?_, allC_append.2 ⟨?_, ?_⟩⟩) (by decide) i1 (by decide) (by simp) hgl
    · simp only [stC, allC_cons, allC_nil, and_true]; exact ⟨s1, s2, s3, s4, s5, s6⟩
    · simp only [wrC, allC_cons, allC_nil, and_true]; exact ⟨Fn, Fl, M.1, by omega⟩
    · simp only [allC_cons, allC_nil, and_true]; exact ⟨hp, s3, F1⟩
  | true =>
    have z : n75 (wrA (n75 (aZ a d i)) (d i)) 0 = 0 := by
      rw [n75_at (by omega)]
      show aZ a d (i + 1) 0 = 0
      rw [aZ_size, hz]
    refine SimC.run (B' := noB (aZ a d (i + 1))) (gn_ok p) (by decide) (no_go1 p q d m i ((xZ d i).length : Int) (aZ a d i)) ?_ (by decide) i1 (by decide) (by simp) hgl
    simp only [allC_cons, allC_nil, and_true]
    rw [z]
    exact ⟨s1, s2, s3, s4, s5, s6, Fn, Fl, M.1, by omega, fits_of (by decide) (by decide), M2.1, by decide, hp, s3, by decide, F1⟩
noncomputable def noG0 : LoopF := fun vals B => match vals, B with
  | [.ro 2 m f, .raw (.pointer none), .ptr 0 0, .int .i64 0, .int .i64 0], [.cells ms] => match dgAs ms, headK (ms.take 1) with
    | some la, .nil => some ([(3, nilR), (4, .ptr 0 0)], noB (aZ (atL la) (dOf f) m), [f = rowY (pOf f) (dOf f), Fits .i64 (m : Int), m ≤ 400, OkA (atL la), atL la 0 = 0, stp (dOf f) m = m])
    | _, _ => none
  | _, _ => none
noncomputable def noG1 : LoopF := fun vals B => match vals, B with
  | [.ro 2 m f, .raw (.pointer none), .ptr 0 0, .int .i64 0, .int .i64 0], [.cells ms] => match dgAs ms, headK (ms.take 1) with
    | some la, .nil => some ([(2, .bool true)], noB (aZ (atL la) (dOf f) (stp (dOf f) m)), [f = rowY (pOf f) (dOf f), Fits .i64 (m : Int), m ≤ 400, OkA (atL la), atL la 0 = 0, stp (dOf f) m < m, Fits .i64 ((dOf f (stp (dOf f) m)).length : Int)])
    | _, _ => none
  | _, _ => none
theorem no_loop0 : LoopGood (gn p) 69 (.loop noBody) noKeep 1 (.exit 0) (mkLoopN noG0) := by
  refine LoopGood.mkN (by decide) fun vals B S' B' C hG hC hlen w0 O hgl => ?_
  clear hlen
  unfold noG0 at hG
  split at hG
  · rename_i m f ms
    split at hG
    · rename_i la ha hr
      have hr := head_nil hr
      simp only [Option.some.injEq, Prod.mk.injEq] at hG
      obtain ⟨rfl, rfl, rfl⟩ := hG
      simp only [allC_cons, allC_nil, and_true] at hC
      obtain ⟨hf, Fm, hm, h0, hz, hN⟩ := hC
      generalize pOf f = q at *
      generalize hdd : dOf f = d at *
      rw [hf]
      clear hf hdd
      refine SimC.preI (B1 := [dgV nilR (atL la)]) ?_ ⟨cells_dg ha hr rfl, trivial⟩
      show SimC _ _ _ _ _ (noS q d m ((xZ d 0).length : Int) ((0 : Nat) : Int)) (noB (aZ (atL la) d 0)) _ _ _ _
      refine SimC.iter (g := gn p) (e := .exit 0) (S := fun i => noS q d m ((xZ d i).length : Int) (i : Int)) (B := fun i => noB (aZ (atL la) d i)) (N := m) (fun i hi => no_round p hgl q d m (atL la) h0 hz Fm hm i (by omega)) ?_ (by simp) 0 (by omega)
      exact SimC.weaken (SimC.run (B' := noB (aZ (atL la) d m)) (gn_ok p) (by decide) (no_end p q d m m _ _) (by simp only [allC_cons, allC_nil, and_true]; exact ⟨Fm, decide_eq_false (by omega)⟩) (by decide) i1 (by decide) (by simp) hgl) (sub_mkT (by simp; exact ⟨rfl, rfl⟩))
    · simp at hG
  · simp at hG
theorem no_loop1 : LoopGood (gn p) 69 (.loop noBody) noKeep 1 .ret (mkLoopN noG1) := by
  refine LoopGood.mkN (by decide) fun vals B S' B' C hG hC hlen w0 O hgl => ?_
  clear hlen
  unfold noG1 at hG
  split at hG
  · rename_i m f ms
    split at hG
    · rename_i la ha hr
      have hr := head_nil hr
      simp only [Option.some.injEq, Prod.mk.injEq] at hG
      obtain ⟨rfl, rfl, rfl⟩ := hG
      simp only [allC_cons, allC_nil, and_true] at hC
      obtain ⟨hf, Fm, hm, h0, hz, hN, Fl⟩ := hC
      generalize pOf f = q at *
      generalize hdd : dOf f = d at *
      rw [hf]
      clear hf hdd
      refine SimC.preI (B1 := [dgV nilR (atL la)]) ?_ ⟨cells_dg ha hr rfl, trivial⟩
      show SimC _ _ _ _ _ (noS q d m ((xZ d 0).length : Int) ((0 : Nat) : Int)) (noB (aZ (atL la) d 0)) _ _ _ _
      refine SimC.iter (g := gn p) (e := .ret) (S := fun i => noS q d m ((xZ d i).length : Int) (i : Int)) (B := fun i => noB (aZ (atL la) d i)) (N := stp d m) (fun i hi => no_round p hgl q d m (atL la) h0 hz Fm hm i hi) ?_ (by simp) 0 (by omega)
      exact SimC.weaken (SimC.run (B' := noB (aZ (atL la) d (stp d m))) (gn_ok p) (by decide) (no_long p q d m (stp d m) _ _) (stC_ok Fm hN (xZ_len _ (Nat.le_refl _)) Fl (decide_eq_true (stp_at hN))) (by decide) i1 (by decide) (by simp) hgl) (sub_mkT (by simp; exact rfl))
    · simp at hG
  · simp at hG
/-! ### DigestNothing: the account -/
abbrev z75 : List Int := List.replicate 75 0
noncomputable abbrev n1 (d : Nat → List Int) (m : Nat) : Nat → Int := n75 (aZ (atL z75) d m)
noncomputable abbrev noC (q : Nat → Bool) (d : Nat → List Int) (m : Nat) : List Prop := [rowY q d = rowY (pOf (rowY q d)) (dOf (rowY q d)), Fits .i64 (m : Int), m ≤ 400, OkA (atL z75), atL z75 0 = 0]
theorem nothing_run0 (q : Nat → Bool) (d : Nat → List Int) (m : Nat) : runF (gn p) 900 [.br false, .loop 7 noKeep 1 (.exit 0) (mkLoopN noG0), .br true, .br true] 4 [.ro 2 m (rowY q d)] [] [] =
    some (.sbool true, [], [Fits .i64 (m : Int), decide ((400 : Int) < (m : Int)) = false, LoopGood (gn p) 69 (.loop noBody) noKeep 1 (.exit 0) (mkLoopN noG0), rowY q d = rowY (pOf (rowY q d)) (dOf (rowY q d)), Fits .i64 (m : Int), m ≤ 400, OkA (atL z75), atL z75 0 = 0, stp d m = m, decide (((n1 d m 0).toNat : Int) = 0) = true, Fits .i64 ((n1 d m 0).toNat : Int), 0 ≤ n1 d m 74 ∧ n1 d m 74 ≤ 64, 0 ≤ n1 d m 0 ∧ n1 d m 0 ≤ 32]) :=
  run_parts (by kernel_rfl) (by kernel_rfl) (by kernel_rfl)
theorem nothing_run1 (q : Nat → Bool) (d : Nat → List Int) (m : Nat) : runF (gn p) 900 [.br false, .loop 7 noKeep 1 .ret (mkLoopN noG1)] 4 [.ro 2 m (rowY q d)] [] [] =
    some (.bool true, [], [Fits .i64 (m : Int), decide ((400 : Int) < (m : Int)) = false, LoopGood (gn p) 69 (.loop noBody) noKeep 1 .ret (mkLoopN noG1)] ++ (noC q d m ++ [stp d m < m, Fits .i64 ((d (stp d m)).length : Int)])) :=
  run_parts (by kernel_rfl) (by kernel_rfl) (by kernel_rfl)
theorem nothing_run2 (q : Nat → Bool) (d : Nat → List Int) (m : Nat) : runF (gn p) 900 [.br true] 4 [.ro 2 m (rowY q d)] [] [] =
    some (.bool true, [], [Fits .i64 (m : Int), decide ((400 : Int) < (m : Int)) = true]) :=
  run_parts (by kernel_rfl) (by kernel_rfl) (by kernel_rfl)
theorem nothing_ok (m : Nat) (a : Nat → Nat → Int) (d : Nat → Nat → List Int) (Fm : Fits .i64 (m : Int)) (hl : ∀ i j, Fits .i64 ((d i j).length : Int)) (_ : ∀ i, i < m → factsC (.agg (svY [.b, .s .u8] (a i) (d i) 0))) :
    FnOk (gn p) 4 [.ro 2 m fun i => .agg (svY [.b, .s .u8] (a i) (d i) 0)] [] { val := .bool true } := by
  show FnOk (gn p) 4 [.ro 2 m (rowY (fun i => decide (a i 0 = 1)) (fun i => d i 1))] [] { val := .bool true }
  have hl' : ∀ i, Fits .i64 (((fun i => d i 1) i).length : Int) := fun i => hl i 1
  generalize (fun i => decide (a i 0 = 1)) = q at *
  generalize (fun i => d i 1) = e at *
  have hL0 := no_loop0 p
  have hL1 := no_loop1 p
  have hz : OkA (atL z75) := ⟨by decide, by decide⟩
  by_cases h4 : 400 < m
  · exact FnOk.pure (gn_ok p) (nothing_run2 p q e m) (by simp only [allC_cons, allC_nil, and_true]; exact ⟨Fm, decide_eq_true (by omega)⟩)
  · have h0 : decide ((400 : Int) < (m : Int)) = false := decide_eq_false (by omega)
    have hle := stp_le e m
    by_cases hs : stp e m = m
    · refine FnOk.ofSb (b := true) (FnOk.pure (gn_ok p) (nothing_run0 p q e m) ?_) rfl
      have M := (hz.aZ e m).n
      have z : n1 e m 0 = 0 := by
        rw [n1, n75_at (by omega), aZ_size]; rfl
      simp only [allC_cons, allC_nil, and_true]
      rw [z]
      exact ⟨Fm, h0, hL0, rfl, Fm, by omega, hz, rfl, hs, by decide, fits_of (by decide) (by decide), M.1, by decide⟩
    · refine FnOk.pure (gn_ok p) (nothing_run1 p q e m) ?_
      refine allC_append.2 ⟨?_, allC_append.2 ⟨?_, ?_⟩⟩
      · simp only [allC_cons, allC_nil, and_true]; exact ⟨Fm, h0, hL1⟩
      · simp only [noC, allC_cons, allC_nil, and_true]; exact ⟨rfl, Fm, by omega, hz, rfl⟩
      · simp only [allC_cons, allC_nil, and_true]; exact ⟨by omega, hl' _⟩
end Go.Proofs.Tryd
