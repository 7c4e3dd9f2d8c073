/- Accounts of this seat's functions: lemmas, no statement of their own. No conditions. -/
import Derived.Test.YthciddlfnajchaaDoorTF
namespace Go.Proofs.Tryd
open Go Go.Vx
/-! ### Sum -/
/-- the block, noughts behind what is held -/
def clB (a : Nat → Int) (j : Nat) : Int := if (a 74).toNat ≤ j ∧ j < (a 74).toNat + (List.replicate (64 - (a 74).toNat) (0 : Int)).length then (List.replicate (64 - (a 74).toNat) (0 : Int)).getD (j - (a 74).toNat) 0 else a (10 + j)
noncomputable def smS (a : Nat → Int) : Nat → Int := prS (stA a) (atL (listF 64 (clB a) 0)) (uadd .u64 (a 9) (scut .u64 (a 74))) 4294967295
def dgB (s : Nat → Int) (j : Nat) : Int := ucut .u8 (ushr (s (j / 4)) (8 * (j % 4) : Nat))
abbrev smC (a : Nat → Int) : List Prop := [(a 74).toNat + (List.replicate (64 - (a 74).toNat) (0 : Int)).length ≤ 64, 0 ≤ a 74 ∧ a 74 ≤ ((64 : Nat) : Int) ∧ ((64 : Nat) : Int) ≤ ((64 : Nat) : Int), 0 ≤ n75 a 0 ∧ n75 a 0 = n75 a 0 ∧ (n75 a 0).toNat * 1 ≤ 2 ^ 47,
  Fits .i64 ((min 32 (n75 a 0).toNat : Nat) : Int), 0 + (0 + 0) + ((listF 32 (dgB (smS a)) 0).take (n75 a 0).toNat).length ≤ (List.replicate (n75 a 0).toNat (0 : Int)).length]
theorem sum_0 (a : Nat → Int) : runF g4 2000 [] 15 [.ptr 0 0] [dgV nilR a] [4] =
    some (.sl 1 (n75 a 0).toNat 0 1 0 (n75 a 0).toNat false, [some (dgV nilR (n75 a)), some (.ints .u8 (splice (List.replicate (n75 a 0).toNat 0) 0 ((listF 32 (dgB (smS a)) 0).take (n75 a 0).toNat)))], smC a) :=
  run_parts (by kernel_rfl) (by kernel_rfl) (by kernel_rfl)
theorem sum_1 (a : Nat → Int) (w : List (List Int)) : runF g4 2000 [] 15 [.ptr 0 0] [dgV (.ptr 1 0) a, .log w] [5] =
    some (.sl 2 (n75 a 0).toNat 0 1 0 (n75 a 0).toNat false, [some (dgV (.ptr 1 0) (n75 a)), some (.log ((w ++ [[2, a 74]]) ++ [[3, 31]])), some (.ints .u8 (splice (List.replicate (n75 a 0).toNat 0) 0 ((listF 32 (dgB (smS a)) 0).take (n75 a 0).toNat)))], (smC a).take 2 ++ ([w.length < 1099511627776, (w ++ [[2, a 74]]).length < 1099511627776] ++ (smC a).drop 2)) :=
  run_parts (by kernel_rfl) (by kernel_rfl) (by kernel_rfl)
theorem sum_n : runF g4 100 [] 15 [nilR] [] [] = some (.raw (.slice none 0 0), [], []) := by kernel_rfl
theorem splice_all {X : List Int} {n : Nat} (h : X.length = n) : splice (List.replicate n 0) 0 X = X := by
  unfold splice
  rw [List.take_zero, List.nil_append, List.drop_of_length_le (by rw [List.length_replicate]; omega), List.append_nil]
/-- the digest that Sum tells -/
noncomputable def dgL (a : Nat → Int) : List Int := (listF 32 (dgB (smS a)) 0).take (a 0).toNat
theorem dgL_len {a : Nat → Int} (h : 0 ≤ a 0 ∧ a 0 ≤ 32) : (dgL a).length = (a 0).toNat := by
  rw [dgL, List.length_take, listF_length]; omega
abbrev suW (w : List (List Int)) (a : Nat → Int) : List (List Int) := w ++ [[2, a 74], [3, 31]]
noncomputable def F15 : SumF := fun args B => match args, B with
  | [.ptr 0 0], [.cells ms] => match dgAs ms, headK (ms.take 1) with
    | some la, .nil => some { val := .sl 1 (atL la 0).toNat 0 1 0 (atL la 0).toNat false, upd := [(0, some (dgV nilR (atL la)))], new := [.ints .u8 (dgL (atL la))], C := [0 ≤ atL la 74 ∧ atL la 74 ≤ 64, 0 ≤ atL la 0 ∧ atL la 0 ≤ 32] }
    | _, _ => none
  | [.ptr 0 0], [.cells ms, .log w] => match dgAs ms, headK (ms.take 1) with
    | some la, .log1 => some { val := .sl 2 (atL la 0).toNat 0 1 0 (atL la 0).toNat false, upd := [(0, some (dgV (.ptr 1 0) (atL la))), (1, some (.log (suW w (atL la))))], new := [.ints .u8 (dgL (atL la))], C := [0 ≤ atL la 74 ∧ atL la 74 ≤ 64, 0 ≤ atL la 0 ∧ atL la 0 ≤ 32, w.length < 1099511627770] }
    | _, _ => none
  | [.raw (.pointer none)], [] => some { val := .raw (.slice none 0 0) }
  | _, _ => none
theorem smC_ok {a : Nat → Int} (h : 0 ≤ a 74 ∧ a 74 ≤ 64) (h0 : 0 ≤ a 0 ∧ a 0 ≤ 32) : AllC (smC a) := by
  have e := n75_at (a := a) (j := 0) (by omega)
  simp only [smC, allC_cons, allC_nil, and_true]
  rw [e]
  refine ⟨by rw [List.length_replicate]; omega, ⟨by omega, by omega, by omega⟩, ⟨by omega, trivial, by omega⟩, fits_of (by omega) (by omega), ?_⟩
  rw [List.length_take, listF_length, List.length_replicate]; omega
theorem acc15 : Acc g4 15 F15 := by
  intro args B out h hC
  unfold F15 at h
  split at h
  · rename_i ms
    split at h
    · rename_i la ha hr
      have hr := head_nil hr
      simp only [Option.some.injEq] at h; subst h
      simp only [allC_cons, allC_nil, and_true] at hC
      refine FnOk.preB (B' := [dgV nilR (atL la)]) ?_ ⟨cells_dg ha hr rfl, trivial⟩ (fun j => by
        match j with
        | 0 => rfl
        | 1 => rfl
        | j + 2 => rfl)
      have hrun := sum_0 (atL la)
      have hc := smC_ok hC.1 hC.2
      have hl := dgL_len hC.2
      rw [n75_la ha] at hrun
      unfold smC at hc
      rw [n75_la ha] at hc
      have es : splice (List.replicate (atL la 0).toNat 0) 0 ((listF 32 (dgB (smS (atL la))) 0).take (atL la 0).toNat) = dgL (atL la) := splice_all hl
      rw [es] at hrun
      refine FnOk.val (FnOk.run (out := { val := .sl 1 (atL la 0).toNat 0 1 0 (atL la 0).toNat false, upd := [(0, some (dgV nilR (atL la)))], new := [.ints .u8 (dgL (atL la))] }) (new := [4]) g4_ok hrun ?_ (by simp [upto]) rfl (by simp) (by simp) (fun j hj => by
        match j, hj with
        | 0, _ => rfl
        | 1, _ => rfl)) (fun _ _ _ _ h => h)
      unfold smC
      rw [n75_la ha]
      exact hc
    · simp at h
  · rename_i ms w
    split at h
    · rename_i la ha hr
      have hr := head_log1 hr
      simp only [Option.some.injEq] at h; subst h
      simp only [allC_cons, allC_nil, and_true] at hC
      obtain ⟨h1, h2, h3⟩ := hC
      refine FnOk.preB (B' := [dgV (.ptr 1 0) (atL la), .log w]) ?_ ⟨cells_dg ha hr rfl, ⟨BImp.refl _, fun _ h => by simp at h⟩, trivial⟩ (fun j => by
        match j with
        | 0 => rfl
        | 1 => rfl
        | 2 => rfl
        | j + 3 => rfl)
      have hrun := sum_1 (atL la) w
      have hc := smC_ok h1 h2
      have hl := dgL_len h2
      have es : splice (List.replicate (atL la 0).toNat 0) 0 ((listF 32 (dgB (smS (atL la))) 0).take (atL la 0).toNat) = dgL (atL la) := splice_all hl
      have ew : (w ++ [[2, atL la 74]]) ++ [[3, 31]] = suW w (atL la) := by simp
      rw [n75_la ha, es, ew] at hrun
      refine FnOk.val (FnOk.run (out := { val := .sl 2 (atL la 0).toNat 0 1 0 (atL la 0).toNat false, upd := [(0, some (dgV (.ptr 1 0) (atL la))), (1, some (.log (suW w (atL la))))], new := [.ints .u8 (dgL (atL la))] }) (new := [5]) g4_ok hrun ?_ (by simp [upto]) rfl (by simp) (by simp) (fun j hj => by
        match j, hj with
        | 0, _ => rfl
        | 1, _ => rfl
        | 2, _ => rfl)) (fun _ _ _ _ h => h)
      refine allC_append.2 ⟨?_, allC_append.2 ⟨?_, ?_⟩⟩
      · exact fun p hp => hc p (List.mem_of_mem_take hp)
      · simp only [allC_cons, allC_nil, and_true, List.length_append, List.length_cons, List.length_nil]; omega
      · exact fun p hp => hc p (List.mem_of_mem_drop hp)
    · simp at h
  · simp only [Option.some.injEq] at h; subst h
    exact FnOk.pure g4_ok sum_n (by simp [AllC])
  · simp at h
noncomputable abbrev gs : Ctx := g4.add [(15, F15)]
theorem gs_ok : CtxU gs := g4_ok.add mixed noGo (by
  intro x hx
  simp only [List.mem_cons, List.not_mem_nil, or_false] at hx
  rcases hx with rfl
  exact acc15)
/-! ### the one variable -/
noncomputable def _root_.Go.Vx.Ctx.gl (g : Ctx) (v : SV) : Ctx := { P := g.P, sum := g.sum, glob := fun n => bif Nat.beq n 0 then some v else none }
theorem gl_ok {g : Ctx} {v : SV} (hU : CtxU g) (hn : ∀ n, g.glob n = none) : CtxU (g.gl v) := fun w0 O hG => by
  have h := hU w0 O (fun n v h => by rw [hn] at h; simp at h)
  exact ⟨hG, h.sums, h.mixed, h.names⟩
theorem FnOk.gl {g : Ctx} {v : SV} {f : FuncId} {args : List SV} {B : List Body} {out : OpOut} (hn : ∀ n, g.glob n = none) (h : FnOk g f args B out) : FnOk (g.gl v) f args B out :=
  fun w0 O hG ρ Φ vs w d x hr => h w0 O (fun n v h => by rw [hn] at h; simp at h) ρ Φ vs w d x hr
theorem Acc.gl {g : Ctx} {v : SV} {f : FuncId} {F : SumF} (hn : ∀ n, g.glob n = none) (h : Acc g f F) : Acc (g.gl v) f F :=
  fun args B out hF hC => FnOk.gl hn (h args B out hF hC)
abbrev eV (p : Addr) : SV := .raw (.iface 120 (.pointer (some p)))
end Go.Proofs.Tryd
