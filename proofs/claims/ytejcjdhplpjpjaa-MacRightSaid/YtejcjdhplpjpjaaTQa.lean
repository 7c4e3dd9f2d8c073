/- Accounts of this seat's functions: lemmas, no statement of their own. No conditions. -/
import Derived.Test.YtejcjdhplpjpjaaTPf
namespace Go.Proofs.Ytejcjdhplpjpjaa
open Go Go.Vx
/-! ### a Mac: its numbers are by (5), sum (5), mask (16), block (16), held -/
abbrev macK : List IntKind := List.replicate 5 .u64 ++ List.replicate 5 .u64 ++ List.replicate 16 .u8 ++ List.replicate 16 .u8 ++ [.i64]
abbrev nilR : SV := .raw (.pointer none)
noncomputable abbrev macV (r : SV) (a : Nat → Int) : Body := .cells (r :: svF macK a 0)
/-- a sum and a block more -/
def plusN (by' sm b : List Int) : Nat → Int := mulN (L5 (addN sm (L5 (blockN b)))) by'
abbrev byL (a : Nat → Int) : List Int := L5 a
abbrev smL (a : Nat → Int) : List Int := L5 (fun j => a (5 + j))
theorem plus_0 (a x b : Nat → Int) : runF gp 200 [] 39 [.ptr 0 0, .agg (svF (List.replicate 5 .u64) x 0), .agg (svF (List.replicate 17 .u8) b 0)] [macV nilR a] [] =
    some (.agg (svF (List.replicate 5 .u64) (plusN (byL a) (L5 x) (listF 17 b 0)) 0), [some (macV nilR a)], []) :=
  run_parts (by kernel_rfl) (by kernel_rfl) (by kernel_rfl)
theorem plus_1 (a x b : Nat → Int) (w : List (List Int)) : runF gp 200 [] 39 [.ptr 0 0, .agg (svF (List.replicate 5 .u64) x 0), .agg (svF (List.replicate 17 .u8) b 0)] [macV (.ptr 1 0) a, .log w] [] =
    some (.agg (svF (List.replicate 5 .u64) (plusN (byL a) (L5 x) (listF 17 b 0)) 0), [some (macV (.ptr 1 0) a), some (.log ((w ++ [[3, 11]]) ++ [[3, 12]]))], [(w ++ [[3, 11]]).length < 1099511627776, w.length < 1099511627776]) :=
  run_parts (by kernel_rfl) (by kernel_rfl) (by kernel_rfl)
/-- another sum -/
def setS (v a : Nat → Int) (j : Nat) : Int := bif (Nat.ble 5 j).and (Nat.blt j 10) then v (j - 5) else a j
abbrev tkS (src : List Int) : List Int := listF 16 (fun j => if 0 ≤ j ∧ j < 0 + src.length then src.getD (j - 0) 0 else 0) 0 ++ [1]
abbrev tkC (n : Nat) : List Prop := [Fits .i64 ((min n (16 - 0) : Nat) : Int), 0 + n ≤ 17]
theorem take_r0 (a : Nat → Int) (vs : List Int) : runF gp 300 [] 38 [.ptr 0 0, .rop (.agg (roiL .u8 vs 16 0))] [macV nilR a] [] =
    some (.tuple [], [some (macV nilR (setS (plusN (byL a) (smL a) (tkS ((((listF 16 (atL vs) 0).drop 0).take 16).take 16))) a))], [Fits .i64 ((min ((((listF 16 (atL vs) 0).drop 0).take 16)).length 16 : Nat) : Int), 0 + ((((listF 16 (atL vs) 0).drop 0).take 16).take 16).length ≤ 17]) :=
  run_parts (by kernel_rfl) (by kernel_rfl) (by kernel_rfl)
theorem take_b0 (a : Nat → Int) : runF gp 300 [] 38 [.ptr 0 0, .ptr 0 27] [macV nilR a] [] =
    some (.tuple [], [some (macV nilR (setS (plusN (byL a) (smL a) (listF 16 (fun j => a (26 + j)) 0 ++ [1])) a))], []) :=
  run_parts (by kernel_rfl) (by kernel_rfl) (by kernel_rfl)
theorem take_b1 (a : Nat → Int) (w : List (List Int)) : runF gp 300 [] 38 [.ptr 0 0, .ptr 0 27] [macV (.ptr 1 0) a, .log w] [] =
    some (.tuple [], [some (macV (.ptr 1 0) (setS (plusN (byL a) (smL a) (listF 16 (fun j => a (26 + j)) 0 ++ [1])) a)), some (.log ((w ++ [[3, 11]]) ++ [[3, 12]]))], [(w ++ [[3, 11]]).length < 1099511627776, w.length < 1099511627776]) :=
  run_parts (by kernel_rfl) (by kernel_rfl) (by kernel_rfl)
theorem take_l1 (a : Nat → Int) (m o : Nat) (l : List Int) (w : List (List Int)) : runF gp 300 [] 38 [.ptr 0 0, .sptr 1 m o 1 0] [macV (.ptr 2 0) a, .ints .u8 l, .log w] [] =
    some (.tuple [], [some (macV (.ptr 2 0) (setS (plusN (byL a) (smL a) (tkS (((l.drop (o + 0 + 0)).take 16).take 16))) a)), some (.ints .u8 l), some (.log ((w ++ [[3, 11]]) ++ [[3, 12]]))], [Fits .i64 ((min ((l.drop (o + 0 + 0)).take 16).length 16 : Nat) : Int), 0 + (((l.drop (o + 0 + 0)).take 16).take 16).length ≤ 17, o + 0 + 0 + 16 ≤ l.length, (w ++ [[3, 11]]).length < 1099511627776, w.length < 1099511627776]) :=
  run_parts (by kernel_rfl) (by kernel_rfl) (by kernel_rfl)
theorem tkS_eq {src : List Int} (h : src.length = 16) : tkS src = src ++ [1] := by
  unfold tkS
  congr 1
  refine extI (by rw [listF_length, h]) fun p hp => ?_
  rw [listF_length] at hp
  have : (listF 16 (fun j => if 0 ≤ j ∧ j < 0 + src.length then src.getD (j - 0) 0 else 0) 0).getD p 0 = _ := atLF hp
  rw [this, if_pos ⟨Nat.zero_le _, by omega⟩, Nat.sub_zero]
def macAs (ms : List SV) : Option (List Int) := numsAs macK (ms.drop 1)
inductive HeadK where
  | nil | log1 | log2 | other
def headK (l : List SV) : HeadK := match l with
  | [.raw (.pointer none)] => .nil
  | [.ptr 1 0] => .log1
  | [.ptr 2 0] => .log2
  | _ => .other
theorem head_nil {l : List SV} (h : headK l = .nil) : l = [nilR] := by
  unfold headK at h; split at h <;> first | rfl | simp at h
theorem head_log1 {l : List SV} (h : headK l = .log1) : l = [.ptr 1 0] := by
  unfold headK at h; split at h <;> first | rfl | simp at h
theorem head_log2 {l : List SV} (h : headK l = .log2) : l = [.ptr 2 0] := by
  unfold headK at h; split at h <;> first | rfl | simp at h
theorem cells_mac {ms : List SV} {la : List Int} {r : SV} (h : macAs ms = some la) (hr : ms.take 1 = [r]) (hr2 : isAggS r = false) : BImp (.cells ms) (macV r (atL la)) ∧ ∀ l, Body.cells ms = .cells l → flatL l := by
  have a1 := impL_nums (i := 0) h (a := atL la) fun j _ => by rw [Nat.zero_add]; rfl
  have e : ms = [r] ++ ms.drop 1 := by rw [← hr, List.take_append_drop]
  refine ⟨?_, fun l hl => ?_⟩
  · have hI : ImpL ([r] ++ ms.drop 1) (r :: svF macK (atL la) 0) := ⟨DenImp.refl _, a1.1⟩
    rw [← e] at hI
    exact .cells hI
  · injection hl with hl
    subst hl
    intro d hd
    rw [e] at hd
    rcases List.mem_append.1 hd with hd | hd
    · simp at hd; subst hd; exact hr2
    · exact a1.2 d hd
theorem rop_imp {ks : List IntKind} {cs : List SV} {ns : List Int} (h : numsAs ks cs = some ns) : DenImp (.rop (.agg cs)) (.rop (.agg (svF ks (atL ns) 0))) := fun w0 O ρ v d => by
  obtain ⟨b, o, us, rfl, h1, h2⟩ := rop_den d
  simp only [DenC] at h2
  exact den_rop h1 (by simp only [DenC]; exact (nums_svF h h2).1)
noncomputable def tk (r : SV) (la b : List Int) : Body := macV r (setS (plusN (byL (atL la)) (smL (atL la)) (b ++ [1])) (atL la))
noncomputable def F38 : SumF := fun args B => match args, B with
  | [.ptr 0 0, .rop (.agg cs)], [.cells ms] => match macAs ms, headK (ms.take 1), numsAs (List.replicate 16 .u8) cs with
    | some la, .nil, some lb => some { val := .tuple [], upd := [(0, some (macV nilR (setS (plusN (byL (atL la)) (smL (atL la)) (lb ++ [1])) (atL la))))] }
    | _, _, _ => none
  | [.ptr 0 0, .ptr 0 27], [.cells ms] => match macAs ms, headK (ms.take 1) with
    | some la, .nil => some { val := .tuple [], upd := [(0, some (macV nilR (setS (plusN (byL (atL la)) (smL (atL la)) (listF 16 (fun j => atL la (26 + j)) 0 ++ [1])) (atL la))))] }
    | _, _ => none
  | [.ptr 0 0, .ptr 0 27], [.cells ms, .log w] => match macAs ms, headK (ms.take 1) with
    | some la, .log1 => some { val := .tuple [], upd := [(0, some (macV (.ptr 1 0) (setS (plusN (byL (atL la)) (smL (atL la)) (listF 16 (fun j => atL la (26 + j)) 0 ++ [1])) (atL la)))), (1, some (.log (w ++ [[3, 11], [3, 12]])))], C := [w.length < 1099511627770] }
    | _, _ => none
  | [.ptr 0 0, .sptr 1 m o 1 0], [.cells ms, .ints K l, .log w] => match macAs ms, headK (ms.take 1), sameK K .u8 with
    | some la, .log2, true => some { val := .tuple [], upd := [(0, some (macV (.ptr 2 0) (setS (plusN (byL (atL la)) (smL (atL la)) ((l.drop o).take 16 ++ [1])) (atL la)))), (2, some (.log (w ++ [[3, 11], [3, 12]])))], C := [o + 16 ≤ l.length, w.length < 1099511627770] }
    | _, _, _ => none
  | _, _ => none
theorem acc38 : Acc gp 38 F38 := by
  intro args B out h hC
  unfold F38 at h
  split at h
  · rename_i cs ms
    split at h
    · rename_i la lb ha hr hb
      have hr := head_nil hr
      simp only [Option.some.injEq] at h; subst h
      have hl : lb.length = 16 := by have := (numsAs_len hb).1; simpa using this
      refine FnOk.imp (args' := [.ptr 0 0, .rop (.agg (roiL .u8 lb 16 0))]) ?_ ⟨DenImp.refl _, rop_imp hb, trivial⟩
      refine FnOk.preB (B' := [macV nilR (atL la)]) ?_ ⟨cells_mac ha hr rfl, trivial⟩ (fun j => by
        match j with
        | 0 => rfl
        | j + 1 => rfl)
      have hr := take_r0 (atL la) lb
      have e : (((listF 16 (atL lb) 0).drop 0).take 16).take 16 = lb := by
        rw [List.drop_zero, List.take_take, List.take_of_length_le (by rw [listF_length]; decide), ← hl, listF_atL]
      have e2 : ((listF 16 (atL lb) 0).drop 0).take 16 = lb := by
        rw [List.drop_zero, List.take_of_length_le (by rw [listF_length]; decide), ← hl, listF_atL]
      rw [e, e2, tkS_eq hl] at hr
      exact FnOk.run (new := []) gp_ok hr (by simp only [allC_cons, allC_nil, and_true]; rw [hl]; exact ⟨fits_of (by decide) (by decide), by decide⟩) (by simp [upto]) rfl (by simp) (by simp) (fun j hj => by
        match j, hj with
        | 0, _ => rfl)
    · simp at h
  · rename_i ms
    split at h
    · rename_i la ha hr
      have hr := head_nil hr
      simp only [Option.some.injEq] at h; subst h
      refine FnOk.preB (B' := [macV nilR (atL la)]) ?_ ⟨cells_mac ha hr rfl, trivial⟩ (fun j => by
        match j with
        | 0 => rfl
        | j + 1 => rfl)
      exact FnOk.run (new := []) gp_ok (take_b0 (atL la)) (by simp [AllC]) (by simp [upto]) rfl (by simp) (by simp) (fun j hj => by
        match j, hj with
        | 0, _ => rfl)
    · simp at h
  · rename_i ms w
    split at h
    · rename_i la ha hr
      have hr := head_log1 hr
      simp only [Option.some.injEq] at h; subst h
      have hw : w.length < 1099511627770 := hC _ (by simp)
      refine FnOk.preB (B' := [macV (.ptr 1 0) (atL la), .log w]) ?_ ⟨cells_mac ha hr rfl, ⟨BImp.refl _, fun _ h => by simp at h⟩, trivial⟩ (fun j => by
        match j with
        | 0 => rfl
        | 1 => rfl
        | j + 2 => rfl)
      have hr := take_b1 (atL la) w
      rw [List.append_assoc] at hr
      exact FnOk.val (FnOk.run (out := { val := .tuple [], upd := [(0, some (macV (.ptr 1 0) (setS (plusN (byL (atL la)) (smL (atL la)) (listF 16 (fun j => atL la (26 + j)) 0 ++ [1])) (atL la)))), (1, some (.log (w ++ [[3, 11], [3, 12]])))] }) (new := []) gp_ok hr (by simp only [allC_cons, allC_nil, and_true, List.length_append, List.length_cons, List.length_nil]; omega) (by simp [upto]) rfl (by simp) (by simp) (fun j hj => by
        match j, hj with
        | 0, _ => rfl
        | 1, _ => rfl)) (fun _ _ _ _ h => h)
    · simp at h
  · rename_i m o ms K l w
    split at h
    · rename_i la ha hr hK
      obtain rfl := kidx_inj hK
      have hr := head_log2 hr
      simp only [Option.some.injEq] at h; subst h
      simp only [allC_cons, allC_nil, and_true] at hC
      obtain ⟨ho, hw⟩ := hC
      have hl : ((l.drop o).take 16).length = 16 := by rw [List.length_take, List.length_drop]; omega
      refine FnOk.preB (B' := [macV (.ptr 2 0) (atL la), .ints .u8 l, .log w]) ?_ ⟨cells_mac ha hr rfl, ⟨BImp.refl _, fun _ h => by simp at h⟩, ⟨BImp.refl _, fun _ h => by simp at h⟩, trivial⟩ (fun j => by
        match j with
        | 0 => rfl
        | 1 => rfl
        | 2 => rfl
        | j + 3 => rfl)
      have hr := take_l1 (atL la) m o l w
      rw [List.append_assoc, show o + 0 + 0 = o from rfl, List.take_take, Nat.min_self, tkS_eq hl] at hr
      exact FnOk.val (FnOk.run (out := { val := .tuple [], upd := [(0, some (macV (.ptr 2 0) (setS (plusN (byL (atL la)) (smL (atL la)) ((l.drop o).take 16 ++ [1])) (atL la)))), (2, some (.log (w ++ [[3, 11], [3, 12]])))] }) (new := []) gp_ok hr (by
        simp only [allC_cons, allC_nil, and_true, List.length_append, List.length_cons, List.length_nil]
        rw [hl]
        exact ⟨fits_of (by decide) (by decide), by decide, ho, by omega, by omega⟩) (by simp [upto]) rfl (by simp) (by simp) (fun j hj => by
        match j, hj with
        | 0, _ => rfl
        | 1, _ => rfl
        | 2, _ => rfl)) (fun _ _ _ _ h => h)
    · simp at h
  · simp at h
noncomputable abbrev gq : Ctx := gp.add [(38, F38)]
theorem gq_ok : CtxU gq := gp_ok.add mixed noGo (by
  intro x hx
  simp only [List.mem_cons, List.not_mem_nil, or_false] at hx
  rcases hx with rfl
  exact acc38)
end Go.Proofs.Ytejcjdhplpjpjaa
