/- Accounts of this seat's functions: lemmas, no statement of their own. No conditions. -/
import Derived.Test.YtdndpfaapnecjaaDoorTG
namespace Go.Proofs.Tryd
open Go Go.Vx
/-! ### the program's walk: known F23, safe F20, takes F19 -/
noncomputable abbrev g4 : Ctx := g3.add [(4, F4)]
theorem g4_ok : CtxU g4 := g3_ok.add mixed noGo (by
  intro x hx
  simp only [List.mem_cons, List.not_mem_nil, or_false] at hx
  rcases hx with rfl
  exact acc4)
theorem kn0 : runF g4 300 [.br false, .br true] 23 [.roi .i64 []] [] [] =
    some (SV.bool true, [], [Fits IntKind.i64 (0 : Int), Fits IntKind.i64 (0 : Int), (0 : Nat) ≤ (2 : Nat), false = false, Fits IntKind.i64 (0 : Int), true = true]) := by kernel_rfl
theorem kn1 : runF g4 300 [.br false, .br false, .br true, .br true] 23 [.roi .i64 [1]] [] [] =
    some (SV.bool true, [], [Fits IntKind.i64 (1 : Int), Fits IntKind.i64 (1 : Int), (1 : Nat) ≤ (2 : Nat), false = false, Fits IntKind.i64 (1 : Int), false = false, true = true, true = true]) := by kernel_rfl
theorem kn2 : runF g4 300 [.br false, .br false, .br true, .br false] 23 [.roi .i64 [2]] [] [] =
    some (SV.sbool true, [], [Fits IntKind.i64 (1 : Int), Fits IntKind.i64 (1 : Int), (1 : Nat) ≤ (2 : Nat), false = false, Fits IntKind.i64 (1 : Int), false = false, true = true, false = false]) := by kernel_rfl
theorem kn3 : runF g4 300 [.br false, .br false, .br false] 23 [.roi .i64 [1, 2]] [] [] =
    some (SV.sbool true, [], [Fits IntKind.i64 (2 : Int), Fits IntKind.i64 (2 : Int), (2 : Nat) ≤ (2 : Nat), false = false, Fits IntKind.i64 (2 : Int), false = false, false = false]) := by kernel_rfl
def F23 : SumF := fun args B => match args, B with
  | [.roi .i64 l], [] => some { val := .bool true, C := [aheadR l = true] }
  | _, _ => none
theorem acc23 : Acc g4 23 F23 := by
  intro args B out h hC
  unfold F23 at h
  split at h
  · rename_i l
    simp only [Option.some.injEq] at h; subst h
    simp only [allC_cons, allC_nil, and_true] at hC
    rcases ahead_cases hC with rfl | rfl | rfl | rfl
    · exact FnOk.val (C := []) (rd := []) (FnOk.pure g4_ok kn0 (by simp only [allC_append, allC_cons, allC_nil, and_true, decide_eq_true_eq, decide_eq_false_iff_not, Bool.not_eq_true', Bool.not_eq_false']; (repeat' first | trivial | assumption | decide | exact fits_of (by decide) (by decide) | rfl | apply And.intro))) (DenImp.refl _)
    · exact FnOk.val (C := []) (rd := []) (FnOk.pure g4_ok kn1 (by simp only [allC_append, allC_cons, allC_nil, and_true, decide_eq_true_eq, decide_eq_false_iff_not, Bool.not_eq_true', Bool.not_eq_false']; (repeat' first | trivial | assumption | decide | exact fits_of (by decide) (by decide) | rfl | apply And.intro))) (DenImp.refl _)
    · exact FnOk.ofSb (b := true) (FnOk.pure g4_ok kn2 (by simp only [allC_append, allC_cons, allC_nil, and_true, decide_eq_true_eq, decide_eq_false_iff_not, Bool.not_eq_true', Bool.not_eq_false']; (repeat' first | trivial | assumption | decide | exact fits_of (by decide) (by decide) | rfl | apply And.intro))) rfl
    · exact FnOk.ofSb (b := true) (FnOk.pure g4_ok kn3 (by simp only [allC_append, allC_cons, allC_nil, and_true, decide_eq_true_eq, decide_eq_false_iff_not, Bool.not_eq_true', Bool.not_eq_false']; (repeat' first | trivial | assumption | decide | exact fits_of (by decide) (by decide) | rfl | apply And.intro))) rfl
  · simp at h
/-- what a call leaves, told of with less -/
theorem FnOk.post1 {g : Ctx} {f : FuncId} {args : List SV} {b b1 b2 : Body} {v : SV} {rd : List Nat} {C : List Prop} (h : FnOk g f args [b] { val := v, upd := [(0, some b1)] }) (hi : BImpL [b1] [b2]) : FnOk g f args [b] { val := v, upd := [(0, some b2)], reads := rd, C := C } := by
  intro w0 O hG ρ Φ vs w hd x hr
  have e : ∀ b1 : Body, ∀ j, afterH [b] { val := v, upd := [(0, some b1)] } j = BH [b1] j := fun b1 j => by
    match j with
    | 0 => rfl
    | j + 1 => simp [afterH, newH, newAll, updAll, upH, BH]
  refine (h w0 O hG ρ Φ vs w hd x hr).mono fun u w' ⟨ρ', Φ', p1, p2, p3, p4⟩ => ⟨ρ', Φ', p1, p2, p3, ?_⟩
  exact relH_funext (fun j => (e b2 j).symm) (relH_imp hi (relH_funext (e b1) p4))
def safeW (y : Nat → Bool) (s : Int) : Bool :=
  (!(y (if s = 0 then 11 else 10)) || y 9) && (!(y 12) || y (if s = 0 then 10 else 11)) && (!(y 13) || y (if s = 0 then 1 else 4))
def hasW (y : Nat → Bool) (t : Int) : Bool :=
  if t = 3 then y 1 && y 4 else if t = 4 then y 1 && y 5 else if t = 5 then y 2 && y 4 else y 2 && y 5
def keyI (s t : Int) : Nat := 3 * s.toNat + t.toNat
def takOk (y : Nat → Bool) (s t : Int) : Bool := if t = 7 then true else if t ≤ 2 then !(y (keyI s t)) && (decide (t = 1) || safeW y s) else !(y (6 + t.toNat)) && hasW y t
def takX (y : Nat → Bool) (s t : Int) : Nat → Bool := if t ≤ 2 then setB (setB y (keyI s t)) (6 + t.toNat) else setB y (6 + t.toNat)
theorem nrm14 (y : Nat → Bool) {j : Nat} (h : j < 14) : nrm 14 y j = y j := nrm_eq h
theorem safeW_nrm (y : Nat → Bool) {s : Int} (h : s = 0 ∨ s = 1) : safeW (nrm 14 y) s = safeW y s := by
  rcases h with rfl | rfl <;> simp [safeW, nrm14]
abbrev vL (b0 b1 b2 b3 b4 b5 b6 b7 b8 b9 b10 b11 b12 b13 : Bool) : List SV := [.bool b0, .bool b1, .bool b2, .bool b3, .bool b4, .bool b5, .bool b6, .bool b7, .bool b8, .bool b9, .bool b10, .bool b11, .bool b12, .bool b13]
abbrev vN (b0 b1 b2 b3 b4 b5 b6 b7 b8 b9 b10 b11 b12 b13 : Bool) : Nat → Bool := atB [b0, b1, b2, b3, b4, b5, b6, b7, b8, b9, b10, b11, b12, b13]
theorem sw_0 (b0 b1 b2 b3 b4 b5 b6 b7 b8 b9 b10 b11 b12 b13 : Bool) : runF g4 300 [] 20 [.ptr 0 0, .lit .i64 0] [.cells (vL b0 b1 b2 b3 b4 b5 b6 b7 b8 b9 b10 b11 b12 b13)] [] = some (.bool (safeW (vN b0 b1 b2 b3 b4 b5 b6 b7 b8 b9 b10 b11 b12 b13) 0), [some (.cells (vL b0 b1 b2 b3 b4 b5 b6 b7 b8 b9 b10 b11 b12 b13))], []) := by
  cases b1 <;> cases b9 <;> cases b10 <;> cases b11 <;> cases b12 <;> cases b13 <;> kernel_rfl
theorem sw_1 (b0 b1 b2 b3 b4 b5 b6 b7 b8 b9 b10 b11 b12 b13 : Bool) : runF g4 300 [] 20 [.ptr 0 0, .lit .i64 1] [.cells (vL b0 b1 b2 b3 b4 b5 b6 b7 b8 b9 b10 b11 b12 b13)] [] = some (.bool (safeW (vN b0 b1 b2 b3 b4 b5 b6 b7 b8 b9 b10 b11 b12 b13) 1), [some (.cells (vL b0 b1 b2 b3 b4 b5 b6 b7 b8 b9 b10 b11 b12 b13))], []) := by
  cases b4 <;> cases b9 <;> cases b10 <;> cases b11 <;> cases b12 <;> cases b13 <;> kernel_rfl
theorem v_imp : ∀ (l : List Bool), BImp (.cells (bS l)) (.cells (l.map .bool)) ∧ ImpL (bS l) (l.map .bool) ∧ ImpL (l.map .bool) (bS l) ∧ flatL (l.map .bool) ∧ flatL (bS l)
  | [] => ⟨.refl _, trivial, trivial, fun c hc => by simp at hc, fun c hc => by simp [bS] at hc⟩
  | b :: l => by
    obtain ⟨_, h1, h2, h3, h4⟩ := v_imp l
    have q1 : ImpL (bS (b :: l)) ((b :: l).map .bool) := ⟨fun w0 O ρ v hv => hv.imp (fun h => by simp at h) fun y => ⟨y.1, by simpa only [DenC] using y.2⟩, h1⟩
    have q2 : ImpL ((b :: l).map .bool) (bS (b :: l)) := ⟨b_sb b, h2⟩
    refine ⟨.cells q1, q1, q2, fun c hc => ?_, fun c hc => ?_⟩
    · rcases List.mem_cons.1 hc with rfl | hc
      · rfl
      · exact h3 c hc
    · rcases List.mem_cons.1 hc with rfl | hc
      · rfl
      · exact h4 c hc
theorem bS_inj : ∀ {l l' : List Bool}, bS l = bS l' → l = l'
  | [], [], _ => rfl
  | [], b :: l, h => by simp [bS] at h
  | b :: l, [], h => by simp [bS] at h
  | b :: l, c :: l', h => by
    simp only [bS, List.cons.injEq, SV.sbool.injEq] at h
    rw [h.1, bS_inj h.2]
theorem sx14 {cs : List SV} {y : Nat → Bool} (h : sxOf 14 cs = some y) : ∃ b0 b1 b2 b3 b4 b5 b6 b7 b8 b9 b10 b11 b12 b13, y = vN b0 b1 b2 b3 b4 b5 b6 b7 b8 b9 b10 b11 b12 b13 ∧ BImpL [.cells cs] [.cells (vL b0 b1 b2 b3 b4 b5 b6 b7 b8 b9 b10 b11 b12 b13)] ∧ BImpL [.cells (vL b0 b1 b2 b3 b4 b5 b6 b7 b8 b9 b10 b11 b12 b13)] [.cells (SX 14 y)] := by
  obtain ⟨l, h1, rfl, h2⟩ := sx_list h
  have hn : l.length = 14 := by
    unfold sxOf at h
    rw [h1] at h
    simp only at h
    split at h
    · rename_i hn; exact Nat.eq_of_beq_eq_true hn
    · simp at h
  match l, hn with
  | [b0, b1, b2, b3, b4, b5, b6, b7, b8, b9, b10, b11, b12, b13], _ =>
    refine ⟨b0, b1, b2, b3, b4, b5, b6, b7, b8, b9, b10, b11, b12, b13, rfl, ⟨⟨.cells (boolsB h1), fun l e => by injection e with e; subst e; exact bools_flat h1⟩, trivial⟩, ⟨⟨.cells (v_imp [b0, b1, b2, b3, b4, b5, b6, b7, b8, b9, b10, b11, b12, b13]).2.2.1, fun l e => by injection e with e; subst e; exact (v_imp [b0, b1, b2, b3, b4, b5, b6, b7, b8, b9, b10, b11, b12, b13]).2.2.2.1⟩, trivial⟩⟩
def F20 : SumF := fun args B => match args, B with
  | [.ptr 0 0, .int .i64 s], [.cells cs] => match sxOf 14 cs with
    | some y => some { val := .sbool (safeW y s), upd := [(0, some (.cells (SX 14 y)))], reads := [0], C := [s = 0 ∨ s = 1] }
    | none => none
  | _, _ => none
theorem run1 {g : Ctx} {f : FuncId} {args : List SV} {b b1 : Body} {v : SV} (hU : CtxU g) {n : Nat} {pl : List Plan} {C : List Prop} (h : runF g n pl f args [b] [] = some (v, [some b1], C)) (hC : AllC C) : FnOk g f args [b] { val := v, upd := [(0, some b1)] } :=
  FnOk.run hU h hC (by simp [upto]) rfl (by simp) (by simp) (fun j hj => by
    match j, hj with
    | 0, _ => rfl)
theorem acc20 : Acc g4 20 F20 := by
  intro args B out h hC
  unfold F20 at h
  split at h
  · rename_i s cs
    split at h
    · rename_i y hy
      simp only [Option.some.injEq] at h; subst h
      simp only [allC_cons, allC_nil, and_true] at hC
      obtain ⟨b0, b1, b2, b3, b4, b5, b6, b7, b8, b9, b10, b11, b12, b13, rfl, h1, h2⟩ := sx14 hy
      refine FnOk.preB ?_ h1 (fun j => by
        match j with
        | 0 => rfl
        | j + 1 => simp [afterH, newH, newAll, updAll, upH, BH])
      rcases hC with rfl | rfl
      · exact FnOk.post1 (FnOk.toSb (b' := safeW (vN b0 b1 b2 b3 b4 b5 b6 b7 b8 b9 b10 b11 b12 b13) 0) (FnOk.imp (run1 g4_ok (sw_0 b0 b1 b2 b3 b4 b5 b6 b7 b8 b9 b10 b11 b12 b13) (allC_nil.2 trivial)) ⟨DenImp.refl _, lit_imp (fits_small (by decide) (by decide)), trivial⟩) rfl) h2
      · exact FnOk.post1 (FnOk.toSb (b' := safeW (vN b0 b1 b2 b3 b4 b5 b6 b7 b8 b9 b10 b11 b12 b13) 1) (FnOk.imp (run1 g4_ok (sw_1 b0 b1 b2 b3 b4 b5 b6 b7 b8 b9 b10 b11 b12 b13) (allC_nil.2 trivial)) ⟨DenImp.refl _, lit_imp (fits_small (by decide) (by decide)), trivial⟩) rfl) h2
    · simp at h
  · simp at h
noncomputable abbrev g5 : Ctx := g4.add [(23, F23), (20, F20)]
theorem g5_ok : CtxU g5 := g4_ok.add mixed noGo (by
  intro x hx
  simp only [List.mem_cons, List.not_mem_nil, or_false] at hx
  rcases hx with rfl | rfl
  · exact acc23
  · exact acc20)
end Go.Proofs.Tryd

namespace Go.Proofs.Tryd
open Go Go.Vx
/-! ### takes F19 -/
theorem sx_post {cs : List SV} {y : Nat → Bool} (h : boolsAs cs = some (LB 14 y 0)) : BImpL [.cells cs] [.cells (SX 14 y)] := ⟨⟨.cells (bools_imp h), fun l e => by injection e with e; subst e; exact bools_flat h⟩, trivial⟩
theorem sx_self (y : Nat → Bool) : BImpL [.cells (SX 14 y)] [.cells (SX 14 y)] := ⟨⟨.refl _, fun l e => by injection e with e; subst e; exact (v_imp (LB 14 y 0)).2.2.2.2⟩, trivial⟩
theorem sb_last (b : Bool) : DenImp (.sbool b) (.sbool b) := DenImp.refl _
theorem tw01T (y : Nat → Bool) (last : Bool) : runF g5 600 [.br false, .br true, .br false] 19 [.ptr 0 0, .lit .i64 0, .lit .i64 1, .sbool last] [.cells (SX 14 y)] [] =
    some (.raw .nilIface, [some (.cells (SX 14 (takX y 0 1)))], [y 1 = false, (0 : Int) = 0 ∨ (0 : Int) = 1, last = true, (!(safeW (takX y 0 1) 0)) = false]) := by kernel_rfl
theorem tw01F (y : Nat → Bool) (last : Bool) : runF g5 600 [.br false, .br false] 19 [.ptr 0 0, .lit .i64 0, .lit .i64 1, .sbool last] [.cells (SX 14 y)] [] =
    some (.raw .nilIface, [some (.cells (((SX 14 y).set 1 (.bool true)).set 7 (.bool true)))], [y 1 = false, last = false]) := by kernel_rfl
theorem tb01 (y : Nat → Bool) : boolsAs (((SX 14 y).set 1 (.bool true)).set 7 (.bool true)) = some (LB 14 (takX y 0 1) 0) := by kernel_rfl
theorem tg01 (y : Nat → Bool) (last : Bool) (hk : takOk y 0 1 = true) (hl : last = true → safeW (takX y 0 1) 0 = true) : FnOk g5 19 [.ptr 0 0, .lit .i64 0, .lit .i64 1, .sbool last] [.cells (SX 14 y)] { val := .raw .nilIface, upd := [(0, some (.cells (SX 14 (takX y 0 1))))] } := by
  have h1 : y 1 = false := by simpa [takOk, keyI] using hk
  cases last with
  | true => exact FnOk.post1 (run1 g5_ok (tw01T y true) (by simp only [allC_cons, allC_nil, and_true]; exact ⟨h1, by decide, trivial, by rw [hl rfl]; rfl⟩)) (sx_self _)
  | false => exact FnOk.post1 (run1 g5_ok (tw01F y false) (by simp only [allC_cons, allC_nil, and_true]; exact h1)) (sx_post (tb01 y))
theorem tw02T (y : Nat → Bool) (last : Bool) : runF g5 600 [.br false, .br false, .br true, .br false] 19 [.ptr 0 0, .lit .i64 0, .lit .i64 2, .sbool last] [.cells (SX 14 y)] [] =
    some (.raw .nilIface, [some (.cells (SX 14 (takX y 0 2)))], [y 2 = false, (0 : Int) = 0 ∨ (0 : Int) = 1, (!(safeW y 0)) = false, (0 : Int) = 0 ∨ (0 : Int) = 1, last = true, (!(safeW (takX y 0 2) 0)) = false]) := by kernel_rfl
theorem tw02F (y : Nat → Bool) (last : Bool) : runF g5 600 [.br false, .br false, .br false] 19 [.ptr 0 0, .lit .i64 0, .lit .i64 2, .sbool last] [.cells (SX 14 y)] [] =
    some (.raw .nilIface, [some (.cells (((SX 14 (nrm 14 y)).set 2 (.bool true)).set 8 (.bool true)))], [y 2 = false, (0 : Int) = 0 ∨ (0 : Int) = 1, (!(safeW y 0)) = false, last = false]) := by kernel_rfl
theorem tb02 (y : Nat → Bool) : boolsAs (((SX 14 (nrm 14 y)).set 2 (.bool true)).set 8 (.bool true)) = some (LB 14 (takX y 0 2) 0) := by kernel_rfl
theorem tg02 (y : Nat → Bool) (last : Bool) (hk : takOk y 0 2 = true) (hl : last = true → safeW (takX y 0 2) 0 = true) : FnOk g5 19 [.ptr 0 0, .lit .i64 0, .lit .i64 2, .sbool last] [.cells (SX 14 y)] { val := .raw .nilIface, upd := [(0, some (.cells (SX 14 (takX y 0 2))))] } := by
  have h1 : y 2 = false ∧ safeW y 0 = true := by simpa [takOk, keyI] using hk
  cases last with
  | true => exact FnOk.post1 (run1 g5_ok (tw02T y true) (by simp only [allC_cons, allC_nil, and_true]; exact ⟨h1.1, by decide, by rw [h1.2]; rfl, by decide, trivial, by rw [hl rfl]; rfl⟩)) (sx_self _)
  | false => exact FnOk.post1 (run1 g5_ok (tw02F y false) (by simp only [allC_cons, allC_nil, and_true]; exact ⟨h1.1, by decide, by rw [h1.2]; rfl⟩)) (sx_post (tb02 y))
theorem tw03T (y : Nat → Bool) (last : Bool) : runF g5 600 [.br false, .br false, .br false, .br true, .br false] 19 [.ptr 0 0, .lit .i64 0, .lit .i64 3, .sbool last] [.cells (SX 14 y)] [] =
    some (.raw .nilIface, [some (.cells (SX 14 (takX y 0 3)))], [y 9 = false, (!(y 1)) = false, (!(y 4)) = false, (0 : Int) = 0 ∨ (0 : Int) = 1, last = true, (!(safeW (takX y 0 3) 0)) = false]) := by kernel_rfl
theorem tw03F (y : Nat → Bool) (last : Bool) : runF g5 600 [.br false, .br false, .br false, .br false] 19 [.ptr 0 0, .lit .i64 0, .lit .i64 3, .sbool last] [.cells (SX 14 y)] [] =
    some (.raw .nilIface, [some (.cells ((SX 14 y).set 9 (.bool true)))], [y 9 = false, (!(y 1)) = false, (!(y 4)) = false, last = false]) := by kernel_rfl
theorem tb03 (y : Nat → Bool) : boolsAs ((SX 14 y).set 9 (.bool true)) = some (LB 14 (takX y 0 3) 0) := by kernel_rfl
theorem tg03 (y : Nat → Bool) (last : Bool) (hk : takOk y 0 3 = true) (hl : last = true → safeW (takX y 0 3) 0 = true) : FnOk g5 19 [.ptr 0 0, .lit .i64 0, .lit .i64 3, .sbool last] [.cells (SX 14 y)] { val := .raw .nilIface, upd := [(0, some (.cells (SX 14 (takX y 0 3))))] } := by
  have h1 : y 9 = false ∧ y 1 = true ∧ y 4 = true := by simpa [takOk, hasW] using hk
  cases last with
  | true => exact FnOk.post1 (run1 g5_ok (tw03T y true) (by simp only [allC_cons, allC_nil, and_true]; exact ⟨h1.1, by rw [h1.2.1]; rfl, by rw [h1.2.2]; rfl, by decide, trivial, by rw [hl rfl]; rfl⟩)) (sx_self _)
  | false => exact FnOk.post1 (run1 g5_ok (tw03F y false) (by simp only [allC_cons, allC_nil, and_true]; exact ⟨h1.1, by rw [h1.2.1]; rfl, by rw [h1.2.2]; rfl⟩)) (sx_post (tb03 y))
theorem tw04T (y : Nat → Bool) (last : Bool) : runF g5 600 [.br false, .br false, .br false, .br true, .br false] 19 [.ptr 0 0, .lit .i64 0, .lit .i64 4, .sbool last] [.cells (SX 14 y)] [] =
    some (.raw .nilIface, [some (.cells (SX 14 (takX y 0 4)))], [y 10 = false, (!(y 1)) = false, (!(y 5)) = false, (0 : Int) = 0 ∨ (0 : Int) = 1, last = true, (!(safeW (takX y 0 4) 0)) = false]) := by kernel_rfl
theorem tw04F (y : Nat → Bool) (last : Bool) : runF g5 600 [.br false, .br false, .br false, .br false] 19 [.ptr 0 0, .lit .i64 0, .lit .i64 4, .sbool last] [.cells (SX 14 y)] [] =
    some (.raw .nilIface, [some (.cells ((SX 14 y).set 10 (.bool true)))], [y 10 = false, (!(y 1)) = false, (!(y 5)) = false, last = false]) := by kernel_rfl
theorem tb04 (y : Nat → Bool) : boolsAs ((SX 14 y).set 10 (.bool true)) = some (LB 14 (takX y 0 4) 0) := by kernel_rfl
theorem tg04 (y : Nat → Bool) (last : Bool) (hk : takOk y 0 4 = true) (hl : last = true → safeW (takX y 0 4) 0 = true) : FnOk g5 19 [.ptr 0 0, .lit .i64 0, .lit .i64 4, .sbool last] [.cells (SX 14 y)] { val := .raw .nilIface, upd := [(0, some (.cells (SX 14 (takX y 0 4))))] } := by
  have h1 : y 10 = false ∧ y 1 = true ∧ y 5 = true := by simpa [takOk, hasW] using hk
  cases last with
  | true => exact FnOk.post1 (run1 g5_ok (tw04T y true) (by simp only [allC_cons, allC_nil, and_true]; exact ⟨h1.1, by rw [h1.2.1]; rfl, by rw [h1.2.2]; rfl, by decide, trivial, by rw [hl rfl]; rfl⟩)) (sx_self _)
  | false => exact FnOk.post1 (run1 g5_ok (tw04F y false) (by simp only [allC_cons, allC_nil, and_true]; exact ⟨h1.1, by rw [h1.2.1]; rfl, by rw [h1.2.2]; rfl⟩)) (sx_post (tb04 y))
theorem tw05T (y : Nat → Bool) (last : Bool) : runF g5 600 [.br false, .br false, .br false, .br true, .br false] 19 [.ptr 0 0, .lit .i64 0, .lit .i64 5, .sbool last] [.cells (SX 14 y)] [] =
    some (.raw .nilIface, [some (.cells (SX 14 (takX y 0 5)))], [y 11 = false, (!(y 2)) = false, (!(y 4)) = false, (0 : Int) = 0 ∨ (0 : Int) = 1, last = true, (!(safeW (takX y 0 5) 0)) = false]) := by kernel_rfl
theorem tw05F (y : Nat → Bool) (last : Bool) : runF g5 600 [.br false, .br false, .br false, .br false] 19 [.ptr 0 0, .lit .i64 0, .lit .i64 5, .sbool last] [.cells (SX 14 y)] [] =
    some (.raw .nilIface, [some (.cells ((SX 14 y).set 11 (.bool true)))], [y 11 = false, (!(y 2)) = false, (!(y 4)) = false, last = false]) := by kernel_rfl
theorem tb05 (y : Nat → Bool) : boolsAs ((SX 14 y).set 11 (.bool true)) = some (LB 14 (takX y 0 5) 0) := by kernel_rfl
theorem tg05 (y : Nat → Bool) (last : Bool) (hk : takOk y 0 5 = true) (hl : last = true → safeW (takX y 0 5) 0 = true) : FnOk g5 19 [.ptr 0 0, .lit .i64 0, .lit .i64 5, .sbool last] [.cells (SX 14 y)] { val := .raw .nilIface, upd := [(0, some (.cells (SX 14 (takX y 0 5))))] } := by
  have h1 : y 11 = false ∧ y 2 = true ∧ y 4 = true := by simpa [takOk, hasW] using hk
  cases last with
  | true => exact FnOk.post1 (run1 g5_ok (tw05T y true) (by simp only [allC_cons, allC_nil, and_true]; exact ⟨h1.1, by rw [h1.2.1]; rfl, by rw [h1.2.2]; rfl, by decide, trivial, by rw [hl rfl]; rfl⟩)) (sx_self _)
  | false => exact FnOk.post1 (run1 g5_ok (tw05F y false) (by simp only [allC_cons, allC_nil, and_true]; exact ⟨h1.1, by rw [h1.2.1]; rfl, by rw [h1.2.2]; rfl⟩)) (sx_post (tb05 y))
theorem tw06T (y : Nat → Bool) (last : Bool) : runF g5 600 [.br false, .br false, .br false, .br true, .br false] 19 [.ptr 0 0, .lit .i64 0, .lit .i64 6, .sbool last] [.cells (SX 14 y)] [] =
    some (.raw .nilIface, [some (.cells (SX 14 (takX y 0 6)))], [y 12 = false, (!(y 2)) = false, (!(y 5)) = false, (0 : Int) = 0 ∨ (0 : Int) = 1, last = true, (!(safeW (takX y 0 6) 0)) = false]) := by kernel_rfl
theorem tw06F (y : Nat → Bool) (last : Bool) : runF g5 600 [.br false, .br false, .br false, .br false] 19 [.ptr 0 0, .lit .i64 0, .lit .i64 6, .sbool last] [.cells (SX 14 y)] [] =
    some (.raw .nilIface, [some (.cells ((SX 14 y).set 12 (.bool true)))], [y 12 = false, (!(y 2)) = false, (!(y 5)) = false, last = false]) := by kernel_rfl
theorem tb06 (y : Nat → Bool) : boolsAs ((SX 14 y).set 12 (.bool true)) = some (LB 14 (takX y 0 6) 0) := by kernel_rfl
theorem tg06 (y : Nat → Bool) (last : Bool) (hk : takOk y 0 6 = true) (hl : last = true → safeW (takX y 0 6) 0 = true) : FnOk g5 19 [.ptr 0 0, .lit .i64 0, .lit .i64 6, .sbool last] [.cells (SX 14 y)] { val := .raw .nilIface, upd := [(0, some (.cells (SX 14 (takX y 0 6))))] } := by
  have h1 : y 12 = false ∧ y 2 = true ∧ y 5 = true := by simpa [takOk, hasW] using hk
  cases last with
  | true => exact FnOk.post1 (run1 g5_ok (tw06T y true) (by simp only [allC_cons, allC_nil, and_true]; exact ⟨h1.1, by rw [h1.2.1]; rfl, by rw [h1.2.2]; rfl, by decide, trivial, by rw [hl rfl]; rfl⟩)) (sx_self _)
  | false => exact FnOk.post1 (run1 g5_ok (tw06F y false) (by simp only [allC_cons, allC_nil, and_true]; exact ⟨h1.1, by rw [h1.2.1]; rfl, by rw [h1.2.2]; rfl⟩)) (sx_post (tb06 y))
theorem tw07T (y : Nat → Bool) (last : Bool) : runF g5 600 [.br true, .br false] 19 [.ptr 0 0, .lit .i64 0, .lit .i64 7, .sbool last] [.cells (SX 14 y)] [] =
    some (.raw .nilIface, [some (.cells (SX 14 (takX y 0 7)))], [(0 : Int) = 0 ∨ (0 : Int) = 1, last = true, (!(safeW (takX y 0 7) 0)) = false]) := by kernel_rfl
theorem tw07F (y : Nat → Bool) (last : Bool) : runF g5 600 [.br false] 19 [.ptr 0 0, .lit .i64 0, .lit .i64 7, .sbool last] [.cells (SX 14 y)] [] =
    some (.raw .nilIface, [some (.cells ((SX 14 y).set 13 (.bool true)))], [last = false]) := by kernel_rfl
theorem tb07 (y : Nat → Bool) : boolsAs ((SX 14 y).set 13 (.bool true)) = some (LB 14 (takX y 0 7) 0) := by kernel_rfl
theorem tg07 (y : Nat → Bool) (last : Bool) (hk : takOk y 0 7 = true) (hl : last = true → safeW (takX y 0 7) 0 = true) : FnOk g5 19 [.ptr 0 0, .lit .i64 0, .lit .i64 7, .sbool last] [.cells (SX 14 y)] { val := .raw .nilIface, upd := [(0, some (.cells (SX 14 (takX y 0 7))))] } := by
  
  cases last with
  | true => exact FnOk.post1 (run1 g5_ok (tw07T y true) (by simp only [allC_cons, allC_nil, and_true]; exact ⟨by decide, trivial, by rw [hl rfl]; rfl⟩)) (sx_self _)
  | false => exact FnOk.post1 (run1 g5_ok (tw07F y false) (by simp only [allC_cons, allC_nil, and_true])) (sx_post (tb07 y))
theorem tw11T (y : Nat → Bool) (last : Bool) : runF g5 600 [.br false, .br true, .br false] 19 [.ptr 0 0, .lit .i64 1, .lit .i64 1, .sbool last] [.cells (SX 14 y)] [] =
    some (.raw .nilIface, [some (.cells (SX 14 (takX y 1 1)))], [y 4 = false, (1 : Int) = 0 ∨ (1 : Int) = 1, last = true, (!(safeW (takX y 1 1) 1)) = false]) := by kernel_rfl
theorem tw11F (y : Nat → Bool) (last : Bool) : runF g5 600 [.br false, .br false] 19 [.ptr 0 0, .lit .i64 1, .lit .i64 1, .sbool last] [.cells (SX 14 y)] [] =
    some (.raw .nilIface, [some (.cells (((SX 14 y).set 4 (.bool true)).set 7 (.bool true)))], [y 4 = false, last = false]) := by kernel_rfl
theorem tb11 (y : Nat → Bool) : boolsAs (((SX 14 y).set 4 (.bool true)).set 7 (.bool true)) = some (LB 14 (takX y 1 1) 0) := by kernel_rfl
theorem tg11 (y : Nat → Bool) (last : Bool) (hk : takOk y 1 1 = true) (hl : last = true → safeW (takX y 1 1) 1 = true) : FnOk g5 19 [.ptr 0 0, .lit .i64 1, .lit .i64 1, .sbool last] [.cells (SX 14 y)] { val := .raw .nilIface, upd := [(0, some (.cells (SX 14 (takX y 1 1))))] } := by
  have h1 : y 4 = false := by simpa [takOk, keyI] using hk
  cases last with
  | true => exact FnOk.post1 (run1 g5_ok (tw11T y true) (by simp only [allC_cons, allC_nil, and_true]; exact ⟨h1, by decide, trivial, by rw [hl rfl]; rfl⟩)) (sx_self _)
  | false => exact FnOk.post1 (run1 g5_ok (tw11F y false) (by simp only [allC_cons, allC_nil, and_true]; exact h1)) (sx_post (tb11 y))
theorem tw12T (y : Nat → Bool) (last : Bool) : runF g5 600 [.br false, .br false, .br true, .br false] 19 [.ptr 0 0, .lit .i64 1, .lit .i64 2, .sbool last] [.cells (SX 14 y)] [] =
    some (.raw .nilIface, [some (.cells (SX 14 (takX y 1 2)))], [y 5 = false, (1 : Int) = 0 ∨ (1 : Int) = 1, (!(safeW y 1)) = false, (1 : Int) = 0 ∨ (1 : Int) = 1, last = true, (!(safeW (takX y 1 2) 1)) = false]) := by kernel_rfl
theorem tw12F (y : Nat → Bool) (last : Bool) : runF g5 600 [.br false, .br false, .br false] 19 [.ptr 0 0, .lit .i64 1, .lit .i64 2, .sbool last] [.cells (SX 14 y)] [] =
    some (.raw .nilIface, [some (.cells (((SX 14 (nrm 14 y)).set 5 (.bool true)).set 8 (.bool true)))], [y 5 = false, (1 : Int) = 0 ∨ (1 : Int) = 1, (!(safeW y 1)) = false, last = false]) := by kernel_rfl
theorem tb12 (y : Nat → Bool) : boolsAs (((SX 14 (nrm 14 y)).set 5 (.bool true)).set 8 (.bool true)) = some (LB 14 (takX y 1 2) 0) := by kernel_rfl
theorem tg12 (y : Nat → Bool) (last : Bool) (hk : takOk y 1 2 = true) (hl : last = true → safeW (takX y 1 2) 1 = true) : FnOk g5 19 [.ptr 0 0, .lit .i64 1, .lit .i64 2, .sbool last] [.cells (SX 14 y)] { val := .raw .nilIface, upd := [(0, some (.cells (SX 14 (takX y 1 2))))] } := by
  have h1 : y 5 = false ∧ safeW y 1 = true := by simpa [takOk, keyI] using hk
  cases last with
  | true => exact FnOk.post1 (run1 g5_ok (tw12T y true) (by simp only [allC_cons, allC_nil, and_true]; exact ⟨h1.1, by decide, by rw [h1.2]; rfl, by decide, trivial, by rw [hl rfl]; rfl⟩)) (sx_self _)
  | false => exact FnOk.post1 (run1 g5_ok (tw12F y false) (by simp only [allC_cons, allC_nil, and_true]; exact ⟨h1.1, by decide, by rw [h1.2]; rfl⟩)) (sx_post (tb12 y))
theorem tw13T (y : Nat → Bool) (last : Bool) : runF g5 600 [.br false, .br false, .br false, .br true, .br false] 19 [.ptr 0 0, .lit .i64 1, .lit .i64 3, .sbool last] [.cells (SX 14 y)] [] =
    some (.raw .nilIface, [some (.cells (SX 14 (takX y 1 3)))], [y 9 = false, (!(y 1)) = false, (!(y 4)) = false, (1 : Int) = 0 ∨ (1 : Int) = 1, last = true, (!(safeW (takX y 1 3) 1)) = false]) := by kernel_rfl
theorem tw13F (y : Nat → Bool) (last : Bool) : runF g5 600 [.br false, .br false, .br false, .br false] 19 [.ptr 0 0, .lit .i64 1, .lit .i64 3, .sbool last] [.cells (SX 14 y)] [] =
    some (.raw .nilIface, [some (.cells ((SX 14 y).set 9 (.bool true)))], [y 9 = false, (!(y 1)) = false, (!(y 4)) = false, last = false]) := by kernel_rfl
theorem tb13 (y : Nat → Bool) : boolsAs ((SX 14 y).set 9 (.bool true)) = some (LB 14 (takX y 1 3) 0) := by kernel_rfl
theorem tg13 (y : Nat → Bool) (last : Bool) (hk : takOk y 1 3 = true) (hl : last = true → safeW (takX y 1 3) 1 = true) : FnOk g5 19 [.ptr 0 0, .lit .i64 1, .lit .i64 3, .sbool last] [.cells (SX 14 y)] { val := .raw .nilIface, upd := [(0, some (.cells (SX 14 (takX y 1 3))))] } := by
  have h1 : y 9 = false ∧ y 1 = true ∧ y 4 = true := by simpa [takOk, hasW] using hk
  cases last with
  | true => exact FnOk.post1 (run1 g5_ok (tw13T y true) (by simp only [allC_cons, allC_nil, and_true]; exact ⟨h1.1, by rw [h1.2.1]; rfl, by rw [h1.2.2]; rfl, by decide, trivial, by rw [hl rfl]; rfl⟩)) (sx_self _)
  | false => exact FnOk.post1 (run1 g5_ok (tw13F y false) (by simp only [allC_cons, allC_nil, and_true]; exact ⟨h1.1, by rw [h1.2.1]; rfl, by rw [h1.2.2]; rfl⟩)) (sx_post (tb13 y))
theorem tw14T (y : Nat → Bool) (last : Bool) : runF g5 600 [.br false, .br false, .br false, .br true, .br false] 19 [.ptr 0 0, .lit .i64 1, .lit .i64 4, .sbool last] [.cells (SX 14 y)] [] =
    some (.raw .nilIface, [some (.cells (SX 14 (takX y 1 4)))], [y 10 = false, (!(y 1)) = false, (!(y 5)) = false, (1 : Int) = 0 ∨ (1 : Int) = 1, last = true, (!(safeW (takX y 1 4) 1)) = false]) := by kernel_rfl
theorem tw14F (y : Nat → Bool) (last : Bool) : runF g5 600 [.br false, .br false, .br false, .br false] 19 [.ptr 0 0, .lit .i64 1, .lit .i64 4, .sbool last] [.cells (SX 14 y)] [] =
    some (.raw .nilIface, [some (.cells ((SX 14 y).set 10 (.bool true)))], [y 10 = false, (!(y 1)) = false, (!(y 5)) = false, last = false]) := by kernel_rfl
theorem tb14 (y : Nat → Bool) : boolsAs ((SX 14 y).set 10 (.bool true)) = some (LB 14 (takX y 1 4) 0) := by kernel_rfl
theorem tg14 (y : Nat → Bool) (last : Bool) (hk : takOk y 1 4 = true) (hl : last = true → safeW (takX y 1 4) 1 = true) : FnOk g5 19 [.ptr 0 0, .lit .i64 1, .lit .i64 4, .sbool last] [.cells (SX 14 y)] { val := .raw .nilIface, upd := [(0, some (.cells (SX 14 (takX y 1 4))))] } := by
  have h1 : y 10 = false ∧ y 1 = true ∧ y 5 = true := by simpa [takOk, hasW] using hk
  cases last with
  | true => exact FnOk.post1 (run1 g5_ok (tw14T y true) (by simp only [allC_cons, allC_nil, and_true]; exact ⟨h1.1, by rw [h1.2.1]; rfl, by rw [h1.2.2]; rfl, by decide, trivial, by rw [hl rfl]; rfl⟩)) (sx_self _)
  | false => exact FnOk.post1 (run1 g5_ok (tw14F y false) (by simp only [allC_cons, allC_nil, and_true]; exact ⟨h1.1, by rw [h1.2.1]; rfl, by rw [h1.2.2]; rfl⟩)) (sx_post (tb14 y))
theorem tw15T (y : Nat → Bool) (last : Bool) : runF g5 600 [.br false, .br false, .br false, .br true, .br false] 19 [.ptr 0 0, .lit .i64 1, .lit .i64 5, .sbool last] [.cells (SX 14 y)] [] =
    some (.raw .nilIface, [some (.cells (SX 14 (takX y 1 5)))], [y 11 = false, (!(y 2)) = false, (!(y 4)) = false, (1 : Int) = 0 ∨ (1 : Int) = 1, last = true, (!(safeW (takX y 1 5) 1)) = false]) := by kernel_rfl
theorem tw15F (y : Nat → Bool) (last : Bool) : runF g5 600 [.br false, .br false, .br false, .br false] 19 [.ptr 0 0, .lit .i64 1, .lit .i64 5, .sbool last] [.cells (SX 14 y)] [] =
    some (.raw .nilIface, [some (.cells ((SX 14 y).set 11 (.bool true)))], [y 11 = false, (!(y 2)) = false, (!(y 4)) = false, last = false]) := by kernel_rfl
theorem tb15 (y : Nat → Bool) : boolsAs ((SX 14 y).set 11 (.bool true)) = some (LB 14 (takX y 1 5) 0) := by kernel_rfl
theorem tg15 (y : Nat → Bool) (last : Bool) (hk : takOk y 1 5 = true) (hl : last = true → safeW (takX y 1 5) 1 = true) : FnOk g5 19 [.ptr 0 0, .lit .i64 1, .lit .i64 5, .sbool last] [.cells (SX 14 y)] { val := .raw .nilIface, upd := [(0, some (.cells (SX 14 (takX y 1 5))))] } := by
  have h1 : y 11 = false ∧ y 2 = true ∧ y 4 = true := by simpa [takOk, hasW] using hk
  cases last with
  | true => exact FnOk.post1 (run1 g5_ok (tw15T y true) (by simp only [allC_cons, allC_nil, and_true]; exact ⟨h1.1, by rw [h1.2.1]; rfl, by rw [h1.2.2]; rfl, by decide, trivial, by rw [hl rfl]; rfl⟩)) (sx_self _)
  | false => exact FnOk.post1 (run1 g5_ok (tw15F y false) (by simp only [allC_cons, allC_nil, and_true]; exact ⟨h1.1, by rw [h1.2.1]; rfl, by rw [h1.2.2]; rfl⟩)) (sx_post (tb15 y))
theorem tw16T (y : Nat → Bool) (last : Bool) : runF g5 600 [.br false, .br false, .br false, .br true, .br false] 19 [.ptr 0 0, .lit .i64 1, .lit .i64 6, .sbool last] [.cells (SX 14 y)] [] =
    some (.raw .nilIface, [some (.cells (SX 14 (takX y 1 6)))], [y 12 = false, (!(y 2)) = false, (!(y 5)) = false, (1 : Int) = 0 ∨ (1 : Int) = 1, last = true, (!(safeW (takX y 1 6) 1)) = false]) := by kernel_rfl
theorem tw16F (y : Nat → Bool) (last : Bool) : runF g5 600 [.br false, .br false, .br false, .br false] 19 [.ptr 0 0, .lit .i64 1, .lit .i64 6, .sbool last] [.cells (SX 14 y)] [] =
    some (.raw .nilIface, [some (.cells ((SX 14 y).set 12 (.bool true)))], [y 12 = false, (!(y 2)) = false, (!(y 5)) = false, last = false]) := by kernel_rfl
theorem tb16 (y : Nat → Bool) : boolsAs ((SX 14 y).set 12 (.bool true)) = some (LB 14 (takX y 1 6) 0) := by kernel_rfl
theorem tg16 (y : Nat → Bool) (last : Bool) (hk : takOk y 1 6 = true) (hl : last = true → safeW (takX y 1 6) 1 = true) : FnOk g5 19 [.ptr 0 0, .lit .i64 1, .lit .i64 6, .sbool last] [.cells (SX 14 y)] { val := .raw .nilIface, upd := [(0, some (.cells (SX 14 (takX y 1 6))))] } := by
  have h1 : y 12 = false ∧ y 2 = true ∧ y 5 = true := by simpa [takOk, hasW] using hk
  cases last with
  | true => exact FnOk.post1 (run1 g5_ok (tw16T y true) (by simp only [allC_cons, allC_nil, and_true]; exact ⟨h1.1, by rw [h1.2.1]; rfl, by rw [h1.2.2]; rfl, by decide, trivial, by rw [hl rfl]; rfl⟩)) (sx_self _)
  | false => exact FnOk.post1 (run1 g5_ok (tw16F y false) (by simp only [allC_cons, allC_nil, and_true]; exact ⟨h1.1, by rw [h1.2.1]; rfl, by rw [h1.2.2]; rfl⟩)) (sx_post (tb16 y))
theorem tw17T (y : Nat → Bool) (last : Bool) : runF g5 600 [.br true, .br false] 19 [.ptr 0 0, .lit .i64 1, .lit .i64 7, .sbool last] [.cells (SX 14 y)] [] =
    some (.raw .nilIface, [some (.cells (SX 14 (takX y 1 7)))], [(1 : Int) = 0 ∨ (1 : Int) = 1, last = true, (!(safeW (takX y 1 7) 1)) = false]) := by kernel_rfl
theorem tw17F (y : Nat → Bool) (last : Bool) : runF g5 600 [.br false] 19 [.ptr 0 0, .lit .i64 1, .lit .i64 7, .sbool last] [.cells (SX 14 y)] [] =
    some (.raw .nilIface, [some (.cells ((SX 14 y).set 13 (.bool true)))], [last = false]) := by kernel_rfl
theorem tb17 (y : Nat → Bool) : boolsAs ((SX 14 y).set 13 (.bool true)) = some (LB 14 (takX y 1 7) 0) := by kernel_rfl
theorem tg17 (y : Nat → Bool) (last : Bool) (hk : takOk y 1 7 = true) (hl : last = true → safeW (takX y 1 7) 1 = true) : FnOk g5 19 [.ptr 0 0, .lit .i64 1, .lit .i64 7, .sbool last] [.cells (SX 14 y)] { val := .raw .nilIface, upd := [(0, some (.cells (SX 14 (takX y 1 7))))] } := by
  
  cases last with
  | true => exact FnOk.post1 (run1 g5_ok (tw17T y true) (by simp only [allC_cons, allC_nil, and_true]; exact ⟨by decide, trivial, by rw [hl rfl]; rfl⟩)) (sx_self _)
  | false => exact FnOk.post1 (run1 g5_ok (tw17F y false) (by simp only [allC_cons, allC_nil, and_true])) (sx_post (tb17 y))
def F19 : SumF := fun args B => match args, B with
  | [.ptr 0 0, .int .i64 s, .int .i64 t, .sbool last], [.cells cs] => match sxOf 14 cs with
    | some y => some { val := .raw .nilIface, upd := [(0, some (.cells (SX 14 (takX y s t))))], reads := [0], C := [(s = 0 ∨ s = 1) ∧ 1 ≤ t ∧ t ≤ 7, takOk y s t = true, last = true → safeW (takX y s t) s = true] }
    | none => none
  | _, _ => none
theorem acc19 : Acc g5 19 F19 := by
  intro args B out h hC
  unfold F19 at h
  split at h
  · rename_i s t last cs
    split at h
    · rename_i y hy
      simp only [Option.some.injEq] at h; subst h
      simp only [allC_cons, allC_nil, and_true] at hC
      obtain ⟨⟨hs, h1, h2⟩, hk, hl⟩ := hC
      have ht : t = 1 ∨ t = 2 ∨ t = 3 ∨ t = 4 ∨ t = 5 ∨ t = 6 ∨ t = 7 := by omega
      refine FnOk.preB (B' := [.cells (SX 14 y)]) ?_ ⟨sx_cells hy, trivial⟩ (fun j => by
        match j with
        | 0 => rfl
        | j + 1 => simp [afterH, newH, newAll, updAll, upH, BH])
      refine FnOk.imp (args' := [.ptr 0 0, .lit .i64 s, .lit .i64 t, .sbool last]) ?_ ⟨DenImp.refl _, lit_imp (fits_small (by omega) (by omega)), lit_imp (fits_small (by omega) (by omega)), DenImp.refl _, trivial⟩
      rcases hs with rfl | rfl <;> rcases ht with rfl | rfl | rfl | rfl | rfl | rfl | rfl
      · exact FnOk.post1 (tg01 y last hk hl) (sx_self _)
      · exact FnOk.post1 (tg02 y last hk hl) (sx_self _)
      · exact FnOk.post1 (tg03 y last hk hl) (sx_self _)
      · exact FnOk.post1 (tg04 y last hk hl) (sx_self _)
      · exact FnOk.post1 (tg05 y last hk hl) (sx_self _)
      · exact FnOk.post1 (tg06 y last hk hl) (sx_self _)
      · exact FnOk.post1 (tg07 y last hk hl) (sx_self _)
      · exact FnOk.post1 (tg11 y last hk hl) (sx_self _)
      · exact FnOk.post1 (tg12 y last hk hl) (sx_self _)
      · exact FnOk.post1 (tg13 y last hk hl) (sx_self _)
      · exact FnOk.post1 (tg14 y last hk hl) (sx_self _)
      · exact FnOk.post1 (tg15 y last hk hl) (sx_self _)
      · exact FnOk.post1 (tg16 y last hk hl) (sx_self _)
      · exact FnOk.post1 (tg17 y last hk hl) (sx_self _)
    · simp at h
  · simp at h
end Go.Proofs.Tryd
